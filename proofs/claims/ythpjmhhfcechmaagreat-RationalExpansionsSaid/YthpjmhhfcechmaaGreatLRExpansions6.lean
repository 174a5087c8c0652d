/- Parts Ls, Jd, Jb, Jh, Je, So, Ln, in one file. -/
import Derived.OwnWalk
import Derived.Test.YthpjmhhfcechmaaGreatLRExpansions2
import Derived.Test.YthpjmhhfcechmaaGreatLRExpansions3
import Derived.Test.YthpjmhhfcechmaaGreatLRExpansions4
import Derived.Test.YthpjmhhfcechmaaGreatLRExpansions5
/- The reference's division, digit by digit. No program in sight. -/
set_option linter.unusedVariables false
set_option linter.unusedSimpArgs false
namespace Go.Proofs.YthpjmhhfcechmaaGreat.Ma
structure Dv (xs : List Int) (Y : Int) (t : Nat) (out : List Int) (R : Int) : Prop where
 le : t ≤ xs.length
 len : out.length = xs.length
 d : dg 65536 out
 z : ∀ m, m < t → at0 out m = 0
 r0 : 0 ≤ R
 r1 : R < Y
 eq : 65536 ^ t * lv 65536 (xs.drop t) = lv 65536 out * Y + 65536 ^ t * R
theorem Dv.start (xs : List Int) {Y : Int} (hY : 0 < Y) : Dv xs Y xs.length (List.replicate xs.length 0) 0 :=
 ⟨Nat.le_refl _, List.length_replicate, dg_replicate _ (by decide) (by decide), fun m _ => zeros_at _ _, Int.le_refl _, hY, by rw [List.drop_length, lv_zeros]; simp [lv]⟩
def Se (Y R lo hi : Int) : Prop := 0 ≤ lo ∧ lo < hi ∧ hi ≤ 65536 ∧ Y * lo ≤ R ∧ R < Y * hi
theorem Se.fin {Y R lo hi : Int} (h : Se Y R lo hi) (hh : ¬ 1 < hi - lo) : 0 ≤ R - Y * lo ∧ R - Y * lo < Y ∧ lo < 65536 ∧ 0 ≤ lo := by
 obtain ⟨a, b, c, d, e⟩ := h
 have : hi = lo + 1 := by omega
 subst this
 rw [Int.mul_add, Int.mul_one] at e
 omega
theorem Dv.front {xs : List Int} {Y : Int} {i : Nat} {out : List Int} {R : Int} (h : Dv xs Y (i + 1) out R) (dx : dg 65536 xs) : Se Y (at0 xs i + 65536 * R) 0 65536 := by
 obtain ⟨x0, x1⟩ := dg_at dx BJ_pos i
 have h0 := h.r0
 have h1 := h.r1
 refine ⟨by omega, by decide, Int.le_refl _, by rw [Int.mul_zero]; omega, by omega⟩
theorem Dv.step {xs : List Int} {Y : Int} {i : Nat} {out : List Int} {R lo : Int} (h : Dv xs Y (i + 1) out R) (dx : dg 65536 xs) (h0 : 0 ≤ at0 xs i + 65536 * R - Y * lo) (h1 : at0 xs i + 65536 * R - Y * lo < Y) (l0 : 0 ≤ lo) (l1 : lo < 65536) : Dv xs Y i (out.set i lo) (at0 xs i + 65536 * R - Y * lo) := by
 have hi : i < xs.length := h.le
 have ho : i < out.length := by rw [h.len]; exact hi
 refine ⟨by omega, by rw [List.length_set, h.len], dg_set h.d _ l0 l1, fun m hm => ?_, h0, h1, ?_⟩
 ·rw [at0_set _ ho, if_neg (by omega)]; exact h.z m (by omega)
 ·have e := h.eq
  rw [lv_drop 65536 xs i hi, lv_set 65536 out i lo ho, h.z i (by omega), Int.sub_zero]
  rw [Int.pow_succ] at e
  generalize (65536 : Int) ^ i = A at *
  generalize lv 65536 (xs.drop (i + 1)) = V at *
  generalize lv 65536 out = O at *
  generalize at0 xs i = u at *
  grind
theorem Dv.fin {xs : List Int} {Y : Int} {out : List Int} {R : Int} (h : Dv xs Y 0 out R) : lv 65536 out = lv 65536 xs / Y ∧ R = lv 65536 xs % Y := by
 have e := h.eq
 simp only [Int.pow_zero, Int.one_mul, List.drop_zero] at e
 have hY : 0 < Y := by have := h.r0; have := h.r1; omega
 have e' : lv 65536 xs = R + Y * lv 65536 out := by rw [e, Int.mul_comm]; omega
 rw [e', Int.add_mul_ediv_left _ _ (Int.ne_of_gt hY), Int.add_mul_emod_self_left, Int.ediv_eq_zero_of_lt h.r0 h.r1, Int.emod_eq_of_lt h.r0 h.r1]
 omega
theorem rest_len {rs ys : List Int} (d : dg 65536 rs) (t : top rs) (dy : dg 65536 ys) (h : lv 65536 rs < 65536 * lv 65536 ys) : rs.length ≤ ys.length + 1 := by
 apply Classical.byContradiction
 intro hn
 have hne : rs ≠ [] := fun h => by rw [h] at hn; simp at hn
 have h1 := top_le BJ_pos d t hne
 have h2 := lv_lt BJ_pos dy
 have h3 := pow_le (b := 65536) (by decide) (show ys.length + 1 ≤ rs.length - 1 by omega)
 rw [Int.pow_succ] at h3
 omega
end Go.Proofs.YthpjmhhfcechmaaGreat.Ma
/- The reference's divided, by rules. -/
namespace Go.Proofs.YthpjmhhfcechmaaGreat.Sy
open Go Go.RowKit Ma
theorem dg1 {b x : Int} (h : 0 ≤ x ∧ x < b) : dg b [x] := fun y hy => by rw [List.mem_singleton] at hy; subst hy; exact h
theorem lv1 (b x : Int) : lv b [x] = x := by simp [lv]
theorem cmp_np {a b : Int} (h : a ≤ b) : cmp a b ≤ 0 := by
 unfold cmp
 by_cases h1 : a < b
 ·rw [if_pos h1]; decide
 ·rw [if_neg h1, if_pos (by omega)]; decide
theorem prod_len {ps ys : List Int} {m : Int} (d : dg 65536 ps) (t : top ps) (dy : dg 65536 ys) (e : lv 65536 ps = lv 65536 ys * m) (hm : m < 65536) (hy : ys.length ≤ 1000000) : ps.length ≤ 2000000 := by
 have hy0 := lv_nonneg BJ_pos dy
 by_cases h0 : lv 65536 ys = 0
 ·have : ps.length = 0 := (KDt.zero_iff (z := 0) ⟨d, by rw [e, h0]; simp, t⟩).1 rfl
  omega
 ·have h1 : lv 65536 ys * m < lv 65536 ys * 65536 := Int.mul_lt_mul_of_pos_left hm (by omega)
  have := rest_len d t dy (by rw [e]; omega)
  omega
set_option maxHeartbeats 6400000 in
set_option maxRecDepth 100000 in
theorem rdivided_c {A A2 : Option Addr} {c d : Nat} {xs ys : List Int} {w : World} (rA : Rd w .i64 A xs) (rB : Rd w .i64 A2 ys) (dx : dg 65536 xs) (dy : dg 65536 ys) (hx : xs.length ≤ 900000) (hy : ys.length ≤ 900000) (hY : 0 < lv 65536 ys) :
  Calls Tryz.prog 121 #[.slice A xs.length c, .slice A2 ys.length d] w (Ret w (K2 (KL .i64 fun zs => dg 65536 zs ∧ lv 65536 zs = lv 65536 xs / lv 65536 ys ∧ top zs) (KL .i64 fun zs => dg 65536 zs ∧ lv 65536 zs = lv 65536 xs % lv 65536 ys ∧ top zs))) := by
 refine calls_sc (l := [.vl (.slice A xs.length c), .vl (.slice A2 ys.length d)]) (us := [.slice A xs.length c, .slice A2 ys.length d]) 62 Tryz.func121 rfl Tryz.ntmps121 (by simp) ⟨rfl, rfl, rfl, rfl, trivial⟩ ?_
 refine SC.seq (SC.region (PW.assign rfl rfl rfl rfl rfl (PW.assign rfl rfl rfl rfl rfl (PW.nil (SX.then (SC.seq (SC.region (PW.move rfl rfl rfl rfl rfl ?_))))))))
 refine PW.qn [(.tmp 12, .slice A xs.length c)] (.int .i64 (xs.length : Int)) rfl rfl rfl ⟨rfl, trivial⟩ (fun ρ W h => by obtain ⟨h1, _⟩ := h; exact r_lenI h1) ?_
 refine PW.make (n := xs.length) 62 rfl rfl rfl rfl rfl Tryz.underlying32 info_i64 (by omega) (by unfold maxLen; omega) fun g1 => ?_
 refine PW.assign rfl rfl rfl rfl rfl (PW.nil (SX.then (SC.seq (SC.region (PW.assign rfl rfl rfl rfl rfl (PW.nil (SX.then (SC.seq (SC.seq (SC.region (PW.move rfl rfl rfl rfl rfl ?_)))))))))))
 refine PW.qn [(.tmp 15, .slice A xs.length c)] (.int .i64 (xs.length : Int)) rfl rfl rfl ⟨rfl, trivial⟩ (fun ρ W h => by obtain ⟨h1, _⟩ := h; exact r_lenI h1) ?_
 refine PW.q2 (x := .tmp 16) (y := .const (.int .i64 1)) (.int .i64 ((xs.length : Int) - 1)) rfl rfl rfl rfl rfl (fun ρ W h1 h2 => by exact r_sub h1 h2 rfl (by omega)) ?_
 refine PW.assign rfl rfl rfl rfl rfl (PW.nil (SX.then (SC.block ?_)))
 refine SC.weak (fun a W hf => Fr.nilrow 63 3 (.int .i64) hf) ?_
 refine SC.loop (S := Nat × List Int × Value × List Int) (fun ⟨t, out, v, rs⟩ => [(0, .vl (.slice A xs.length c)), (1, .vl (.slice A2 ys.length d)), (6, .vl (.slice (some ⟨g1, 0, none⟩) xs.length xs.length)), (7, .vl (v)), (8, .vl (.int .i64 ((t : Int) - 1))), (62, .ro (.slice (some ⟨g1, 0, none⟩) xs.length xs.length) 3 (.int .i64) (out)), (63, .ro (v) 3 (.int .i64) (rs))]) (fun ⟨t, out, v, rs⟩ => Dv xs (lv 65536 ys) t out (lv 65536 rs) ∧ dg 65536 rs ∧ top rs) (fun ⟨t, out, v, rs⟩ => t) (xs.length, List.replicate xs.length 0, .slice none 0 0, []) ⟨Dv.start xs hY, dg_nil _, top_nil⟩ ⟨rfl, rfl, rfl, rfl, rfl, rfl, rfl, trivial⟩ ?_
 rintro ⟨t, out, v, rs⟩ ⟨hD, hd, htp⟩
 show SC _ _ _ _ [(0, .vl (.slice A xs.length c)), (1, .vl (.slice A2 ys.length d)), (6, .vl (.slice (some ⟨g1, 0, none⟩) xs.length xs.length)), (7, .vl (v)), (8, .vl (.int .i64 ((t : Int) - 1))), (62, .ro (.slice (some ⟨g1, 0, none⟩) xs.length xs.length) 3 (.int .i64) (out)), (63, .ro (v) 3 (.int .i64) (rs))] _
 refine SC.seq (SC.seq ?_)
 by_cases ht : (0 : Int) ≤ (t : Int) - 1
 ·obtain ⟨i, rfl⟩ : ∃ i, t = i + 1 := ⟨t - 1, by omega⟩
  rw [show ((i + 1 : Nat) : Int) - 1 = (i : Int) by omega]
  rw [show ((i + 1 : Nat) : Int) - 1 = (i : Int) by omega] at ht
  have hil := hD.le
  have hol := hD.len
  have hrs := rest_len hd htp dy (by have := hD.r1; have := hD.r0; omega)
  refine SC.region (PW.move rfl rfl rfl rfl rfl ?_)
  refine PW.q2 (x := .tmp 18) (y := .const (.int .i64 0)) (.bool true) rfl rfl rfl rfl rfl (fun ρ W h1 h2 => by exact r_ge h1 h2 (decide_eq_true ht)) ?_
  refine PW.nil (SX.then (SC.cond (t := true) rfl (SC.skip (SX.then (SC.seq (SC.block (SC.seq (SC.region (PW.move rfl rfl rfl rfl rfl (PW.move rfl rfl rfl rfl rfl ?_))))))))))
  refine PW.q2 (x := .tmp 22) (y := .tmp 23) (.pointer (padd A i)) rfl rfl rfl rfl rfl (fun ρ W h1 h2 => r_idxRI rA h1 h2 (by omega)) ?_
  refine PW.iget (i := i) rfl rfl rfl rfl rfl rfl rA (by omega) r_l64 ?_
  refine PW.bs (f := .int .i64) 64 [(at0 xs i)] (by simp) rfl rfl rfl (fun a W hf => r_b1I (hf.vl (s := 25) rfl)) (by unfold maxLen; show 1 ≤ _; omega) fun gq1 => ?_
  refine PW.move rfl rfl rfl rfl rfl ?_
  refine PW.apr (K := 64) (K2 := 63) (f := .int .i64) rfl rfl rfl rfl rfl rfl rfl rfl rfl Tryz.underlying32 info_i64 rfl (fun _ => rfl) (by unfold maxLen; show 1 + _ ≤ _; omega) (by show (1 + _) * 8 ≤ _; omega) rfl fun vq2 => ?_
  refine PW.callG (r := .vl (tv (vq2) (trim (([(at0 xs i)]) ++ rs)).length)) ce_rtrimmed rfl rfl rfl rfl rfl (KV.st _) rfl (fun a W hf => by have h1 := hf.vl (s := 28) rfl; have h2 : OwF W _ _ (.int .i64) (vq2) (([(at0 xs i)]) ++ rs) := hf.ho 64 _ rfl; show Calls Tryz.prog _ #[a.tmps.getD 28 undef] W _; rw [h1]; exact tv_calls h2) ?_
  refine PW.more _ (fun a W hf => Fr.trimv (K := 64) hf rfl) ?_
  refine PW.assign rfl rfl rfl rfl rfl (PW.nil (SX.then (SC.seq ?_)))
  refine SC.keep [(0, .vl (.slice A xs.length c)), (1, .vl (.slice A2 ys.length d)), (6, .vl (.slice (some ⟨g1, 0, none⟩) xs.length xs.length)), (7, .vl (tv (vq2) (trim (([(at0 xs i)]) ++ rs)).length)), (8, .vl (.int .i64 (i : Int))), (62, .ro (.slice (some ⟨g1, 0, none⟩) xs.length xs.length) 3 (.int .i64) (out)), (63, .ro (v) 3 (.int .i64) (rs)), (64, .ro (tv (vq2) (trim (([(at0 xs i)]) ++ rs)).length) 3 (.int .i64) (trim (([(at0 xs i)]) ++ rs)))] ⟨rfl, rfl, rfl, rfl, rfl, rfl, rfl, rfl, trivial⟩ ?_
  refine SC.rename (K1 := 63) (K2 := 64) rfl rfl rfl ?_
  have e1 : lv 65536 (trim (([(at0 xs i)]) ++ rs)) = at0 xs i + 65536 * lv 65536 rs := by rw [trim_lv]; simp [lv]
  have dr : dg 65536 (trim (([(at0 xs i)]) ++ rs)) := trim_dg (dg_append.2 ⟨dg1 (dg_at dx BJ_pos i), hd⟩)
  have tr : top (trim (([(at0 xs i)]) ++ rs)) := trim_top _
  generalize tv (vq2) (trim (([(at0 xs i)]) ++ rs)).length = v1 at ⊢
  generalize trim (([(at0 xs i)]) ++ rs) = r1 at e1 dr tr ⊢
  have hse := hD.front dx
  rw [← e1] at hse
  have hrl := rest_len dr tr dy (by have := hse.2.2.2.2; omega)
  refine SC.region (PW.assign rfl rfl rfl rfl rfl (PW.assign rfl rfl rfl rfl rfl (PW.nil (SX.then (SC.seq (SC.block ?_))))))
  refine SC.loop (S := Int × Int) (fun ⟨lo, hi⟩ => [(0, .vl (.slice A xs.length c)), (1, .vl (.slice A2 ys.length d)), (6, .vl (.slice (some ⟨g1, 0, none⟩) xs.length xs.length)), (7, .vl (v1)), (8, .vl (.int .i64 (i : Int))), (9, .vl (.int .i64 (lo))), (10, .vl (.int .i64 (hi))), (62, .ro (.slice (some ⟨g1, 0, none⟩) xs.length xs.length) 3 (.int .i64) (out)), (63, .ro (v1) 3 (.int .i64) (r1))]) (fun ⟨lo, hi⟩ => Se (lv 65536 ys) (lv 65536 r1) lo hi) (fun ⟨lo, hi⟩ => (hi - lo).toNat) (0, 65536) hse ⟨rfl, rfl, rfl, rfl, rfl, rfl, rfl, rfl, rfl, trivial⟩ ?_
  rintro ⟨lo, hi⟩ hE
  show SC _ _ _ _ [(0, .vl (.slice A xs.length c)), (1, .vl (.slice A2 ys.length d)), (6, .vl (.slice (some ⟨g1, 0, none⟩) xs.length xs.length)), (7, .vl (v1)), (8, .vl (.int .i64 (i : Int))), (9, .vl (.int .i64 (lo))), (10, .vl (.int .i64 (hi))), (62, .ro (.slice (some ⟨g1, 0, none⟩) xs.length xs.length) 3 (.int .i64) (out)), (63, .ro (v1) 3 (.int .i64) (r1))] _
  obtain ⟨b0, b1, b2, b3, b4⟩ := id hE
  refine SC.seq (SC.seq ?_)
  by_cases hs : (1 : Int) < hi - lo
  ·refine SC.region ?_
   refine PW.move rfl rfl rfl rfl rfl (PW.move rfl rfl rfl rfl rfl ?_)
   refine PW.q2 (x := .tmp 30) (y := .tmp 31) (.int .i64 (hi - lo)) rfl rfl rfl rfl rfl (fun ρ W h1 h2 => by exact r_sub h1 h2 rfl (by omega)) ?_
   refine PW.q2 (x := .tmp 32) (y := .const (.int .i64 1)) (.bool true) rfl rfl rfl rfl rfl (fun ρ W h1 h2 => by exact r_gt h1 h2 (decide_eq_true hs)) ?_
   refine PW.nil (SX.then (SC.cond (t := true) rfl (SC.skip (SX.then (SC.block (SC.seq (SC.region (PW.move rfl rfl rfl rfl rfl (PW.move rfl rfl rfl rfl rfl ?_)))))))))
   refine PW.q2 (x := .tmp 34) (y := .tmp 35) (.int .i64 (lo + hi)) rfl rfl rfl rfl rfl (fun ρ W h1 h2 => by exact r_add h1 h2 rfl (by omega)) ?_
   refine PW.q2 (x := .tmp 36) (y := .const (.int .i64 2)) (.int .i64 ((lo + hi) / 2)) rfl rfl rfl rfl rfl (fun ρ W h1 h2 => by exact r_quo h1 h2 rfl (by omega) (by decide)) ?_
   refine PW.assign rfl rfl rfl rfl rfl (PW.nil (SX.then (SC.seq ?_)))
   by_cases hq : lv 65536 ys * ((lo + hi) / 2) ≤ lv 65536 r1
   ·refine SC.region ?_
    refine PW.move rfl rfl rfl rfl rfl (PW.move rfl rfl rfl rfl rfl ?_)
    refine PW.bs (f := .int .i64) 65 [((lo + hi) / 2)] (by simp) rfl rfl rfl (fun a W hf => r_b1I (hf.vl (s := 39) rfl)) (by unfold maxLen; show 1 ≤ _; omega) fun gq3 => ?_
    refine PW.callG (r := .kw (KDt (lv 65536 ys * ((lo + hi) / 2)))) ce_rtimes rfl rfl rfl rfl rfl (KDt.st _) rfl (fun a W hf => by have h1 := hf.vl (s := 38) rfl; have h2 := hf.vl (s := 40) rfl; have h3 := hf.rd (K := 65) rfl; show Calls Tryz.prog _ #[a.tmps.getD 38 undef, a.tmps.getD 40 undef] W _; rw [h1, h2]; exact (rtimes_c (Rd.below rB hf.be) h3.1 dy (dg1 (by omega)) (by omega) (by show 1 ≤ _; omega)).mono fun e W' ⟨v, e1, ⟨zs, A3, c3, ev, hc3, rd3, d3, e3, l3⟩, hn⟩ => ⟨v, e1, ⟨zs, A3, c3, ev, hc3, rd3, d3, by rw [e3, lv1], l3⟩, hn⟩) ?_
    refine PW.move rfl rfl rfl rfl rfl ?_
    refine PW.callG (r := .vl (.int .i64 (cmp (lv 65536 ys * ((lo + hi) / 2)) (lv 65536 r1)))) ce_rcompare rfl rfl rfl rfl rfl (KV.st _) rfl (fun a W hf => by obtain ⟨⟨ps, A3, c3, e3, hc3, rd3, d3, ev3, tp3⟩, _⟩ := hf.ho 41 _ rfl; have h2 := hf.vl (s := 42) rfl; have own : OwF W _ _ (.int .i64) v1 r1 := hf.ho 63 _ rfl; obtain ⟨A4, c4, e4, hc4, rd4⟩ := Own.rd own; show Calls Tryz.prog _ #[a.tmps.getD 41 undef, a.tmps.getD 42 undef] W _; rw [e3, h2, e4, ← ev3]; exact rcompare_c rd3 rd4 d3 dr (prod_len d3 tp3 dy ev3 (by omega) (by omega)) (by omega) tp3 tr) ?_
    refine PW.q2 (x := .tmp 43) (y := .const (.int .i64 0)) (.bool true) rfl rfl rfl rfl rfl (fun ρ W h1 h2 => by exact r_le h1 h2 (decide_eq_true (cmp_np hq))) ?_
    refine PW.nil (SX.then (SC.cond (t := true) rfl (SC.region (PW.move rfl rfl rfl rfl rfl (PW.assign rfl rfl rfl rfl rfl (PW.nil ?_))))))
    refine SX.blockN ?_
    refine SX.back ((lo + hi) / 2, hi) ?_ ?_ ?_
    ·exact ⟨by omega, by omega, b2, hq, b4⟩
    ·exact (show (hi - (lo + hi) / 2).toNat < (hi - lo).toNat by omega)
    ·exact ⟨rfl, rfl, rfl, rfl, rfl, rfl, rfl, rfl, rfl, trivial⟩
   ·refine SC.region ?_
    refine PW.move rfl rfl rfl rfl rfl (PW.move rfl rfl rfl rfl rfl ?_)
    refine PW.bs (f := .int .i64) 65 [((lo + hi) / 2)] (by simp) rfl rfl rfl (fun a W hf => r_b1I (hf.vl (s := 39) rfl)) (by unfold maxLen; show 1 ≤ _; omega) fun gq4 => ?_
    refine PW.callG (r := .kw (KDt (lv 65536 ys * ((lo + hi) / 2)))) ce_rtimes rfl rfl rfl rfl rfl (KDt.st _) rfl (fun a W hf => by have h1 := hf.vl (s := 38) rfl; have h2 := hf.vl (s := 40) rfl; have h3 := hf.rd (K := 65) rfl; show Calls Tryz.prog _ #[a.tmps.getD 38 undef, a.tmps.getD 40 undef] W _; rw [h1, h2]; exact (rtimes_c (Rd.below rB hf.be) h3.1 dy (dg1 (by omega)) (by omega) (by show 1 ≤ _; omega)).mono fun e W' ⟨v, e1, ⟨zs, A3, c3, ev, hc3, rd3, d3, e3, l3⟩, hn⟩ => ⟨v, e1, ⟨zs, A3, c3, ev, hc3, rd3, d3, by rw [e3, lv1], l3⟩, hn⟩) ?_
    refine PW.move rfl rfl rfl rfl rfl ?_
    refine PW.callG (r := .vl (.int .i64 (cmp (lv 65536 ys * ((lo + hi) / 2)) (lv 65536 r1)))) ce_rcompare rfl rfl rfl rfl rfl (KV.st _) rfl (fun a W hf => by obtain ⟨⟨ps, A3, c3, e3, hc3, rd3, d3, ev3, tp3⟩, _⟩ := hf.ho 41 _ rfl; have h2 := hf.vl (s := 42) rfl; have own : OwF W _ _ (.int .i64) v1 r1 := hf.ho 63 _ rfl; obtain ⟨A4, c4, e4, hc4, rd4⟩ := Own.rd own; show Calls Tryz.prog _ #[a.tmps.getD 41 undef, a.tmps.getD 42 undef] W _; rw [e3, h2, e4, ← ev3]; exact rcompare_c rd3 rd4 d3 dr (prod_len d3 tp3 dy ev3 (by omega) (by omega)) (by omega) tp3 tr) ?_
    refine PW.q2 (x := .tmp 43) (y := .const (.int .i64 0)) (.bool false) rfl rfl rfl rfl rfl (fun ρ W h1 h2 => by exact r_le h1 h2 (by rw [cmp_gt (by omega)]; decide)) ?_
    refine PW.nil (SX.then (SC.cond (t := false) rfl (SC.region (PW.move rfl rfl rfl rfl rfl (PW.assign rfl rfl rfl rfl rfl (PW.nil ?_))))))
    refine SX.blockN ?_
    refine SX.back (lo, (lo + hi) / 2) ?_ ?_ ?_
    ·exact ⟨b0, by omega, by omega, b3, by omega⟩
    ·exact (show ((lo + hi) / 2 - lo).toNat < (hi - lo).toNat by omega)
    ·exact ⟨rfl, rfl, rfl, rfl, rfl, rfl, rfl, rfl, rfl, trivial⟩
  ·obtain ⟨f0, f1, f2, f3⟩ := hE.fin hs
   refine SC.region (PW.move rfl rfl rfl rfl rfl (PW.move rfl rfl rfl rfl rfl ?_))
   refine PW.q2 (x := .tmp 30) (y := .tmp 31) (.int .i64 (hi - lo)) rfl rfl rfl rfl rfl (fun ρ W h1 h2 => by exact r_sub h1 h2 rfl (by omega)) ?_
   refine PW.q2 (x := .tmp 32) (y := .const (.int .i64 1)) (.bool false) rfl rfl rfl rfl rfl (fun ρ W h1 h2 => by exact r_gt h1 h2 (decide_eq_false hs)) ?_
   refine PW.nil (SX.then (SC.cond (t := false) rfl (SC.exit (SX.thenE (SX.thenE (SX.blockE (SX.then (SC.seq ?_))))))))
   refine SC.keep [(0, .vl (.slice A xs.length c)), (1, .vl (.slice A2 ys.length d)), (6, .vl (.slice (some ⟨g1, 0, none⟩) xs.length xs.length)), (7, .vl (v1)), (8, .vl (.int .i64 (i : Int))), (9, .vl (.int .i64 (lo))), (62, .ro (.slice (some ⟨g1, 0, none⟩) xs.length xs.length) 3 (.int .i64) (out)), (63, .ro (v1) 3 (.int .i64) (r1))] ⟨rfl, rfl, rfl, rfl, rfl, rfl, rfl, rfl, trivial⟩ ?_
   refine SC.region (PW.move rfl rfl rfl rfl rfl (PW.move rfl rfl rfl rfl rfl (PW.move rfl rfl rfl rfl rfl ?_)))
   refine PW.q2 (x := .tmp 47) (y := .tmp 48) (.pointer (some ⟨g1, i, none⟩)) rfl rfl rfl rfl rfl (fun ρ W h1 h2 => r_idxI h1 h2 (by omega)) ?_
   refine PW.rstore (K := 62) (x := .tmp 49) (i := i) (y := (lo)) rfl rfl rfl rfl rfl (by omega) rfl rfl r_s64 ?_
   refine PW.nil (SX.then (SC.seq ?_))
   by_cases hz : 0 < lo
   ·refine SC.region ?_
    refine PW.move rfl rfl rfl rfl rfl ?_
    refine PW.q2 (x := .tmp 51) (y := .const (.int .i64 0)) (.bool true) rfl rfl rfl rfl rfl (fun ρ W h1 h2 => by exact r_gt h1 h2 (decide_eq_true hz)) ?_
    refine PW.nil (SX.then (SC.cond (t := true) rfl (SC.region (PW.move rfl rfl rfl rfl rfl (PW.move rfl rfl rfl rfl rfl (PW.move rfl rfl rfl rfl rfl ?_))))))
    refine PW.bs (f := .int .i64) 65 [(lo)] (by simp) rfl rfl rfl (fun a W hf => r_b1I (hf.vl (s := 55) rfl)) (by unfold maxLen; show 1 ≤ _; omega) fun gq5 => ?_
    refine PW.callG (r := .kw (KDt (lv 65536 ys * (lo)))) ce_rtimes rfl rfl rfl rfl rfl (KDt.st _) rfl (fun a W hf => by have h1 := hf.vl (s := 54) rfl; have h2 := hf.vl (s := 56) rfl; have h3 := hf.rd (K := 65) rfl; show Calls Tryz.prog _ #[a.tmps.getD 54 undef, a.tmps.getD 56 undef] W _; rw [h1, h2]; exact (rtimes_c (Rd.below rB hf.be) h3.1 dy (dg1 (by omega)) (by omega) (by show 1 ≤ _; omega)).mono fun e W' ⟨v, e1, ⟨zs, A3, c3, ev, hc3, rd3, d3, e3, l3⟩, hn⟩ => ⟨v, e1, ⟨zs, A3, c3, ev, hc3, rd3, d3, by rw [e3, lv1], l3⟩, hn⟩) ?_
    refine PW.callR 64 (e := 3) (k := .i64) (p := fun zs => dg 65536 zs ∧ lv 65536 zs = lv 65536 r1 - lv 65536 ys * lo ∧ top zs) ce_rminus rfl rfl rfl rfl rfl (fun a W hf => by obtain ⟨⟨ps, A3, c3, e3, hc3, rd3, d3, ev3, tp3⟩, _⟩ := hf.ho 57 _ rfl; have h2 := hf.vl (s := 53) rfl; have own : OwF W _ _ (.int .i64) v1 r1 := hf.ho 63 _ rfl; obtain ⟨A4, c4, e4, hc4, rd4⟩ := Own.rd own; show Calls Tryz.prog _ #[a.tmps.getD 53 undef, a.tmps.getD 57 undef] W _; rw [e3, h2, e4, ← ev3]; exact rminus_o rd4 rd3 dr d3 (by omega) (prod_len d3 tp3 dy ev3 (by omega) (by omega)) tp3 (by omega)) fun vm6 rm6 hm6 => ?_
    refine PW.assign rfl rfl rfl rfl rfl (PW.nil ?_)
    refine SX.blockN ?_
    refine SX.then ?_
    refine SC.rename (K1 := 63) (K2 := 64) rfl rfl rfl ?_
    obtain ⟨d2, e2, t2⟩ := hm6
    refine SC.region (PW.move rfl rfl rfl rfl rfl ?_)
    refine PW.q2 (x := .tmp 20) (y := .const (.int .i64 1)) (.int .i64 ((i : Int) - 1)) rfl rfl rfl rfl rfl (fun ρ W h1 h2 => by exact r_sub h1 h2 rfl (by omega)) ?_
    refine PW.assign rfl rfl rfl rfl rfl (PW.nil ?_)
    refine SX.back (i, out.set i (lo), vm6, rm6) ?_ ?_ ?_
    ·exact ⟨by rw [e2, e1]; rw [e1] at f0 f1; exact hD.step dx f0 f1 f3 f2, d2, t2⟩
    ·exact (show i < i + 1 by omega)
    ·exact ⟨rfl, rfl, rfl, rfl, rfl, rfl, rfl, trivial⟩
   ·refine SC.region ?_
    refine PW.move rfl rfl rfl rfl rfl ?_
    refine PW.q2 (x := .tmp 51) (y := .const (.int .i64 0)) (.bool false) rfl rfl rfl rfl rfl (fun ρ W h1 h2 => by exact r_gt h1 h2 (decide_eq_false hz)) ?_
    refine PW.nil (SX.then (SC.cond (t := false) rfl (SC.skip ?_)))
    refine SX.blockN ?_
    refine SX.then ?_
    have e2 : lv 65536 r1 = lv 65536 r1 - lv 65536 ys * lo := by rw [show lo = 0 by omega]; simp
    have d2 := dr
    have t2 := tr
    refine SC.region (PW.move rfl rfl rfl rfl rfl ?_)
    refine PW.q2 (x := .tmp 20) (y := .const (.int .i64 1)) (.int .i64 ((i : Int) - 1)) rfl rfl rfl rfl rfl (fun ρ W h1 h2 => by exact r_sub h1 h2 rfl (by omega)) ?_
    refine PW.assign rfl rfl rfl rfl rfl (PW.nil ?_)
    refine SX.back (i, out.set i (lo), v1, r1) ?_ ?_ ?_
    ·exact ⟨by rw [e2, e1]; rw [e1] at f0 f1; exact hD.step dx f0 f1 f3 f2, d2, t2⟩
    ·exact (show i < i + 1 by omega)
    ·exact ⟨rfl, rfl, rfl, rfl, rfl, rfl, rfl, trivial⟩
 ·obtain rfl : t = 0 := by omega
  refine SC.region (PW.move rfl rfl rfl rfl rfl ?_)
  refine PW.q2 (x := .tmp 18) (y := .const (.int .i64 0)) (.bool false) rfl rfl rfl rfl rfl (fun ρ W h1 h2 => by exact r_ge h1 h2 (decide_eq_false ht)) ?_
  refine PW.nil (SX.then (SC.cond (t := false) rfl (SC.exit (SX.thenE (SX.thenE (SX.blockE (SX.then (SC.seq (SC.region (PW.move rfl rfl rfl rfl rfl ?_))))))))))
  refine PW.callG (r := .vl (tv (.slice (some ⟨g1, 0, none⟩) xs.length xs.length) (trim out).length)) ce_rtrimmed rfl rfl rfl rfl rfl (KV.st _) rfl (fun a W hf => by have h1 := hf.vl (s := 59) rfl; have h2 : OwF W _ _ (.int .i64) (.slice (some ⟨g1, 0, none⟩) xs.length xs.length) (out) := hf.ho 62 _ rfl; show Calls Tryz.prog _ #[a.tmps.getD 59 undef] W _; rw [h1]; exact tv_calls h2) ?_
  refine PW.more _ (fun a W hf => Fr.trimv (K := 62) hf rfl) ?_
  refine PW.move rfl rfl rfl rfl rfl (PW.assign rfl rfl rfl rfl rfl (PW.assign rfl rfl rfl rfl rfl (PW.nil (SX.then (SC.ret ?_)))))
  obtain ⟨f1, f2⟩ := hD.fin
  exact SX.doneR (s := 4) (t := 5) (K1 := 62) (K2 := 63) (.inl rfl) rfl rfl rfl rfl rfl ⟨trim_dg hD.d, (trim_lv _ _).trans f1, trim_top _⟩ ⟨hd, f2, htp⟩ rfl
end Go.Proofs.YthpjmhhfcechmaaGreat.Sy
/- The reference's Sign, Neg, Add, Sub, Mul, Cmp, by rules. -/
namespace Go.Proofs.YthpjmhhfcechmaaGreat.Sy
open Go Go.RowKit Ma
theorem sgn_sub (x y : Int) : sgn (x - y) = cmp x y := by
 unfold sgn cmp
 by_cases h : x < y
 ·rw [if_pos (by omega), if_pos h]
 ·by_cases e : x = y
  ·rw [if_neg (by omega), if_neg h, if_pos (by omega), if_pos e]
  ·rw [if_neg (by omega), if_neg h, if_neg (by omega), if_neg e]
theorem ce_k_jsign : CE 76 := fun args W => by go_simp
set_option maxHeartbeats 1600000 in
theorem k_jsign {x z : Int} (h : sgn x = z) : CallOk 76 [KJ (x)] (KV (.int .i64 z)) := by
 refine CallOk.enter (l := [.kw (KJ (x))]) 9 ce_k_jsign Tryz.func76 rfl Tryz.ntmps76 (by simp) ⟨KJ.st _, rfl, trivial⟩ fun w => ?_
 refine SC.seq (SC.region ?_)
 refine PW.box (x := .tmp 0) (r := .kw (KJ (x))) (BI 34) rfl rfl rfl rfl rfl bJ rfl sh_J ?_
 refine PW.assign rfl rfl rfl rfl rfl (PW.nil (SX.then (SC.seq (SC.seq ?_))))
 by_cases h0 : x = 0
 ·refine SC.region ?_
  refine PW.fld (r := .kw (KDt (x.natAbs : Int))) rfl rfl rfl rfl rfl rfl rfl rfl rfl rfl rfl fldJ1 (KDt.st _) ?_
  refine PW.openL (t := 4) rfl fun zl1 AL1 cl1 hz1 hc1 => ?_
  refine PW.qn [(.tmp 4, .slice AL1 zl1.length cl1)] (.int .i64 (zl1.length : Int)) rfl rfl rfl ⟨rfl, trivial⟩ (fun ρ W h => by obtain ⟨h1, _⟩ := h; exact r_lenI h1) ?_
  refine PW.q2 (x := .tmp 5) (y := .const (.int .i64 0)) (.bool true) rfl rfl rfl rfl rfl (fun ρ W h1 h2 => by exact r_eqT h1 h2 (by have := KDt.zero_iff hz1; omega)) ?_
  refine PW.nil (SX.then (SC.cond (t := true) rfl (SC.seq (SC.region (PW.assign rfl rfl rfl rfl rfl (PW.nil (SX.then (SC.ret (SX.thenR ?_)))))))))
  have hr : z = 0 := by rw [← h]; unfold sgn; rw [if_neg (by omega), if_pos (by omega)]
  rw [hr]
  exact SX.done (s := 2) (r := .vl (.int .i64 0)) rfl rfl rfl
 ·refine SC.region ?_
  refine PW.fld (r := .kw (KDt (x.natAbs : Int))) rfl rfl rfl rfl rfl rfl rfl rfl rfl rfl rfl fldJ1 (KDt.st _) ?_
  refine PW.openL (t := 4) rfl fun zl2 AL2 cl2 hz2 hc2 => ?_
  refine PW.qn [(.tmp 4, .slice AL2 zl2.length cl2)] (.int .i64 (zl2.length : Int)) rfl rfl rfl ⟨rfl, trivial⟩ (fun ρ W h => by obtain ⟨h1, _⟩ := h; exact r_lenI h1) ?_
  refine PW.q2 (x := .tmp 5) (y := .const (.int .i64 0)) (.bool false) rfl rfl rfl rfl rfl (fun ρ W h1 h2 => by exact r_eqF h1 h2 (by have := KDt.zero_iff hz2; omega)) ?_
  refine PW.nil (SX.then (SC.cond (t := false) rfl (SC.skip (SX.then (SC.seq (SC.seq ?_))))))
  by_cases nx : x < 0
  ·refine SC.region ?_
   refine PW.fld (r := .vl (.bool true)) rfl rfl rfl rfl rfl rfl rfl rfl rfl rfl rfl (fldJ0 (decide_eq_true nx)) (KV.st _) ?_
   refine PW.nil (SX.then (SC.cond (t := true) rfl (SC.seq (SC.region (PW.assign rfl rfl rfl rfl rfl (PW.nil (SX.then (SC.ret (SX.thenR ?_)))))))))
   have hr : z = (-1) := by rw [← h]; unfold sgn; rw [if_pos nx]
   rw [hr]
   exact SX.done (s := 2) (r := .vl (.int .i64 (-1))) rfl rfl rfl
  ·refine SC.region ?_
   refine PW.fld (r := .vl (.bool false)) rfl rfl rfl rfl rfl rfl rfl rfl rfl rfl rfl (fldJ0 (decide_eq_false nx)) (KV.st _) ?_
   refine PW.nil (SX.then (SC.cond (t := false) rfl (SC.skip (SX.then (SC.seq (SC.region (PW.assign rfl rfl rfl rfl rfl (PW.nil (SX.then (SC.ret ?_))))))))))
   have hr : z = 1 := by rw [← h]; unfold sgn; rw [if_neg nx, if_neg (by omega)]
   rw [hr]
   exact SX.done (s := 2) (r := .vl (.int .i64 1)) rfl rfl rfl
theorem ce_k_jneg : CE 78 := fun args W => by go_simp
set_option maxHeartbeats 1600000 in
theorem k_jneg {x : Int} : CallOk 78 [KJ (x)] (KJ (-x)) := by
 refine CallOk.enter (l := [.kw (KJ (x))]) 9 ce_k_jneg Tryz.func78 rfl Tryz.ntmps78 (by simp) ⟨KJ.st _, rfl, trivial⟩ fun w => ?_
 refine SC.seq (SC.region ?_)
 refine PW.box (x := .tmp 0) (r := .kw (KJ (x))) (BI 34) rfl rfl rfl rfl rfl bJ rfl sh_J ?_
 refine PW.alloc (BI 34) rfl rfl rfl rfl rfl bJ ?_
 refine PW.nil (SX.then (SC.seq ?_))
 by_cases nx : x < 0
 ·refine SC.region ?_
  refine PW.fld (r := .vl (.bool true)) rfl rfl rfl rfl rfl rfl rfl rfl rfl rfl rfl (fldJ0 (decide_eq_true nx)) (KV.st _) ?_
  refine PW.q1 (x := .tmp 4) (.bool false) rfl rfl rfl rfl (fun ρ W h1 => by go_simp) ?_
  refine PW.fld (r := .kw (KDt (x.natAbs : Int))) rfl rfl rfl rfl rfl rfl rfl rfl rfl rfl rfl fldJ1 (KDt.st _) ?_
  refine PW.call (r := .kw (KJ (-x))) rfl rfl rfl rfl rfl rfl (KJ.st _) rfl (k_mkT (by simp [sg]; omega)) ?_
  refine PW.store (x := .tmp 8) (r := .kw (KJ (-x))) rfl rfl rfl rfl rfl rfl sh_J ?_
  refine PW.nil (SX.then (SC.ret ?_))
  exact SX.doneC (s := 2) (.inl rfl) rfl rfl rfl
 ·refine SC.region ?_
  refine PW.fld (r := .vl (.bool false)) rfl rfl rfl rfl rfl rfl rfl rfl rfl rfl rfl (fldJ0 (decide_eq_false nx)) (KV.st _) ?_
  refine PW.q1 (x := .tmp 4) (.bool true) rfl rfl rfl rfl (fun ρ W h1 => by go_simp) ?_
  refine PW.fld (r := .kw (KDt (x.natAbs : Int))) rfl rfl rfl rfl rfl rfl rfl rfl rfl rfl rfl fldJ1 (KDt.st _) ?_
  refine PW.call (r := .kw (KJ (-x))) rfl rfl rfl rfl rfl rfl (KJ.st _) rfl (k_mkT (by simp [sg]; omega)) ?_
  refine PW.store (x := .tmp 8) (r := .kw (KJ (-x))) rfl rfl rfl rfl rfl rfl sh_J ?_
  refine PW.nil (SX.then (SC.ret ?_))
  exact SX.doneC (s := 2) (.inl rfl) rfl rfl rfl
theorem ce_k_jadd : CE 108 := fun args W => by go_simp
set_option maxHeartbeats 1600000 in
theorem k_jadd {x y : Int} {a b : Nat} (X : bd a x) (Y : bd b y) (ha : a ≤ 1000000) (hb : b ≤ 1000000) : CallOk 108 [KJ (x), KJ (y)] (KJ (x + y)) := by
 refine CallOk.enter (l := [.kw (KJ (x)), .kw (KJ (y))]) 40 ce_k_jadd Tryz.func108 rfl Tryz.ntmps108 (by simp) ⟨KJ.st _, rfl, KJ.st _, rfl, trivial⟩ fun w => ?_
 refine SC.seq (SC.region ?_)
 refine PW.box (x := .tmp 0) (r := .kw (KJ (x))) (BI 34) rfl rfl rfl rfl rfl bJ rfl sh_J ?_
 refine PW.box (x := .tmp 1) (r := .kw (KJ (y))) (BI 34) rfl rfl rfl rfl rfl bJ rfl sh_J ?_
 refine PW.alloc (BI 34) rfl rfl rfl rfl rfl bJ ?_
 refine PW.nil (SX.then (SC.seq (SC.seq ?_)))
 by_cases nx : x < 0
 ·by_cases ny : y < 0
  ·refine SC.region ?_
   refine PW.fld (r := .vl (.bool true)) rfl rfl rfl rfl rfl rfl rfl rfl rfl rfl rfl (fldJ0 (decide_eq_true nx)) (KV.st _) ?_
   refine PW.fld (r := .vl (.bool true)) rfl rfl rfl rfl rfl rfl rfl rfl rfl rfl rfl (fldJ0 (decide_eq_true ny)) (KV.st _) ?_
   refine PW.q2 (x := .tmp 6) (y := .tmp 8) (.bool true) rfl rfl rfl rfl rfl (fun ρ W h1 h2 => by go_simp) ?_
   refine PW.nil (SX.then (SC.cond (t := true) rfl (SC.seq ?_)))
   refine SC.fix (s := 2) rfl fun p2 => ?_
   refine SC.fix (s := 3) rfl fun p3 => ?_
   refine SC.dx [.val 10 (.vl (.pointer (some ⟨p2, 0, none⟩))), .val 11 (.vl (.bool true)), .val 12 (.vl (.pointer (some ⟨p2, 1, none⟩))), .val 13 (.kw (KDt (x.natAbs : Int))), .val 14 (.vl (.pointer (some ⟨p3, 1, none⟩))), .val 15 (.kw (KDt (y.natAbs : Int))), .val 16 (.kw (KDn (2 * max a b + 1) ((x.natAbs : Int) + (y.natAbs : Int)))), .val 17 (.kw (KJ (x + y))), .put 4 (BI 34) (.kw (KJ (x + y)))] [([], [2]), ([0], [2]), ([], [2]), ([2], [2]), ([], [3]), ([4], [3]), ([3, 5], []), ([1, 6], []), ([7], [4])] rfl (by kernel_rfl) (by kernel_rfl) (by kernel_rfl) rfl ⟨?_, ?_, ?_, ?_, ?_, ?_, ?_, ?_, ?_, trivial⟩ ?_
   ·exact DX.fa ⟨p2, 0, none⟩ rfl rfl rfl rfl rfl faJ0
   ·exact DX.fl (s := 2) (r := .vl (.bool true)) rfl rfl rfl rfl rfl rfl rfl (KV.st _) (flJ0 (decide_eq_true nx))
   ·exact DX.fa ⟨p2, 1, none⟩ rfl rfl rfl rfl rfl faJ1
   ·exact DX.fl (s := 2) (r := .kw (KDt (x.natAbs : Int))) rfl rfl rfl rfl rfl rfl rfl (KDt.st _) flJ1
   ·exact DX.fa ⟨p3, 1, none⟩ rfl rfl rfl rfl rfl faJ1
   ·exact DX.fl (s := 3) (r := .kw (KDt (y.natAbs : Int))) rfl rfl rfl rfl rfl rfl rfl (KDt.st _) flJ1
   ·exact DX.call (r := .kw (KDn (2 * max a b + 1) ((x.natAbs : Int) + (y.natAbs : Int)))) rfl rfl rfl rfl rfl rfl (KDn.st _ _) rfl (k_rplus (X).abs (Y).abs ha hb)
   ·exact DX.call (r := .kw (KJ (x + y))) rfl rfl rfl rfl rfl rfl (KJ.st _) rfl (k_mkN (by simp [sg]; omega))
   ·exact DX.store (x := .tmp 17) (r := .kw (KJ (x + y))) rfl rfl rfl rfl rfl rfl sh_J
   refine SX.unfix (s := 2) rfl ?_
   refine SX.unfix (s := 3) rfl ?_
   refine SX.then (SC.ret (SX.thenR ?_))
   exact SX.doneC (s := 4) (.inl rfl) rfl rfl rfl
  ·refine SC.region ?_
   refine PW.fld (r := .vl (.bool true)) rfl rfl rfl rfl rfl rfl rfl rfl rfl rfl rfl (fldJ0 (decide_eq_true nx)) (KV.st _) ?_
   refine PW.fld (r := .vl (.bool false)) rfl rfl rfl rfl rfl rfl rfl rfl rfl rfl rfl (fldJ0 (decide_eq_false ny)) (KV.st _) ?_
   refine PW.q2 (x := .tmp 6) (y := .tmp 8) (.bool false) rfl rfl rfl rfl rfl (fun ρ W h1 h2 => by go_simp) ?_
   refine PW.nil (SX.then (SC.cond (t := false) rfl (SC.skip (SX.then (SC.seq (SC.seq ?_))))))
   by_cases hc : (y.natAbs : Int) ≤ (x.natAbs : Int)
   ·refine SC.region ?_
    refine PW.fld (r := .kw (KDt (x.natAbs : Int))) rfl rfl rfl rfl rfl rfl rfl rfl rfl rfl rfl fldJ1 (KDt.st _) ?_
    refine PW.fld (r := .kw (KDt (y.natAbs : Int))) rfl rfl rfl rfl rfl rfl rfl rfl rfl rfl rfl fldJ1 (KDt.st _) ?_
    refine PW.call (r := .vl (.int .i64 (cmp (x.natAbs : Int) (y.natAbs : Int)))) rfl rfl rfl rfl rfl rfl (KV.st _) rfl (k_rcompare (X).abs (Y).abs ha hb rfl) ?_
    refine PW.q2 (x := .tmp 22) (y := .const (.int .i64 0)) (.bool true) rfl rfl rfl rfl rfl (fun ρ W h1 h2 => by exact r_ge h1 h2 (decide_eq_true (cmp_nn hc))) ?_
    refine PW.nil (SX.then (SC.cond (t := true) rfl (SC.seq ?_)))
    refine SC.fix (s := 2) rfl fun p2 => ?_
    refine SC.fix (s := 3) rfl fun p3 => ?_
    refine SC.dx [.val 24 (.vl (.pointer (some ⟨p2, 0, none⟩))), .val 25 (.vl (.bool true)), .val 26 (.vl (.pointer (some ⟨p2, 1, none⟩))), .val 27 (.kw (KDt (x.natAbs : Int))), .val 28 (.vl (.pointer (some ⟨p3, 1, none⟩))), .val 29 (.kw (KDt (y.natAbs : Int))), .val 30 (.kw (KDt ((x.natAbs : Int) - (y.natAbs : Int)))), .val 31 (.kw (KJ (x + y))), .put 4 (BI 34) (.kw (KJ (x + y)))] [([], [2]), ([0], [2]), ([], [2]), ([2], [2]), ([], [3]), ([4], [3]), ([3, 5], []), ([1, 6], []), ([7], [4])] rfl (by kernel_rfl) (by kernel_rfl) (by kernel_rfl) rfl ⟨?_, ?_, ?_, ?_, ?_, ?_, ?_, ?_, ?_, trivial⟩ ?_
    ·exact DX.fa ⟨p2, 0, none⟩ rfl rfl rfl rfl rfl faJ0
    ·exact DX.fl (s := 2) (r := .vl (.bool true)) rfl rfl rfl rfl rfl rfl rfl (KV.st _) (flJ0 (decide_eq_true nx))
    ·exact DX.fa ⟨p2, 1, none⟩ rfl rfl rfl rfl rfl faJ1
    ·exact DX.fl (s := 2) (r := .kw (KDt (x.natAbs : Int))) rfl rfl rfl rfl rfl rfl rfl (KDt.st _) flJ1
    ·exact DX.fa ⟨p3, 1, none⟩ rfl rfl rfl rfl rfl faJ1
    ·exact DX.fl (s := 3) (r := .kw (KDt (y.natAbs : Int))) rfl rfl rfl rfl rfl rfl rfl (KDt.st _) flJ1
    ·exact DX.call (r := .kw (KDt ((x.natAbs : Int) - (y.natAbs : Int)))) rfl rfl rfl rfl rfl rfl (KDt.st _) rfl (k_rminus (X).abs (Y).abs (by omega) (by omega) (by omega))
    ·exact DX.call (r := .kw (KJ (x + y))) rfl rfl rfl rfl rfl rfl (KJ.st _) rfl (k_mkT (by simp [sg]; omega))
    ·exact DX.store (x := .tmp 31) (r := .kw (KJ (x + y))) rfl rfl rfl rfl rfl rfl sh_J
    refine SX.unfix (s := 2) rfl ?_
    refine SX.unfix (s := 3) rfl ?_
    refine SX.then (SC.ret (SX.thenR ?_))
    exact SX.doneC (s := 4) (.inl rfl) rfl rfl rfl
   ·refine SC.region ?_
    refine PW.fld (r := .kw (KDt (x.natAbs : Int))) rfl rfl rfl rfl rfl rfl rfl rfl rfl rfl rfl fldJ1 (KDt.st _) ?_
    refine PW.fld (r := .kw (KDt (y.natAbs : Int))) rfl rfl rfl rfl rfl rfl rfl rfl rfl rfl rfl fldJ1 (KDt.st _) ?_
    refine PW.call (r := .vl (.int .i64 (cmp (x.natAbs : Int) (y.natAbs : Int)))) rfl rfl rfl rfl rfl rfl (KV.st _) rfl (k_rcompare (X).abs (Y).abs ha hb rfl) ?_
    refine PW.q2 (x := .tmp 22) (y := .const (.int .i64 0)) (.bool false) rfl rfl rfl rfl rfl (fun ρ W h1 h2 => by exact r_ge h1 h2 (by rw [cmp_lt (by omega)]; decide)) ?_
    refine PW.nil (SX.then (SC.cond (t := false) rfl (SC.skip (SX.then (SC.seq ?_)))))
    refine SC.fix (s := 3) rfl fun p3 => ?_
    refine SC.fix (s := 2) rfl fun p2 => ?_
    refine SC.dx [.val 32 (.vl (.pointer (some ⟨p3, 0, none⟩))), .val 33 (.vl (.bool false)), .val 34 (.vl (.pointer (some ⟨p3, 1, none⟩))), .val 35 (.kw (KDt (y.natAbs : Int))), .val 36 (.vl (.pointer (some ⟨p2, 1, none⟩))), .val 37 (.kw (KDt (x.natAbs : Int))), .val 38 (.kw (KDt ((y.natAbs : Int) - (x.natAbs : Int)))), .val 39 (.kw (KJ (x + y))), .put 4 (BI 34) (.kw (KJ (x + y)))] [([], [3]), ([0], [3]), ([], [3]), ([2], [3]), ([], [2]), ([4], [2]), ([3, 5], []), ([1, 6], []), ([7], [4])] rfl (by kernel_rfl) (by kernel_rfl) (by kernel_rfl) rfl ⟨?_, ?_, ?_, ?_, ?_, ?_, ?_, ?_, ?_, trivial⟩ ?_
    ·exact DX.fa ⟨p3, 0, none⟩ rfl rfl rfl rfl rfl faJ0
    ·exact DX.fl (s := 3) (r := .vl (.bool false)) rfl rfl rfl rfl rfl rfl rfl (KV.st _) (flJ0 (decide_eq_false ny))
    ·exact DX.fa ⟨p3, 1, none⟩ rfl rfl rfl rfl rfl faJ1
    ·exact DX.fl (s := 3) (r := .kw (KDt (y.natAbs : Int))) rfl rfl rfl rfl rfl rfl rfl (KDt.st _) flJ1
    ·exact DX.fa ⟨p2, 1, none⟩ rfl rfl rfl rfl rfl faJ1
    ·exact DX.fl (s := 2) (r := .kw (KDt (x.natAbs : Int))) rfl rfl rfl rfl rfl rfl rfl (KDt.st _) flJ1
    ·exact DX.call (r := .kw (KDt ((y.natAbs : Int) - (x.natAbs : Int)))) rfl rfl rfl rfl rfl rfl (KDt.st _) rfl (k_rminus (Y).abs (X).abs (by omega) (by omega) (by omega))
    ·exact DX.call (r := .kw (KJ (x + y))) rfl rfl rfl rfl rfl rfl (KJ.st _) rfl (k_mkT (by simp [sg]; omega))
    ·exact DX.store (x := .tmp 39) (r := .kw (KJ (x + y))) rfl rfl rfl rfl rfl rfl sh_J
    refine SX.unfix (s := 3) rfl ?_
    refine SX.unfix (s := 2) rfl ?_
    refine SX.then (SC.ret ?_)
    exact SX.doneC (s := 4) (.inl rfl) rfl rfl rfl
 ·by_cases ny : y < 0
  ·refine SC.region ?_
   refine PW.fld (r := .vl (.bool false)) rfl rfl rfl rfl rfl rfl rfl rfl rfl rfl rfl (fldJ0 (decide_eq_false nx)) (KV.st _) ?_
   refine PW.fld (r := .vl (.bool true)) rfl rfl rfl rfl rfl rfl rfl rfl rfl rfl rfl (fldJ0 (decide_eq_true ny)) (KV.st _) ?_
   refine PW.q2 (x := .tmp 6) (y := .tmp 8) (.bool false) rfl rfl rfl rfl rfl (fun ρ W h1 h2 => by go_simp) ?_
   refine PW.nil (SX.then (SC.cond (t := false) rfl (SC.skip (SX.then (SC.seq (SC.seq ?_))))))
   by_cases hc : (y.natAbs : Int) ≤ (x.natAbs : Int)
   ·refine SC.region ?_
    refine PW.fld (r := .kw (KDt (x.natAbs : Int))) rfl rfl rfl rfl rfl rfl rfl rfl rfl rfl rfl fldJ1 (KDt.st _) ?_
    refine PW.fld (r := .kw (KDt (y.natAbs : Int))) rfl rfl rfl rfl rfl rfl rfl rfl rfl rfl rfl fldJ1 (KDt.st _) ?_
    refine PW.call (r := .vl (.int .i64 (cmp (x.natAbs : Int) (y.natAbs : Int)))) rfl rfl rfl rfl rfl rfl (KV.st _) rfl (k_rcompare (X).abs (Y).abs ha hb rfl) ?_
    refine PW.q2 (x := .tmp 22) (y := .const (.int .i64 0)) (.bool true) rfl rfl rfl rfl rfl (fun ρ W h1 h2 => by exact r_ge h1 h2 (decide_eq_true (cmp_nn hc))) ?_
    refine PW.nil (SX.then (SC.cond (t := true) rfl (SC.seq ?_)))
    refine SC.fix (s := 2) rfl fun p2 => ?_
    refine SC.fix (s := 3) rfl fun p3 => ?_
    refine SC.dx [.val 24 (.vl (.pointer (some ⟨p2, 0, none⟩))), .val 25 (.vl (.bool false)), .val 26 (.vl (.pointer (some ⟨p2, 1, none⟩))), .val 27 (.kw (KDt (x.natAbs : Int))), .val 28 (.vl (.pointer (some ⟨p3, 1, none⟩))), .val 29 (.kw (KDt (y.natAbs : Int))), .val 30 (.kw (KDt ((x.natAbs : Int) - (y.natAbs : Int)))), .val 31 (.kw (KJ (x + y))), .put 4 (BI 34) (.kw (KJ (x + y)))] [([], [2]), ([0], [2]), ([], [2]), ([2], [2]), ([], [3]), ([4], [3]), ([3, 5], []), ([1, 6], []), ([7], [4])] rfl (by kernel_rfl) (by kernel_rfl) (by kernel_rfl) rfl ⟨?_, ?_, ?_, ?_, ?_, ?_, ?_, ?_, ?_, trivial⟩ ?_
    ·exact DX.fa ⟨p2, 0, none⟩ rfl rfl rfl rfl rfl faJ0
    ·exact DX.fl (s := 2) (r := .vl (.bool false)) rfl rfl rfl rfl rfl rfl rfl (KV.st _) (flJ0 (decide_eq_false nx))
    ·exact DX.fa ⟨p2, 1, none⟩ rfl rfl rfl rfl rfl faJ1
    ·exact DX.fl (s := 2) (r := .kw (KDt (x.natAbs : Int))) rfl rfl rfl rfl rfl rfl rfl (KDt.st _) flJ1
    ·exact DX.fa ⟨p3, 1, none⟩ rfl rfl rfl rfl rfl faJ1
    ·exact DX.fl (s := 3) (r := .kw (KDt (y.natAbs : Int))) rfl rfl rfl rfl rfl rfl rfl (KDt.st _) flJ1
    ·exact DX.call (r := .kw (KDt ((x.natAbs : Int) - (y.natAbs : Int)))) rfl rfl rfl rfl rfl rfl (KDt.st _) rfl (k_rminus (X).abs (Y).abs (by omega) (by omega) (by omega))
    ·exact DX.call (r := .kw (KJ (x + y))) rfl rfl rfl rfl rfl rfl (KJ.st _) rfl (k_mkT (by simp [sg]; omega))
    ·exact DX.store (x := .tmp 31) (r := .kw (KJ (x + y))) rfl rfl rfl rfl rfl rfl sh_J
    refine SX.unfix (s := 2) rfl ?_
    refine SX.unfix (s := 3) rfl ?_
    refine SX.then (SC.ret (SX.thenR ?_))
    exact SX.doneC (s := 4) (.inl rfl) rfl rfl rfl
   ·refine SC.region ?_
    refine PW.fld (r := .kw (KDt (x.natAbs : Int))) rfl rfl rfl rfl rfl rfl rfl rfl rfl rfl rfl fldJ1 (KDt.st _) ?_
    refine PW.fld (r := .kw (KDt (y.natAbs : Int))) rfl rfl rfl rfl rfl rfl rfl rfl rfl rfl rfl fldJ1 (KDt.st _) ?_
    refine PW.call (r := .vl (.int .i64 (cmp (x.natAbs : Int) (y.natAbs : Int)))) rfl rfl rfl rfl rfl rfl (KV.st _) rfl (k_rcompare (X).abs (Y).abs ha hb rfl) ?_
    refine PW.q2 (x := .tmp 22) (y := .const (.int .i64 0)) (.bool false) rfl rfl rfl rfl rfl (fun ρ W h1 h2 => by exact r_ge h1 h2 (by rw [cmp_lt (by omega)]; decide)) ?_
    refine PW.nil (SX.then (SC.cond (t := false) rfl (SC.skip (SX.then (SC.seq ?_)))))
    refine SC.fix (s := 3) rfl fun p3 => ?_
    refine SC.fix (s := 2) rfl fun p2 => ?_
    refine SC.dx [.val 32 (.vl (.pointer (some ⟨p3, 0, none⟩))), .val 33 (.vl (.bool true)), .val 34 (.vl (.pointer (some ⟨p3, 1, none⟩))), .val 35 (.kw (KDt (y.natAbs : Int))), .val 36 (.vl (.pointer (some ⟨p2, 1, none⟩))), .val 37 (.kw (KDt (x.natAbs : Int))), .val 38 (.kw (KDt ((y.natAbs : Int) - (x.natAbs : Int)))), .val 39 (.kw (KJ (x + y))), .put 4 (BI 34) (.kw (KJ (x + y)))] [([], [3]), ([0], [3]), ([], [3]), ([2], [3]), ([], [2]), ([4], [2]), ([3, 5], []), ([1, 6], []), ([7], [4])] rfl (by kernel_rfl) (by kernel_rfl) (by kernel_rfl) rfl ⟨?_, ?_, ?_, ?_, ?_, ?_, ?_, ?_, ?_, trivial⟩ ?_
    ·exact DX.fa ⟨p3, 0, none⟩ rfl rfl rfl rfl rfl faJ0
    ·exact DX.fl (s := 3) (r := .vl (.bool true)) rfl rfl rfl rfl rfl rfl rfl (KV.st _) (flJ0 (decide_eq_true ny))
    ·exact DX.fa ⟨p3, 1, none⟩ rfl rfl rfl rfl rfl faJ1
    ·exact DX.fl (s := 3) (r := .kw (KDt (y.natAbs : Int))) rfl rfl rfl rfl rfl rfl rfl (KDt.st _) flJ1
    ·exact DX.fa ⟨p2, 1, none⟩ rfl rfl rfl rfl rfl faJ1
    ·exact DX.fl (s := 2) (r := .kw (KDt (x.natAbs : Int))) rfl rfl rfl rfl rfl rfl rfl (KDt.st _) flJ1
    ·exact DX.call (r := .kw (KDt ((y.natAbs : Int) - (x.natAbs : Int)))) rfl rfl rfl rfl rfl rfl (KDt.st _) rfl (k_rminus (Y).abs (X).abs (by omega) (by omega) (by omega))
    ·exact DX.call (r := .kw (KJ (x + y))) rfl rfl rfl rfl rfl rfl (KJ.st _) rfl (k_mkT (by simp [sg]; omega))
    ·exact DX.store (x := .tmp 39) (r := .kw (KJ (x + y))) rfl rfl rfl rfl rfl rfl sh_J
    refine SX.unfix (s := 3) rfl ?_
    refine SX.unfix (s := 2) rfl ?_
    refine SX.then (SC.ret ?_)
    exact SX.doneC (s := 4) (.inl rfl) rfl rfl rfl
  ·refine SC.region ?_
   refine PW.fld (r := .vl (.bool false)) rfl rfl rfl rfl rfl rfl rfl rfl rfl rfl rfl (fldJ0 (decide_eq_false nx)) (KV.st _) ?_
   refine PW.fld (r := .vl (.bool false)) rfl rfl rfl rfl rfl rfl rfl rfl rfl rfl rfl (fldJ0 (decide_eq_false ny)) (KV.st _) ?_
   refine PW.q2 (x := .tmp 6) (y := .tmp 8) (.bool true) rfl rfl rfl rfl rfl (fun ρ W h1 h2 => by go_simp) ?_
   refine PW.nil (SX.then (SC.cond (t := true) rfl (SC.seq ?_)))
   refine SC.fix (s := 2) rfl fun p2 => ?_
   refine SC.fix (s := 3) rfl fun p3 => ?_
   refine SC.dx [.val 10 (.vl (.pointer (some ⟨p2, 0, none⟩))), .val 11 (.vl (.bool false)), .val 12 (.vl (.pointer (some ⟨p2, 1, none⟩))), .val 13 (.kw (KDt (x.natAbs : Int))), .val 14 (.vl (.pointer (some ⟨p3, 1, none⟩))), .val 15 (.kw (KDt (y.natAbs : Int))), .val 16 (.kw (KDn (2 * max a b + 1) ((x.natAbs : Int) + (y.natAbs : Int)))), .val 17 (.kw (KJ (x + y))), .put 4 (BI 34) (.kw (KJ (x + y)))] [([], [2]), ([0], [2]), ([], [2]), ([2], [2]), ([], [3]), ([4], [3]), ([3, 5], []), ([1, 6], []), ([7], [4])] rfl (by kernel_rfl) (by kernel_rfl) (by kernel_rfl) rfl ⟨?_, ?_, ?_, ?_, ?_, ?_, ?_, ?_, ?_, trivial⟩ ?_
   ·exact DX.fa ⟨p2, 0, none⟩ rfl rfl rfl rfl rfl faJ0
   ·exact DX.fl (s := 2) (r := .vl (.bool false)) rfl rfl rfl rfl rfl rfl rfl (KV.st _) (flJ0 (decide_eq_false nx))
   ·exact DX.fa ⟨p2, 1, none⟩ rfl rfl rfl rfl rfl faJ1
   ·exact DX.fl (s := 2) (r := .kw (KDt (x.natAbs : Int))) rfl rfl rfl rfl rfl rfl rfl (KDt.st _) flJ1
   ·exact DX.fa ⟨p3, 1, none⟩ rfl rfl rfl rfl rfl faJ1
   ·exact DX.fl (s := 3) (r := .kw (KDt (y.natAbs : Int))) rfl rfl rfl rfl rfl rfl rfl (KDt.st _) flJ1
   ·exact DX.call (r := .kw (KDn (2 * max a b + 1) ((x.natAbs : Int) + (y.natAbs : Int)))) rfl rfl rfl rfl rfl rfl (KDn.st _ _) rfl (k_rplus (X).abs (Y).abs ha hb)
   ·exact DX.call (r := .kw (KJ (x + y))) rfl rfl rfl rfl rfl rfl (KJ.st _) rfl (k_mkN (by simp [sg]; omega))
   ·exact DX.store (x := .tmp 17) (r := .kw (KJ (x + y))) rfl rfl rfl rfl rfl rfl sh_J
   refine SX.unfix (s := 2) rfl ?_
   refine SX.unfix (s := 3) rfl ?_
   refine SX.then (SC.ret (SX.thenR ?_))
   exact SX.doneC (s := 4) (.inl rfl) rfl rfl rfl
theorem ce_k_jsub : CE 122 := fun args W => by go_simp
set_option maxHeartbeats 1600000 in
theorem k_jsub {x y : Int} {a b : Nat} (X : bd a x) (Y : bd b y) (ha : a ≤ 1000000) (hb : b ≤ 1000000) : CallOk 122 [KJ (x), KJ (y)] (KJ (x - y)) := by
 refine CallOk.enter (l := [.kw (KJ (x)), .kw (KJ (y))]) 9 ce_k_jsub Tryz.func122 rfl Tryz.ntmps122 (by simp) ⟨KJ.st _, rfl, KJ.st _, rfl, trivial⟩ fun w => ?_
 refine SC.seq (SC.region ?_)
 refine PW.box (x := .tmp 0) (r := .kw (KJ (x))) (BI 34) rfl rfl rfl rfl rfl bJ rfl sh_J ?_
 refine PW.box (x := .tmp 1) (r := .kw (KJ (y))) (BI 34) rfl rfl rfl rfl rfl bJ rfl sh_J ?_
 refine PW.alloc (BI 34) rfl rfl rfl rfl rfl bJ ?_
 refine PW.nil (SX.then (SC.seq ?_))
 refine SC.dx [.val 5 (.kw (KJ (x))), .val 6 (.kw (KJ (y))), .val 7 (.kw (KJ (-y))), .val 8 (.kw (KJ (x + (-y)))), .put 4 (BI 34) (.kw (KJ (x + (-y))))] [([], [2]), ([], [3]), ([1], []), ([0, 2], []), ([3], [4])] rfl (by kernel_rfl) (by kernel_rfl) (by kernel_rfl) rfl ⟨?_, ?_, ?_, ?_, ?_, trivial⟩ ?_
 ·exact DX.load rfl rfl rfl rfl rfl rfl
 ·exact DX.load rfl rfl rfl rfl rfl rfl
 ·exact DX.call (r := .kw (KJ (-y))) rfl rfl rfl rfl rfl rfl (KJ.st _) rfl (k_jneg)
 ·exact DX.call (r := .kw (KJ (x + (-y)))) rfl rfl rfl rfl rfl rfl (KJ.st _) rfl (k_jadd X Y.neg ha hb)
 ·exact DX.store (x := .tmp 8) (r := .kw (KJ (x + (-y)))) rfl rfl rfl rfl rfl rfl sh_J
 refine SX.then (SC.ret ?_)
 exact SX.doneC (s := 4) (.inl rfl) rfl rfl rfl
theorem ce_k_jmul : CE 111 := fun args W => by go_simp
set_option maxHeartbeats 1600000 in
theorem k_jmul {x y : Int} {a b : Nat} (X : bd a x) (Y : bd b y) (ha : a ≤ 1000000) (hb : b ≤ 1000000) : CallOk 111 [KJ (x), KJ (y)] (KJ (x * y)) := by
 refine CallOk.enter (l := [.kw (KJ (x)), .kw (KJ (y))]) 16 ce_k_jmul Tryz.func111 rfl Tryz.ntmps111 (by simp) ⟨KJ.st _, rfl, KJ.st _, rfl, trivial⟩ fun w => ?_
 refine SC.seq (SC.region ?_)
 refine PW.box (x := .tmp 0) (r := .kw (KJ (x))) (BI 34) rfl rfl rfl rfl rfl bJ rfl sh_J ?_
 refine PW.box (x := .tmp 1) (r := .kw (KJ (y))) (BI 34) rfl rfl rfl rfl rfl bJ rfl sh_J ?_
 refine PW.alloc (BI 34) rfl rfl rfl rfl rfl bJ ?_
 refine PW.nil (SX.then (SC.seq ?_))
 refine SC.fix (s := 2) rfl fun p2 => ?_
 refine SC.fix (s := 3) rfl fun p3 => ?_
 refine SC.dx [.val 5 (.vl (.pointer (some ⟨p2, 0, none⟩))), .val 6 (.vl (.bool (decide (x < 0)))), .val 7 (.vl (.pointer (some ⟨p3, 0, none⟩))), .val 8 (.vl (.bool (decide (y < 0)))), .val 9 (.vl (.bool (decide (x < 0) != decide (y < 0)))), .val 10 (.vl (.pointer (some ⟨p2, 1, none⟩))), .val 11 (.kw (KDt (x.natAbs : Int))), .val 12 (.vl (.pointer (some ⟨p3, 1, none⟩))), .val 13 (.kw (KDt (y.natAbs : Int))), .val 14 (.kw (KDt ((x.natAbs : Int) * (y.natAbs : Int)))), .val 15 (.kw (KJ (x * y))), .put 4 (BI 34) (.kw (KJ (x * y)))] [([], [2]), ([0], [2]), ([], [3]), ([2], [3]), ([1, 3], []), ([], [2]), ([5], [2]), ([], [3]), ([7], [3]), ([6, 8], []), ([4, 9], []), ([10], [4])] rfl (by kernel_rfl) (by kernel_rfl) (by kernel_rfl) rfl ⟨?_, ?_, ?_, ?_, ?_, ?_, ?_, ?_, ?_, ?_, ?_, ?_, trivial⟩ ?_
 ·exact DX.fa ⟨p2, 0, none⟩ rfl rfl rfl rfl rfl faJ0
 ·exact DX.fl (s := 2) (r := .vl (.bool (decide (x < 0)))) rfl rfl rfl rfl rfl rfl rfl (KV.st _) (flJ0 (rfl))
 ·exact DX.fa ⟨p3, 0, none⟩ rfl rfl rfl rfl rfl faJ0
 ·exact DX.fl (s := 3) (r := .vl (.bool (decide (y < 0)))) rfl rfl rfl rfl rfl rfl rfl (KV.st _) (flJ0 (rfl))
 ·exact DX.q2 (x := .tmp 6) (y := .tmp 8) (.bool (decide (x < 0) != decide (y < 0))) rfl rfl rfl rfl rfl (fun ρ W h1 h2 => by go_simp; cases decide (x < 0) <;> cases decide (y < 0) <;> rfl)
 ·exact DX.fa ⟨p2, 1, none⟩ rfl rfl rfl rfl rfl faJ1
 ·exact DX.fl (s := 2) (r := .kw (KDt (x.natAbs : Int))) rfl rfl rfl rfl rfl rfl rfl (KDt.st _) flJ1
 ·exact DX.fa ⟨p3, 1, none⟩ rfl rfl rfl rfl rfl faJ1
 ·exact DX.fl (s := 3) (r := .kw (KDt (y.natAbs : Int))) rfl rfl rfl rfl rfl rfl rfl (KDt.st _) flJ1
 ·exact DX.call (r := .kw (KDt ((x.natAbs : Int) * (y.natAbs : Int)))) rfl rfl rfl rfl rfl rfl (KDt.st _) rfl (k_rtimes (X).abs (Y).abs ha hb)
 ·exact DX.call (r := .kw (KJ (x * y))) rfl rfl rfl rfl rfl rfl (KJ.st _) rfl (k_mkT (sgJ_mul rfl))
 ·exact DX.store (x := .tmp 15) (r := .kw (KJ (x * y))) rfl rfl rfl rfl rfl rfl sh_J
 refine SX.unfix (s := 2) rfl ?_
 refine SX.unfix (s := 3) rfl ?_
 refine SX.then (SC.ret ?_)
 exact SX.doneC (s := 4) (.inl rfl) rfl rfl rfl
theorem ce_k_jcmp : CE 82 := fun args W => by go_simp
set_option maxHeartbeats 1600000 in
theorem k_jcmp {x y z : Int} {a b : Nat} (X : bd a x) (Y : bd b y) (ha : a ≤ 1000000) (hb : b ≤ 1000000) (h : cmp x y = z) : CallOk 82 [KJ (x), KJ (y)] (KV (.int .i64 z)) := by
 refine CallOk.enter (l := [.kw (KJ (x)), .kw (KJ (y))]) 9 ce_k_jcmp Tryz.func82 rfl Tryz.ntmps82 (by simp) ⟨KJ.st _, rfl, KJ.st _, rfl, trivial⟩ fun w => ?_
 refine SC.seq (SC.region ?_)
 refine PW.box (x := .tmp 0) (r := .kw (KJ (x))) (BI 34) rfl rfl rfl rfl rfl bJ rfl sh_J ?_
 refine PW.box (x := .tmp 1) (r := .kw (KJ (y))) (BI 34) rfl rfl rfl rfl rfl bJ rfl sh_J ?_
 refine PW.assign rfl rfl rfl rfl rfl (PW.nil (SX.then (SC.seq (SC.region ?_))))
 refine PW.load rfl rfl rfl rfl rfl rfl ?_
 refine PW.load rfl rfl rfl rfl rfl rfl ?_
 refine PW.call (r := .kw (KJ (x - y))) rfl rfl rfl rfl rfl rfl (KJ.st _) rfl (k_jsub X Y ha hb) ?_
 refine PW.call (r := .vl (.int .i64 (sgn (x - y)))) rfl rfl rfl rfl rfl rfl (KV.st _) rfl (k_jsign rfl) ?_
 refine PW.assign rfl rfl rfl rfl rfl (PW.nil (SX.then (SC.ret ?_)))
 rw [← h, ← sgn_sub]
 exact SX.done (s := 4) (r := .vl (.int .i64 (sgn (x - y)))) rfl rfl rfl
end Go.Proofs.YthpjmhhfcechmaaGreat.Sy
/- Three results; the reference's divided in the form that the rules want. -/
namespace Go.Proofs.YthpjmhhfcechmaaGreat.Sy
open Go Go.RowKit Ma
section
variable {B N : Nat} {w0 : World} {fr : List (Nat × AV)} {fn : Func}
theorem SX.done3 {e : Exit} {s s' t : Nat} {b b' : BT} {k k' : Know} {r : AV} (he : e = .ret ∨ e = .normal) (hr : fn.results = #[.cell s b.T, .cell s' b'.T, .tmp t]) (hs : look fr s = some (.bx b k)) (hs' : look fr s' = some (.bx b' k')) (ht : opv fr (.tmp t) = some r) (hB : B = w0.heap.size) : SX B N w0 e fr (bodyPost Tryz.prog fn (Ret w0 (K3 k k' r.of))) := fun a W hf => by
 obtain ⟨p, v, ep, _, hh, hv, st, ok⟩ := hf.ho s _ hs
 obtain ⟨p', v', ep', _, hh', hv', st', ok'⟩ := hf.ho s' _ hs'
 have h1 := opv_spec hf ht
 have hrun : (results fn a.tmps).run Tryz.prog W = .ok (.tuple #[v, v', a.tmps.getD t undef]) W := by
  have h1 := run_cell ok hh
  have h2 := run_cell ok' hh'
  have e1 : a.tmps[s]?.getD undef = ptr p := by simpa [Array.getD_eq_getD_getElem?] using ep
  have e2 : a.tmps[s']?.getD undef = ptr p' := by simpa [Array.getD_eq_getD_getElem?] using ep'
  unfold results
  generalize loadVar = G at h1 h2 ⊢
  simp [hr, go_sem, e1, e2, asAddr, h1, h2]
 have key : a.defers = [] ∧ ∃ v, (results fn a.tmps).run Tryz.prog W = .ok v W ∧ Ret w0 (K3 k k' r.of) (.returned v) W :=
  ⟨hf.df, _, hrun, ⟨_, rfl, ⟨v, v', _, rfl, hv, hv', (h1.1.of h1.2).1⟩, by have := hf.be; rw [hB] at this; exact this⟩⟩
 rcases he with rfl | rfl <;> exact key
end
theorem ce_rdivided : CE 121 := fun args W => by go_simp
theorem k_rdivided {x y : Int} {a b : Nat} (X : bd a x) (Y : bd b y) (ha : a ≤ 400000) (hb : b ≤ 400000) (hy : 0 < y) : CallOk 121 [KDt x, KDt y] (K2 (KDt (x / y)) (KDt (x % y))) :=
 call2 ce_rdivided fun W u v ⟨xs, A, c, e, hc, rd, d, ex, t⟩ ⟨ys, A2, c2, e2, hc2, rd2, d2, ey, t2⟩ => by
  subst e e2
  have l1 := len_bd d ex t X
  have l2 := len_bd d2 ey t2 Y
  have := rdivided_c (w := W) (c := c) (d := c2) rd rd2 d d2 (by omega) (by omega) (by rw [ey]; exact hy)
  rw [ex, ey] at this
  exact this
theorem sgJ_tdiv {x y : Int} {t : Bool} (e : (decide (x < 0) != decide (y < 0)) = t) : sg t ((x.natAbs : Int) / (y.natAbs : Int)) = x.tdiv y := by
 subst e
 have h := sg_tdiv (decide (x < 0)) (decide (y < 0)) (x.natAbs : Int) (y.natAbs : Int) (by omega) (by omega)
 have ex : sg (decide (x < 0)) (x.natAbs : Int) = x := by by_cases hx : x < 0 <;> simp [sg, hx] <;> omega
 have ey : sg (decide (y < 0)) (y.natAbs : Int) = y := by by_cases hy : y < 0 <;> simp [sg, hy] <;> omega
 rw [ex, ey] at h
 exact h.symm
theorem sgJ_tmod {x y : Int} {t : Bool} (e : decide (x < 0) = t) : sg t ((x.natAbs : Int) % (y.natAbs : Int)) = x.tmod y := by
 subst e
 have h := sg_tmod (decide (x < 0)) (decide (y < 0)) (x.natAbs : Int) (y.natAbs : Int) (by omega) (by omega)
 have ex : sg (decide (x < 0)) (x.natAbs : Int) = x := by by_cases hx : x < 0 <;> simp [sg, hx] <;> omega
 have ey : sg (decide (y < 0)) (y.natAbs : Int) = y := by by_cases hy : y < 0 <;> simp [sg, hy] <;> omega
 rw [ex, ey] at h
 exact h.symm
end Go.Proofs.YthpjmhhfcechmaaGreat.Sy
/- The reference's Abs, Divide, by rules. -/
namespace Go.Proofs.YthpjmhhfcechmaaGreat.Sy
open Go Go.RowKit Ma
theorem sgn_ne {x : Int} (h : x ≠ 0) : sgn x ≠ 0 := by unfold sgn; split <;> simp_all
theorem ce_k_jabs : CE 59 := fun args W => by go_simp
set_option maxHeartbeats 1600000 in
theorem k_jabs {x : Int} : CallOk 59 [KJ (x)] (KJ (x.natAbs : Int)) := by
 refine CallOk.enter (l := [.kw (KJ (x))]) 6 ce_k_jabs Tryz.func59 rfl Tryz.ntmps59 (by simp) ⟨KJ.st _, rfl, trivial⟩ fun w => ?_
 refine SC.seq (SC.region ?_)
 refine PW.box (x := .tmp 0) (r := .kw (KJ (x))) (BI 34) rfl rfl rfl rfl rfl bJ rfl sh_J ?_
 refine PW.alloc (BI 34) rfl rfl rfl rfl rfl bJ ?_
 refine PW.nil (SX.then (SC.seq (SC.region ?_)))
 refine PW.fld (r := .kw (KDt (x.natAbs : Int))) rfl rfl rfl rfl rfl rfl rfl rfl rfl rfl rfl fldJ1 (KDt.st _) ?_
 refine PW.val (r := .kw (KJ (x.natAbs : Int))) rfl rfl rfl rfl (fun a W hf => by obtain ⟨h1, _⟩ := hf.ho 4 _ rfl; have h1c := h1; obtain ⟨zs, A, c, e, _⟩ := h1; have e2 : a.tmps[4]?.getD undef = .slice A zs.length c := (by simpa [Array.getD_eq_getD_getElem?] using e); exact ⟨.agg #[.bool false, .slice A zs.length c], by go_simp, (by rw [e] at h1c; exact buildJ h1c (by omega)), KJ.st _⟩) ?_
 refine PW.store (x := .tmp 5) (r := .kw (KJ (x.natAbs : Int))) rfl rfl rfl rfl rfl rfl sh_J ?_
 refine PW.nil (SX.then (SC.ret ?_))
 exact SX.doneC (s := 2) (.inl rfl) rfl rfl rfl
theorem ce_k_jdiv : CE 80 := fun args W => by go_simp
set_option maxHeartbeats 1600000 in
theorem k_jdiv {x y : Int} {a b : Nat} (X : bd a x) (Y : bd b y) (ha : a ≤ 400000) (hb : b ≤ 400000) (hy : y ≠ 0) : CallOk 80 [KJ (x), KJ (y)] (K3 (KJ (x.tdiv y)) (KJ (x.tmod y)) (KV (.int .i64 0))) := by
 refine CallOk.enter (l := [.kw (KJ (x)), .kw (KJ (y))]) 33 ce_k_jdiv Tryz.func80 rfl Tryz.ntmps80 (by simp) ⟨KJ.st _, rfl, KJ.st _, rfl, trivial⟩ fun w => ?_
 refine SC.seq (SC.region ?_)
 refine PW.box (x := .tmp 0) (r := .kw (KJ (x))) (BI 34) rfl rfl rfl rfl rfl bJ rfl sh_J ?_
 refine PW.box (x := .tmp 1) (r := .kw (KJ (y))) (BI 34) rfl rfl rfl rfl rfl bJ rfl sh_J ?_
 refine PW.alloc (BI 34) rfl rfl rfl rfl rfl bJ ?_
 refine PW.alloc (BI 34) rfl rfl rfl rfl rfl bJ ?_
 refine PW.assign rfl rfl rfl rfl rfl (PW.nil (SX.then (SC.seq (SC.seq (SC.region ?_)))))
 refine PW.load rfl rfl rfl rfl rfl rfl ?_
 refine PW.call (r := .vl (.int .i64 (sgn (y)))) rfl rfl rfl rfl rfl rfl (KV.st _) rfl (k_jsign rfl) ?_
 refine PW.q2 (x := .tmp 10) (y := .const (.int .i64 0)) (.bool false) rfl rfl rfl rfl rfl (fun ρ W h1 h2 => by exact r_eqF h1 h2 (sgn_ne hy)) ?_
 refine PW.nil (SX.then (SC.cond (t := false) rfl (SC.skip (SX.then (SC.seq (SC.region ?_))))))
 refine PW.fld (r := .kw (KDt (x.natAbs : Int))) rfl rfl rfl rfl rfl rfl rfl rfl rfl rfl rfl fldJ1 (KDt.st _) ?_
 refine PW.fld (r := .kw (KDt (y.natAbs : Int))) rfl rfl rfl rfl rfl rfl rfl rfl rfl rfl rfl fldJ1 (KDt.st _) ?_
 refine PW.call (r := .kw (K2 (KDt ((x.natAbs : Int) / (y.natAbs : Int))) (KDt ((x.natAbs : Int) % (y.natAbs : Int))))) rfl rfl rfl rfl rfl rfl (K2.st (KDt.st _) (KDt.st _)) rfl (k_rdivided (X).abs (Y).abs ha hb (by omega)) ?_
 refine PW.move rfl rfl rfl rfl rfl ?_
 refine PW.ext (r := .kw (KDt ((x.natAbs : Int) / (y.natAbs : Int)))) rfl rfl rfl rfl rfl ex20 (KDt.st _) rfl ?_
 refine PW.ext (r := .kw (KDt ((x.natAbs : Int) % (y.natAbs : Int)))) rfl rfl rfl rfl rfl ex21 (KDt.st _) rfl ?_
 refine PW.assign rfl rfl rfl rfl rfl (PW.assign rfl rfl rfl rfl rfl (PW.nil (SX.then (SC.seq ?_))))
 refine SC.fix (s := 2) rfl fun p2 => ?_
 refine SC.fix (s := 3) rfl fun p3 => ?_
 refine SC.dx [.val 22 (.vl (.pointer (some ⟨p2, 0, none⟩))), .val 23 (.vl (.bool (decide (x < 0)))), .val 24 (.vl (.pointer (some ⟨p3, 0, none⟩))), .val 25 (.vl (.bool (decide (y < 0)))), .val 26 (.vl (.bool (decide (x < 0) != decide (y < 0)))), .val 27 (.kw (KDt ((x.natAbs : Int) / (y.natAbs : Int)))), .val 28 (.kw (KJ (x.tdiv y))), .val 29 (.vl (.pointer (some ⟨p2, 0, none⟩))), .val 30 (.vl (.bool (decide (x < 0)))), .val 31 (.kw (KDt ((x.natAbs : Int) % (y.natAbs : Int)))), .val 32 (.kw (KJ (x.tmod y))), .put 4 (BI 34) (.kw (KJ (x.tdiv y))), .put 5 (BI 34) (.kw (KJ (x.tmod y))), .val 6 (.vl (.int .i64 0))] [([], [2]), ([0], [2]), ([], [3]), ([2], [3]), ([1, 3], []), ([], [7]), ([4, 5], []), ([], [2]), ([7], [2]), ([], [8]), ([8, 9], []), ([6], [4]), ([10], [5]), ([], [])] rfl (by kernel_rfl) (by kernel_rfl) (by kernel_rfl) rfl ⟨?_, ?_, ?_, ?_, ?_, ?_, ?_, ?_, ?_, ?_, ?_, ?_, ?_, ?_, trivial⟩ ?_
 ·exact DX.fa ⟨p2, 0, none⟩ rfl rfl rfl rfl rfl faJ0
 ·exact DX.fl (s := 2) (r := .vl (.bool (decide (x < 0)))) rfl rfl rfl rfl rfl rfl rfl (KV.st _) (flJ0 (rfl))
 ·exact DX.fa ⟨p3, 0, none⟩ rfl rfl rfl rfl rfl faJ0
 ·exact DX.fl (s := 3) (r := .vl (.bool (decide (y < 0)))) rfl rfl rfl rfl rfl rfl rfl (KV.st _) (flJ0 (rfl))
 ·exact DX.q2 (x := .tmp 23) (y := .tmp 25) (.bool (decide (x < 0) != decide (y < 0))) rfl rfl rfl rfl rfl (fun ρ W h1 h2 => by go_simp; cases decide (x < 0) <;> cases decide (y < 0) <;> rfl)
 ·exact DX.move rfl rfl rfl rfl rfl rfl
 ·exact DX.call (r := .kw (KJ (x.tdiv y))) rfl rfl rfl rfl rfl rfl (KJ.st _) rfl (k_mkT (sgJ_tdiv rfl))
 ·exact DX.fa ⟨p2, 0, none⟩ rfl rfl rfl rfl rfl faJ0
 ·exact DX.fl (s := 2) (r := .vl (.bool (decide (x < 0)))) rfl rfl rfl rfl rfl rfl rfl (KV.st _) (flJ0 (rfl))
 ·exact DX.move rfl rfl rfl rfl rfl rfl
 ·exact DX.call (r := .kw (KJ (x.tmod y))) rfl rfl rfl rfl rfl rfl (KJ.st _) rfl (k_mkT (sgJ_tmod rfl))
 ·exact DX.store (x := .tmp 28) (r := .kw (KJ (x.tdiv y))) rfl rfl rfl rfl rfl rfl sh_J
 ·exact DX.store (x := .tmp 32) (r := .kw (KJ (x.tmod y))) rfl rfl rfl rfl rfl rfl sh_J
 ·exact DX.assign rfl rfl rfl rfl rfl rfl
 refine SX.unfix (s := 2) rfl ?_
 refine SX.unfix (s := 3) rfl ?_
 refine SX.then (SC.ret ?_)
 exact SX.done3 (s := 4) (s' := 5) (t := 6) (r := .vl (.int .i64 0)) (.inl rfl) rfl rfl rfl rfl rfl
end Go.Proofs.YthpjmhhfcechmaaGreat.Sy
/- shifted: its own slice. -/
namespace Go.Proofs.YthpjmhhfcechmaaGreat
open Go Go.RowKit Ma
set_option maxHeartbeats 800000 in
set_option maxRecDepth 100000 in
theorem shifted_o (A : Option Addr) (c : Nat) (xs : List Int) (s : Nat) (w : World) (rA : Rd w .u32 A xs) (dx : dg b32 xs) (hl : xs.length ≤ 1000000) (hs : s < 32) :
  Calls Tryz.prog 162 #[.slice A xs.length c, .int .u64 s] w (Ret w (KO w.heap.size 140 .u32 fun zs => dg b32 zs ∧ lv b32 zs = lv b32 xs * (2 : Int) ^ s ∧ zs.length = xs.length + 1)) := by
 obtain ⟨i0, hi, hz0, hz1, hz2⟩ := info_parts info_u32
 have hlx := rA.1
 go_enter Tryz.func162, Tryz.ntmps162
 go_wp2_with (at_make; refine wpList_make_full _ rfl _ _ 22 rfl w.heap.size 140 i0 (.int .u32 0) 1 Tryz.underlying22 hi hz0 hz1 _ _ _ _ (xs.length + 1) rfl rfl (by omega) (by omega) ?b2 ?b3 (Nat.le_refl _) ?_)
 case b2 => rw [hz2]; omega
 case b3 => unfold maxLen; omega
 intro w0 hown0 hgrow0
 have n0 : Nw w w0 := Below.grown (Nw.refl w) hgrow0 (Nat.le_refl _) (fun k h => by cases h)
 have o0 := Own.made hown0
 clear hown0
 obtain ⟨g, hg⟩ : ∃ g, g = w.heap.size := ⟨_, rfl⟩
 rw [← hg] at o0
 have HG := Lib.hid hg
 go_wp2
 go_loopw [15] (fun ci wr => ∃ (k : Nat) (zs : List Int), ci = .int .i64 k ∧ Own wr w.heap.size 140 .u32 (.slice (some ⟨w.heap.size, 0, none⟩) (xs.length + 1) (xs.length + 1)) zs ∧ ShAt xs s k zs ∧ Nw w wr)
  (fun ci _ => xs.length - (intOf ci).toNat)
 case atStart => exact ⟨0, _, rfl, HG.out ▸ o0, ShAt.start xs s, n0⟩
 case round =>
  obtain ⟨k, zs, rfl, ho, hs1, hn⟩ := hrel
  have hkle := hs1.le
  clear hg o0
  by_cases hk : k < xs.length
  ·obtain ⟨ad, hA, hcell⟩ := rA.2 k (by omega)
   subst hA
   have hcell := hn.kept _ _ _ hcell
   obtain ⟨x0, x1⟩ := dg_at dx (by decide) k
   rw [b32_eq] at x1
   have HS := Lib.hid (hs1.step dx hs hk)
   have hc := ho.cellAt (i := k) (by rw [hs1.len]; omega) hs1.len.symm
   have hf := ho.frozenAt hs1.len.symm k
   have HZ := Lib.hid hs1.len
   have hc2 := ho.cellAt (i := k + 1) (by rw [hs1.len]; omega) hs1.len.symm
   have hf2 := ho.frozenAt hs1.len.symm (k + 1)
   obtain ⟨hst, hz0', hmod, hv0, hv1, hq, hsum⟩ := HS.out
   have hor := or_add (at0 zs k) (at0 xs k * (2 : Int) ^ s % 4294967296) s ⟨hz0', hs1.top⟩ ⟨Int.emod_nonneg _ (by decide), Int.emod_lt_of_pos _ (by decide)⟩ hmod (by have := dg_at hs1.dg (by decide) k; rw [b32_eq] at this; exact this.2)
   have HST := Lib.hid hst
   have HO := Lib.hid ho
   clear hst hz0' hmod hq hsum hs1 ho HS
   go_wp2
   refine ⟨⟨k + 1, _, by go_num, ((HO.out.set HZ.out.symm k _).set (by simp [HZ.out]) (k + 1) _), HST.out, (hn.set (Nat.le_refl _) _).set (Nat.le_refl _) _⟩, by simp [intOf]; omega⟩
  ·have hke : k = xs.length := by omega
   have hd := hs1.eq
   rw [hke, List.take_length] at hd
   have HD := Lib.hid hd
   have HZ := Lib.hid hs1.len
   have dz := hs1.dg
   clear hd hke hs1
   go_wp2
   go_ret
   have hlz : xs.length + 1 = zs.length := HZ.out.symm
   have HO2 : RowKit.Hid (Own wr w.heap.size 140 .u32 (.slice (some ⟨w.heap.size, 0, none⟩) (xs.length + 1) (xs.length + 1)) zs) := Lib.hid ho
   refine ⟨_, rfl, ⟨zs, w.heap.size, xs.length + 1, ?_, HO2.out, dz, HD.out, HZ.out⟩, hn⟩
   rw [← hlz]; rfl
end Go.Proofs.YthpjmhhfcechmaaGreat
/- Long division of limbs: its rounds together. No program in sight. -/
namespace Go.Proofs.YthpjmhhfcechmaaGreat.Ma
structure Ro (U0 vs : List Int) (L t : Nat) (us qs : List Int) : Prop where
 ul : us.length = U0.length
 lf : Lft vs t us
 ql : qs.length = L
 qd : dg 4294967296 qs
 eq : lv 4294967296 U0 = lv 4294967296 us + lv 4294967296 qs * lv 4294967296 vs
 qz : ∀ m, m < t → at0 qs m = 0
 tL : t ≤ L
theorem at0_zeros (n m : Nat) : at0 (List.replicate n 0) m = 0 := by
 unfold at0
 simp only [List.getD_eq_getElem?_getD, List.getElem?_replicate]
 split <;> rfl
theorem Ro.start {U0 vs : List Int} {L : Nat} (h : Lft vs L U0) : Ro U0 vs L L U0 (List.replicate L 0) :=
 ⟨rfl, h, List.length_replicate, dg_replicate L (by decide) (by decide), by rw [lv_zeros, Int.zero_mul, Int.add_zero], fun m _ => at0_zeros L m, Nat.le_refl _⟩
theorem Ro.step {U0 vs us us' qs : List Int} {L i : Nat} {D : Int} (h : Ro U0 vs L (i + 1) us qs) (hl : us'.length = us.length) (lf : Lft vs i us') (e : lv 4294967296 us = lv 4294967296 us' + 4294967296 ^ i * (D * lv 4294967296 vs)) (h0 : 0 ≤ D) (h1 : D < 4294967296) : Ro U0 vs L i us' (qs.set i D) := by
 have hi : i < qs.length := by rw [h.ql]; have := h.tL; omega
 refine ⟨by rw [hl, h.ul], lf, by rw [List.length_set, h.ql], dg_set h.qd _ h0 h1, ?_, fun m hm => ?_, by have := h.tL; omega⟩
 ·rw [lv_set _ _ _ _ hi, h.qz i (by omega), h.eq, e, Int.sub_zero]
  generalize (4294967296 : Int) ^ i = A
  generalize lv 4294967296 vs = V
  grind
 ·rw [at0_set _ hi, if_neg (by omega)]; exact h.qz m (by omega)
theorem shift_fits {y : Int} (h0 : 1 ≤ y) (h1 : y < 4294967296) : wid y ≤ 32 ∧ 1 ≤ wid y ∧ (y + 1) * 2 ^ (32 - wid y) ≤ 4294967296 := by
 have h2 : wid y ≤ 32 := wid_le_of (by have e : (2 : Int) ^ 32 = 4294967296 := rfl; rw [e]; exact h1)
 have h3 := wid_pos (z := y) (by omega)
 have h4 := wid_lt y
 refine ⟨h2, h3, ?_⟩
 have e : (4294967296 : Int) = 2 ^ wid y * 2 ^ (32 - wid y) := by rw [← Int.pow_add, show wid y + (32 - wid y) = 32 by omega]; rfl
 conv => rhs; rw [e]
 exact Int.mul_le_mul_of_nonneg_right (by omega) (Int.le_of_lt (Int.pow_pos (by decide)))
section
variable {xs ys U0 vs : List Int} {s : Nat}
theorem same_len (dy : dg 4294967296 ys) (hn : 1 ≤ ys.length) (h1 : 1 ≤ at0 ys (ys.length - 1)) (hs : s = 32 - wid (at0 ys (ys.length - 1))) (dv : dg 4294967296 vs) (tv : top vs) (e : lv 4294967296 vs = lv 4294967296 ys * 2 ^ s) : vs.length = ys.length ∧ 1 ≤ at0 vs (vs.length - 1) ∧ 4294967296 ^ (ys.length - 1) * 2 ^ s ≤ lv 4294967296 vs := by
 obtain ⟨y0, y1⟩ := dg_at dy BB_pos (ys.length - 1)
 obtain ⟨w0, w1, w2⟩ := shift_fits h1 y1
 rw [← hs] at w2
 obtain ⟨n, hn'⟩ : ∃ n, ys.length = n + 1 := ⟨ys.length - 1, by omega⟩
 have hp : (0 : Int) < 2 ^ s := Int.pow_pos (by decide)
 have hA := pos_pow BB_pos n
 have sp := lv_split 4294967296 ys n (by omega)
 rw [lv_drop 4294967296 ys n (by omega), List.drop_eq_nil_of_le (show ys.length ≤ n + 1 by omega)] at sp
 have t0 := lv_nonneg BB_pos (dg_take dy n)
 have t1 := lv_lt BB_pos (dg_take dy n)
 rw [List.length_take, Nat.min_eq_left (by omega)] at t1
 simp only [lv, Int.mul_zero, Int.add_zero] at sp
 rw [hn', Nat.add_sub_cancel] at h1 w2 ⊢
 have lo : 4294967296 ^ n * 2 ^ s ≤ lv 4294967296 vs := by
  rw [e]
  refine Int.mul_le_mul_of_nonneg_right ?_ (Int.le_of_lt hp)
  have : 4294967296 ^ n * 1 ≤ 4294967296 ^ n * at0 ys n := Int.mul_le_mul_of_nonneg_left h1 (Int.le_of_lt hA)
  omega
 have hi : lv 4294967296 vs < 4294967296 ^ (n + 1) := by
  rw [e, Int.pow_succ]
  have a1 : lv 4294967296 ys < 4294967296 ^ n * (at0 ys n + 1) := by rw [Int.mul_add, Int.mul_one]; omega
  have a2 : lv 4294967296 ys * 2 ^ s < 4294967296 ^ n * (at0 ys n + 1) * 2 ^ s := Int.mul_lt_mul_of_pos_right a1 hp
  have a3 : 4294967296 ^ n * ((at0 ys n + 1) * 2 ^ s) ≤ 4294967296 ^ n * 4294967296 := Int.mul_le_mul_of_nonneg_left w2 (Int.le_of_lt hA)
  rw [← Int.mul_assoc] at a3
  omega
 have p1 : (1 : Int) ≤ 2 ^ s := hp
 have lo1 : 4294967296 ^ n ≤ lv 4294967296 vs := by
  have : (4294967296 : Int) ^ n * 1 ≤ 4294967296 ^ n * 2 ^ s := Int.mul_le_mul_of_nonneg_left p1 (Int.le_of_lt hA)
  omega
 have hne : vs ≠ [] := fun h => by rw [h] at lo1; simp only [lv] at lo1; omega
 have l1 := top_le BB_pos dv tv hne
 have l2 := lv_lt BB_pos dv
 have len : vs.length = n + 1 := by
  apply Classical.byContradiction
  intro hne'
  rcases Nat.lt_or_gt_of_ne hne' with hlt | hgt
  ·have := pow_le (b := 4294967296) (by decide) (show vs.length ≤ n by omega)
   omega
  ·have := pow_le (b := 4294967296) (by decide) (show n + 1 ≤ vs.length - 1 by omega)
   omega
 refine ⟨len, ?_, lo⟩
 have := (top_at hne).1 tv
 have := (dg_at dv BB_pos (vs.length - 1)).1
 omega
theorem lft_start (dx : dg 4294967296 xs) (hn : 1 ≤ ys.length) (hle : ys.length ≤ xs.length) (dU : dg 4294967296 U0) (eU : lv 4294967296 U0 = lv 4294967296 xs * 2 ^ s) (lo : 4294967296 ^ (ys.length - 1) * 2 ^ s ≤ lv 4294967296 vs) {L : Nat} (hL : L = xs.length + 1 - ys.length) : Lft vs L U0 := by
 refine ⟨dU, ?_⟩
 have hp : (0 : Int) < 2 ^ s := Int.pow_pos (by decide)
 have h1 := lv_lt BB_pos dx
 have h2 : lv 4294967296 xs * 2 ^ s < 4294967296 ^ xs.length * 2 ^ s := Int.mul_lt_mul_of_pos_right h1 hp
 have h3 : 4294967296 ^ L * (4294967296 ^ (ys.length - 1) * 2 ^ s) ≤ 4294967296 ^ L * lv 4294967296 vs := Int.mul_le_mul_of_nonneg_left lo (Int.le_of_lt (pos_pow BB_pos L))
 rw [← Int.mul_assoc, ← Int.pow_add, show L + (ys.length - 1) = xs.length by omega] at h3
 omega
end
theorem Ro.fin {U0 vs us qs : List Int} {L s : Nat} {X Y : Int} (h : Ro U0 vs L 0 us qs) (eU : lv 4294967296 U0 = X * 2 ^ s) (eV : lv 4294967296 vs = Y * 2 ^ s) : lv 4294967296 qs = X / Y ∧ lv 4294967296 us / 2 ^ s = X % Y ∧ 0 < Y := by
 have hp : (0 : Int) < 2 ^ s := Int.pow_pos (by decide)
 have h1 := h.lf.2
 rw [Int.pow_zero, Int.one_mul] at h1
 have h0 := lv_nonneg BB_pos h.lf.1
 have e := h.eq
 rw [eU, eV] at e
 rw [eV] at h1
 have hY : 0 < Y := by
  apply Classical.byContradiction
  intro hn
  have : Y * 2 ^ s ≤ 0 * 2 ^ s := Int.mul_le_mul_of_nonneg_right (by omega) (Int.le_of_lt hp)
  omega
 -- what is left is divisible by 2^s
 have e1 : lv 4294967296 us = (X - lv 4294967296 qs * Y) * 2 ^ s := by rw [Int.sub_mul, Int.mul_assoc]; omega
 have e2 : lv 4294967296 us / 2 ^ s = X - lv 4294967296 qs * Y := by rw [e1, Int.mul_ediv_cancel _ (Int.ne_of_gt hp)]
 rw [e1] at h0 h1
 have r0 : 0 ≤ X - lv 4294967296 qs * Y := by
  apply Classical.byContradiction
  intro hn
  have : (X - lv 4294967296 qs * Y) * 2 ^ s < 0 * 2 ^ s := Int.mul_lt_mul_of_pos_right (by omega) hp
  omega
 have r1 : X - lv 4294967296 qs * Y < Y := Int.lt_of_mul_lt_mul_right h1 (Int.le_of_lt hp)
 have ex : X = (X - lv 4294967296 qs * Y) + Y * lv 4294967296 qs := by rw [Int.mul_comm Y]; omega
 refine ⟨?_, ?_, hY⟩
 ·conv => rhs; rw [ex]
  rw [Int.add_mul_ediv_left _ _ (Int.ne_of_gt hY), Int.ediv_eq_zero_of_lt r0 r1, Int.zero_add]
 ·rw [e2]
  conv => rhs; rw [ex]
  rw [Int.add_mul_emod_self_left, Int.emod_eq_of_lt r0 r1]
structure Rm (us : List Int) (n s k : Nat) (rs : List Int) : Prop where
 len : rs.length = n
 d : dg 4294967296 rs
 eq : ∀ j, j < k → at0 rs j = lv 4294967296 us / 2 ^ s / 4294967296 ^ j % 4294967296
 le : k ≤ n
theorem Rm.start (us : List Int) (n s : Nat) : Rm us n s 0 (List.replicate n 0) := ⟨List.length_replicate, dg_replicate n (by decide) (by decide), fun j hj => by omega, by omega⟩
theorem Rm.step {us rs : List Int} {n s k : Nat} (h : Rm us n s k rs) (du : dg 4294967296 us) (hs : s < 32) (hk : k < n) (hl : n < us.length) : Rm us n s (k + 1) (rs.set k (((at0 us (k + 1) * 4294967296 + at0 us k) / 2 ^ s) % 4294967296)) := by
 have hk' : k < rs.length := by rw [h.len]; exact hk
 refine ⟨by rw [List.length_set, h.len], dg_set h.d _ (Int.emod_nonneg _ (by decide)) (Int.emod_lt_of_pos _ BB_pos), fun j hj => ?_, hk⟩
 rw [at0_set _ hk']
 by_cases e : k = j
 ·rw [if_pos e, low_digit du hs (by omega), e]
 ·rw [if_neg e]; exact h.eq j (by omega)
theorem Rm.fin {us rs : List Int} {n s : Nat} (h : Rm us n s n rs) {R : Int} (e : lv 4294967296 us / 2 ^ s = R) (h0 : 0 ≤ R) (h1 : R < 4294967296 ^ n) : lv 4294967296 rs = R := by
 have := lv_digits BB_pos (V := lv 4294967296 us / 2 ^ s) (zs := rs) n (by rw [h.len]; exact Nat.le_refl _) h.eq
 rw [List.take_of_length_le (by rw [h.len]; exact Nat.le_refl _), e, Int.emod_eq_of_lt h0 h1] at this
 exact this
theorem down_pos {vs us us3 : List Int} {i : Nat} {D : Int} (d : dg 4294967296 us) (h : Lft vs i us3) (e : lv 4294967296 us = lv 4294967296 us3 + 4294967296 ^ i * ((D - 1) * lv 4294967296 vs)) (h0 : 0 ≤ D) : 1 ≤ D := by
 apply Classical.byContradiction
 intro hn
 have hD : D = 0 := by omega
 subst hD
 have h1 := lv_nonneg BB_pos d
 have h2 := h.2
 rw [Int.zero_sub, Int.neg_mul, Int.one_mul, Int.mul_neg] at e
 omega
end Go.Proofs.YthpjmhhfcechmaaGreat.Ma
