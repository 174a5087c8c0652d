/- Parts Jt, It, D2, in one file. -/
import Derived.RowKit
import Derived.Test.YtcgkgcciogibkaaLTexts2
import Derived.Test.YtcgkgcciogibkaaLTexts4
import Derived.Test.YtcgkgcciogibkaaLTexts6
import Derived.Test.YtcgkgcciogibkaaLTexts8
/- The reference's Text by rules. -/
set_option linter.unusedVariables false
set_option linter.unusedSimpArgs false
namespace Go.Proofs.Ytcgkgcciogibkaa.Sy
open Go Go.RowKit Ma
theorem chs_size {d : Int} (h0 : 0 ≤ d) (h1 : d < 36) : (chs d).size = 1 := by rw [size_byl, chs_byl h0 h1]; rfl
theorem KDt_pos {zs : List Int} (d : dg 65536 zs) (t : top zs) (h : 0 < zs.length) : 0 < lv 65536 zs := by
  have h1 := top_le BJ_pos d t (fun e => by rw [e] at h; simp at h)
  have h2 := pos_pow BJ_pos (zs.length - 1)
  omega
theorem div_lt {D r : Int} (h : 0 < D) (hr : 2 ≤ r) : D / r < D := by
  have h1 := Int.mul_ediv_add_emod D r
  have h2 := Int.emod_nonneg D (show r ≠ 0 by omega)
  have h3 := Int.ediv_nonneg (a := D) (b := r) (by omega) (by omega)
  have h4 := Int.mul_le_mul_of_nonneg_right hr h3
  by_cases h5 : D / r = 0
  · omega
  · omega

theorem ce_jtext : CE 53 := fun args W => by go_simp

set_option maxHeartbeats 3200000 in
set_option maxRecDepth 100000 in
theorem k_jtext_bad {x r : Int} (h : ¬ (2 ≤ r ∧ r ≤ 36)) : CallOk 53 [KJ (x), KV (.int .i64 (r))] (K2 (KV (.string ⟨#[]⟩)) (KV (.int .i64 1))) := by
  refine CallOk.enter (l := [.kw (KJ (x)), .vl (.int .i64 (r))]) 64 ce_jtext Try.func53 rfl Try.ntmps53 (by simp) ⟨(KJ.st _), rfl, (KV.st _), rfl, trivial⟩ fun w => ?_
  refine SC.seq ?_
  refine SC.region ?_
  refine PW.box (x := .tmp 0) (r := .kw (KJ (x))) (BI 31) rfl rfl rfl rfl rfl bJ rfl sh_J ?_
  refine PW.assign rfl rfl rfl rfl rfl ?_
  refine PW.assign rfl rfl rfl rfl rfl ?_
  refine PW.nil ?_
  refine SX.then ?_
  refine SC.seq ?_
  refine SC.seq ?_
  by_cases hr2 : r < 2
  · refine SC.region ?_
    refine PW.move rfl rfl rfl rfl rfl ?_
    refine PW.q2 (x := .tmp 12) (y := .const (.int .i64 2)) (.bool true) rfl rfl rfl rfl rfl (fun ρ W h1 h2 => by exact r_lt h1 h2 (decide_eq_true hr2)) ?_
    refine PW.move rfl rfl rfl rfl rfl ?_
    refine PW.skip rfl rfl rfl ?_
    refine PW.skip rfl rfl rfl ?_
    refine PW.pick (t := true) rfl rfl rfl rfl rfl rfl ?_
    refine PW.nil ?_
    refine SX.then ?_
    refine SC.cond (t := true) rfl ?_
    refine SC.seq ?_
    refine SC.region ?_
    refine PW.assign rfl rfl rfl rfl rfl ?_
    refine PW.assign rfl rfl rfl rfl rfl ?_
    refine PW.nil ?_
    refine SX.then ?_
    refine SC.ret ?_
    refine SX.thenR ?_
    exact SX.done2t (s := 4) (t := 5) (.inl rfl) rfl rfl rfl rfl
  · refine SC.region ?_
    refine PW.move rfl rfl rfl rfl rfl ?_
    refine PW.q2 (x := .tmp 12) (y := .const (.int .i64 2)) (.bool false) rfl rfl rfl rfl rfl (fun ρ W h1 h2 => by exact r_lt h1 h2 (decide_eq_false hr2)) ?_
    refine PW.move rfl rfl rfl rfl rfl ?_
    refine PW.move rfl rfl rfl rfl rfl ?_
    refine PW.q2 (x := .tmp 15) (y := .const (.int .i64 36)) (.bool true) rfl rfl rfl rfl rfl (fun ρ W h1 h2 => by exact r_gt h1 h2 (decide_eq_true (by omega))) ?_
    refine PW.pick (t := false) rfl rfl rfl rfl rfl rfl ?_
    refine PW.nil ?_
    refine SX.then ?_
    refine SC.cond (t := true) rfl ?_
    refine SC.seq ?_
    refine SC.region ?_
    refine PW.assign rfl rfl rfl rfl rfl ?_
    refine PW.assign rfl rfl rfl rfl rfl ?_
    refine PW.nil ?_
    refine SX.then ?_
    refine SC.ret ?_
    refine SX.thenR ?_
    exact SX.done2t (s := 4) (t := 5) (.inl rfl) rfl rfl rfl rfl

set_option maxHeartbeats 3200000 in
set_option maxRecDepth 100000 in
theorem rtext_t {x r : Int} {A : Option Addr} {c M : Nat} {xs : List Int} {w : World} (rA : Rd w .i64 A xs) (dx : dg 65536 xs) (tx : top xs) (hx : xs.length ≤ 2000000) (e : lv 65536 xs = (x.natAbs : Int)) (h : 2 ≤ r ∧ r ≤ 36) (hX : (x.natAbs : Int) < 2 ^ M) (hM : M ≤ 40000000) (hx2 : x < 0) :
    Calls Try.prog 53 #[.agg #[.bool true, .slice A xs.length c], .int .i64 (r)] w (Ret w (K2 (KV (.string (tstr r x))) (KV (.int .i64 0)))) := by
  refine calls_sc (l := [.vl (.agg #[.bool true, .slice A xs.length c]), .vl (.int .i64 (r))]) (us := [.agg #[.bool true, .slice A xs.length c], .int .i64 (r)]) 64 Try.func53 rfl Try.ntmps53 (by simp) ⟨rfl, rfl, rfl, rfl, trivial⟩ ?_
  refine SC.seq ?_
  refine SC.region ?_
  refine PW.boxc (x := .tmp 0) (BI 31) rfl rfl rfl rfl rfl bJ rfl ⟨_, _, _, _, _, rfl, rfl⟩ fun pb1 => ?_
  refine PW.assign rfl rfl rfl rfl rfl ?_
  refine PW.assign rfl rfl rfl rfl rfl ?_
  refine PW.nil ?_
  refine SX.then ?_
  refine SC.seq ?_
  refine SC.seq ?_
  refine SC.region ?_
  refine PW.move rfl rfl rfl rfl rfl ?_
  refine PW.q2 (x := .tmp 12) (y := .const (.int .i64 2)) (.bool false) rfl rfl rfl rfl rfl (fun ρ W h1 h2 => by exact r_lt h1 h2 (decide_eq_false (by omega))) ?_
  refine PW.move rfl rfl rfl rfl rfl ?_
  refine PW.move rfl rfl rfl rfl rfl ?_
  refine PW.q2 (x := .tmp 15) (y := .const (.int .i64 36)) (.bool false) rfl rfl rfl rfl rfl (fun ρ W h1 h2 => by exact r_gt h1 h2 (decide_eq_false (by omega))) ?_
  refine PW.pick (t := false) rfl rfl rfl rfl rfl rfl ?_
  refine PW.nil ?_
  refine SX.then ?_
  refine SC.cond (t := false) rfl ?_
  refine SC.skip ?_
  refine SX.then ?_
  refine SC.seq ?_
  refine SC.region ?_
  refine PW.assign rfl rfl rfl rfl rfl ?_
  refine PW.nil ?_
  refine SX.then ?_
  refine SC.seq ?_
  refine SC.region ?_
  refine PW.fac ⟨pb1, 1, none⟩ rfl rfl rfl rfl rfl facJ1 ?_
  refine PW.flc (s := 2) (.slice A xs.length c) rfl rfl rfl rfl rfl rfl flcJ1 ?_
  refine PW.assign rfl rfl rfl rfl rfl ?_
  refine PW.nil ?_
  refine SX.then ?_
  refine SC.seq ?_
  refine SC.block ?_
  refine SC.loopW (S := World × Option Addr × Nat × List Int × ByteArray) (fun ⟨wb, _, _, _, _⟩ => wb) (fun ⟨wb, C, cz, zs, t⟩ => [(1, .vl (.int .i64 (r))), (2, .bc (BI 31) pb1 (.agg #[.bool true, .slice A xs.length c])), (6, .vl (.string t)), (7, .vl (.slice C zs.length cz))]) (fun ⟨wb, C, cz, zs, t⟩ => Below w.heap.size w wb ∧ Rd wb .i64 C zs ∧ dg 65536 zs ∧ top zs ∧ zs.length ≤ 2000000 ∧ TyI (x.natAbs : Int) r M zs t) (fun ⟨wb, C, cz, zs, t⟩ => (lv 65536 zs).toNat) ?_ ?_
  · exact fun a W hf => ⟨(W, A, c, xs, ⟨#[]⟩), ⟨hf.be, Rd.below rA hf.be, dx, tx, hx, TyI.start e⟩, Fr.rebase [(1, .vl (.int .i64 (r))), (2, .bc (BI 31) pb1 (.agg #[.bool true, .slice A xs.length c])), (6, .vl (.string ⟨#[]⟩)), (7, .vl (.slice A xs.length c))] hf ⟨rfl, rfl, rfl, rfl, trivial⟩ rfl⟩
  rintro ⟨wb, C, cz, zs, t⟩ ⟨hb, rC, dz, tz, hzl, hT⟩
  show SC _ _ _ _ [(1, .vl (.int .i64 (r))), (2, .bc (BI 31) pb1 (.agg #[.bool true, .slice A xs.length c])), (6, .vl (.string t)), (7, .vl (.slice C zs.length cz))] _
  refine SC.seq ?_
  refine SC.seq ?_
  by_cases hz : (zs.length : Int) > 0
  · refine SC.region ?_
    refine PW.move rfl rfl rfl rfl rfl ?_
    refine PW.qn [(.tmp 20, .slice C zs.length cz)] (.int .i64 (zs.length : Int)) rfl rfl rfl ⟨rfl, trivial⟩ (fun ρ W h => by obtain ⟨h1, _⟩ := h; exact r_lenI h1) ?_
    refine PW.q2 (x := .tmp 21) (y := .const (.int .i64 0)) (.bool true) rfl rfl rfl rfl rfl (fun ρ W h1 h2 => by exact r_gt h1 h2 (decide_eq_true hz)) ?_
    refine PW.nil ?_
    refine SX.then ?_
    refine SC.cond (t := true) rfl ?_
    refine SC.skip ?_
    refine SX.then ?_
    refine SC.block ?_
    refine SC.seq ?_
    refine SC.region ?_
    refine PW.move rfl rfl rfl rfl rfl ?_
    refine PW.qn [(.tmp 23, .slice C zs.length cz)] (.int .i64 (zs.length : Int)) rfl rfl rfl ⟨rfl, trivial⟩ (fun ρ W h => by obtain ⟨h1, _⟩ := h; exact r_lenI h1) ?_
    refine PW.make (n := zs.length) 64 rfl rfl rfl rfl rfl Try.underlying29 info_i64 (by omega) (by unfold maxLen; omega) fun g1 => ?_
    refine PW.assign rfl rfl rfl rfl rfl ?_
    refine PW.nil ?_
    refine SX.then ?_
    refine SC.seq ?_
    refine SC.region ?_
    refine PW.assign rfl rfl rfl rfl rfl ?_
    refine PW.nil ?_
    refine SX.then ?_
    refine SC.seq ?_
    refine SC.seq ?_
    refine SC.region ?_
    refine PW.move rfl rfl rfl rfl rfl ?_
    refine PW.qn [(.tmp 26, .slice C zs.length cz)] (.int .i64 (zs.length : Int)) rfl rfl rfl ⟨rfl, trivial⟩ (fun ρ W h => by obtain ⟨h1, _⟩ := h; exact r_lenI h1) ?_
    refine PW.q2 (x := .tmp 27) (y := .const (.int .i64 1)) (.int .i64 ((zs.length : Int) - 1)) rfl rfl rfl rfl rfl (fun ρ W h1 h2 => by exact r_sub h1 h2 (rfl) (by omega)) ?_
    refine PW.assign rfl rfl rfl rfl rfl ?_
    refine PW.nil ?_
    refine SX.then ?_
    refine SC.block ?_
    refine SC.loop (S := Nat × List Int × Int) (fun ⟨t2, qs, R⟩ => [(1, .vl (.int .i64 (r))), (2, .bc (BI 31) pb1 (.agg #[.bool true, .slice A xs.length c])), (6, .vl (.string t)), (7, .vl (.slice C zs.length cz)), (8, .vl (.slice (some ⟨g1, 0, none⟩) zs.length zs.length)), (9, .vl (.int .i64 (R))), (10, .vl (.int .i64 ((t2 : Int) - 1))), (64, .ro (.slice (some ⟨g1, 0, none⟩) zs.length zs.length) 3 (.int .i64) (qs))]) (fun ⟨t2, qs, R⟩ => Dv zs r t2 qs R) (fun ⟨t2, qs, R⟩ => t2) (zs.length, List.replicate zs.length 0, 0) (Dv.start zs (by omega)) ⟨rfl, rfl, rfl, rfl, rfl, rfl, rfl, rfl, trivial⟩ ?_
    rintro ⟨t2, qs, R⟩ hD
    show SC _ _ _ _ [(1, .vl (.int .i64 (r))), (2, .bc (BI 31) pb1 (.agg #[.bool true, .slice A xs.length c])), (6, .vl (.string t)), (7, .vl (.slice C zs.length cz)), (8, .vl (.slice (some ⟨g1, 0, none⟩) zs.length zs.length)), (9, .vl (.int .i64 (R))), (10, .vl (.int .i64 ((t2 : Int) - 1))), (64, .ro (.slice (some ⟨g1, 0, none⟩) zs.length zs.length) 3 (.int .i64) (qs))] _
    refine SC.seq ?_
    refine SC.seq ?_
    by_cases ht : (0 : Int) ≤ (t2 : Int) - 1
    · obtain ⟨i, rfl⟩ : ∃ i, t2 = i + 1 := ⟨t2 - 1, by omega⟩
      rw [show ((i + 1 : Nat) : Int) - 1 = (i : Int) by omega]
      rw [show ((i + 1 : Nat) : Int) - 1 = (i : Int) by omega] at ht
      have hil := hD.le
      have hR0 := hD.r0
      have hR1 := hD.r1
      obtain ⟨n0, n1, n2, n3, n4, n5, n6⟩ := tx_dig h (dg_at dz BJ_pos i) hR0 hR1
      refine SC.region ?_
      refine PW.move rfl rfl rfl rfl rfl ?_
      refine PW.q2 (x := .tmp 29) (y := .const (.int .i64 0)) (.bool true) rfl rfl rfl rfl rfl (fun ρ W h1 h2 => by exact r_ge h1 h2 (decide_eq_true ht)) ?_
      refine PW.nil ?_
      refine SX.then ?_
      refine SC.cond (t := true) rfl ?_
      refine SC.skip ?_
      refine SX.then ?_
      refine SC.seq ?_
      refine SC.block ?_
      refine SC.seq ?_
      refine SC.region ?_
      refine PW.move rfl rfl rfl rfl rfl ?_
      refine PW.q2 (x := .tmp 33) (y := .const (.int .i64 65536)) (.int .i64 (R * 65536)) rfl rfl rfl rfl rfl (fun ρ W h1 h2 => by exact r_mul h1 h2 (rfl) (by omega)) ?_
      refine PW.move rfl rfl rfl rfl rfl ?_
      refine PW.move rfl rfl rfl rfl rfl ?_
      refine PW.q2 (x := .tmp 35) (y := .tmp 36) (.pointer (padd C i)) rfl rfl rfl rfl rfl (fun ρ W h1 h2 => r_idxRI rC h1 h2 (by omega)) ?_
      refine PW.iget (i := i) rfl rfl rfl rfl rfl rfl rC (by omega) r_l64 ?_
      refine PW.q2 (x := .tmp 34) (y := .tmp 38) (.int .i64 (R * 65536 + at0 zs i)) rfl rfl rfl rfl rfl (fun ρ W h1 h2 => by exact r_add h1 h2 (rfl) (by omega)) ?_
      refine PW.assign rfl rfl rfl rfl rfl ?_
      refine PW.nil ?_
      refine SX.then ?_
      refine SC.seq ?_
      refine SC.region ?_
      refine PW.move rfl rfl rfl rfl rfl ?_
      refine PW.move rfl rfl rfl rfl rfl ?_
      refine PW.move rfl rfl rfl rfl rfl ?_
      refine PW.move rfl rfl rfl rfl rfl ?_
      refine PW.q2 (x := .tmp 42) (y := .tmp 43) (.int .i64 ((R * 65536 + at0 zs i) / r)) rfl rfl rfl rfl rfl (fun ρ W h1 h2 => by exact r_quo h1 h2 (rfl) (by omega) (by omega)) ?_
      refine PW.q2 (x := .tmp 40) (y := .tmp 41) (.pointer (some ⟨g1, i, none⟩)) rfl rfl rfl rfl rfl (fun ρ W h1 h2 => r_idxI h1 h2 (by have := hD.len; omega)) ?_
      refine PW.rstore (K := 64) (x := .tmp 44) (i := i) (y := ((R * 65536 + at0 zs i) / r)) rfl rfl rfl rfl rfl (by have := hD.len; omega) rfl rfl r_s64 ?_
      refine PW.nil ?_
      refine SX.then ?_
      refine SC.region ?_
      refine PW.move rfl rfl rfl rfl rfl ?_
      refine PW.move rfl rfl rfl rfl rfl ?_
      refine PW.q2 (x := .tmp 46) (y := .tmp 47) (.int .i64 ((R * 65536 + at0 zs i) % r)) rfl rfl rfl rfl rfl (fun ρ W h1 h2 => by exact r_rem h1 h2 (rfl) (by omega) (by omega)) ?_
      refine PW.assign rfl rfl rfl rfl rfl ?_
      refine PW.nil ?_
      refine SX.blockN ?_
      refine SX.then ?_
      refine SC.region ?_
      refine PW.move rfl rfl rfl rfl rfl ?_
      refine PW.q2 (x := .tmp 31) (y := .const (.int .i64 1)) (.int .i64 ((i : Int) - 1)) rfl rfl rfl rfl rfl (fun ρ W h1 h2 => by exact r_sub h1 h2 (rfl) (by omega)) ?_
      refine PW.assign rfl rfl rfl rfl rfl ?_
      refine PW.nil ?_
      refine SX.back (i, qs.set i ((R * 65536 + at0 zs i) / r), (R * 65536 + at0 zs i) % r) ?_ ?_ ?_
      · exact (by have := hD.step dz (lo := (R * 65536 + at0 zs i) / r) (by omega) (by omega) n3 n2; rw [n4] at this; exact this)
      · exact (show i < i + 1 by omega)
      · exact ⟨rfl, rfl, rfl, rfl, rfl, rfl, rfl, rfl, trivial⟩
    · obtain rfl : t2 = 0 := by omega
      have hR0 := hD.r0
      have hR1 := hD.r1
      obtain ⟨f1, f2⟩ := hD.fin
      refine SC.region ?_
      refine PW.move rfl rfl rfl rfl rfl ?_
      refine PW.q2 (x := .tmp 29) (y := .const (.int .i64 0)) (.bool false) rfl rfl rfl rfl rfl (fun ρ W h1 h2 => by exact r_ge h1 h2 (decide_eq_false ht)) ?_
      refine PW.nil ?_
      refine SX.then ?_
      refine SC.cond (t := false) rfl ?_
      refine SC.exit ?_
      refine SX.thenE ?_
      refine SX.thenE ?_
      refine SX.blockE ?_
      refine SX.then ?_
      refine SC.seq ?_
      refine SC.region ?_
      refine PW.move rfl rfl rfl rfl rfl ?_
      refine PW.callG (r := .vl (tv (.slice (some ⟨g1, 0, none⟩) zs.length zs.length) (trim qs).length)) ce_rtrimmed rfl rfl rfl rfl rfl (KV.st _) rfl (fun a W hf => by have h1 := hf.vl (s := 49) rfl; have h2 : OwF W _ _ (.int .i64) (.slice (some ⟨g1, 0, none⟩) zs.length zs.length) (qs) := hf.ho 64 _ rfl; show Calls Try.prog _ #[a.tmps.getD 49 undef] W _; rw [h1]; exact tv_calls h2) ?_
      refine PW.more _ (fun a W hf => Fr.trimv (K := 64) hf rfl) ?_
      refine PW.assign rfl rfl rfl rfl rfl ?_
      refine PW.nil ?_
      refine SX.then ?_
      refine SC.region ?_
      refine PW.move rfl rfl rfl rfl rfl ?_
      refine PW.move rfl rfl rfl rfl rfl ?_
      refine PW.q2 (x := .tmp 52) (y := .const (.int .i64 1)) (.int .i64 (R + 1)) rfl rfl rfl rfl rfl (fun ρ W h1 h2 => by exact r_add h1 h2 (rfl) (by omega)) ?_
      refine PW.qn [(.const (.string ⟨#[48, 49, 50, 51, 52, 53, 54, 55, 56, 57, 65, 66, 67, 68, 69, 70, 71, 72, 73, 74, 75, 76, 77, 78, 79, 80, 81, 82, 83, 84, 85, 86, 87, 88, 89, 90]⟩), .string ⟨#[48, 49, 50, 51, 52, 53, 54, 55, 56, 57, 65, 66, 67, 68, 69, 70, 71, 72, 73, 74, 75, 76, 77, 78, 79, 80, 81, 82, 83, 84, 85, 86, 87, 88, 89, 90]⟩), (.tmp 51, .int .i64 (R)), (.tmp 53, .int .i64 (R + 1))] (.string (chs R)) rfl rfl rfl ⟨rfl, rfl, rfl, trivial⟩ (fun ρ W h => by obtain ⟨h1, h2, h3, _⟩ := h; exact r_sdig h1 h2 h3 (by omega) (by omega)) ?_
      refine PW.move rfl rfl rfl rfl rfl ?_
      refine PW.q2 (x := .tmp 54) (y := .tmp 55) (.string (chs R ++ t)) rfl rfl rfl rfl rfl (fun ρ W h1 h2 => by exact r_sadd h1 h2 (by rw [chs_size (by omega) (by omega)]; have h7 := TyI.size hT; omega)) ?_
      refine PW.assign rfl rfl rfl rfl rfl ?_
      refine PW.nil ?_
      refine SX.blockN ?_
      refine SX.backW fun a W hf => ?_
      have own : OwF W _ _ (.int .i64) (tv (.slice (some ⟨g1, 0, none⟩) zs.length zs.length) (trim qs).length) (trim qs) := hf.ho 64 _ rfl
      obtain ⟨C2, c2, e2, hc2, rd2⟩ := Own.rd own
      have h7 : Value.slice (some ⟨g1, 0, none⟩) (trim qs).length zs.length = .slice C2 (trim qs).length c2 := e2
      have hlt : lv 65536 (trim qs) = lv 65536 zs / r := (trim_lv _ _).trans f1
      have hpos : 0 < lv 65536 zs := KDt_pos dz tz (by omega)
      subst f2
      refine ⟨(W, some ⟨g1, 0, none⟩, zs.length, trim qs, (chs (lv 65536 zs % r) ++ t)), ⟨hb.trans (Below.mono hf.be (Below.size hb)), ?_, trim_dg hD.d, trim_top _, ?_, TyI.step hT h.1 h.2 hX hpos hlt⟩, ?_, Fr.rebase [(1, .vl (.int .i64 (r))), (2, .bc (BI 31) pb1 (.agg #[.bool true, .slice A xs.length c])), (6, .vl (.string (chs (lv 65536 zs % r) ++ t))), (7, .vl (.slice (some ⟨g1, 0, none⟩) (trim qs).length zs.length))] hf ⟨rfl, rfl, rfl, rfl, trivial⟩ rfl⟩
      · injection h7 with h8 h9 h10; rw [h8]; exact rd2
      · have := trim_len qs; have := hD.len; omega
      · show (lv 65536 (trim qs)).toNat < (lv 65536 zs).toNat
        rw [hlt]
        have := div_lt hpos h.1
        omega
  · have hl0 : lv 65536 zs = 0 := by rw [List.eq_nil_of_length_eq_zero (show zs.length = 0 by omega)]; rfl
    refine SC.region ?_
    refine PW.move rfl rfl rfl rfl rfl ?_
    refine PW.qn [(.tmp 20, .slice C zs.length cz)] (.int .i64 (zs.length : Int)) rfl rfl rfl ⟨rfl, trivial⟩ (fun ρ W h => by obtain ⟨h1, _⟩ := h; exact r_lenI h1) ?_
    refine PW.q2 (x := .tmp 21) (y := .const (.int .i64 0)) (.bool false) rfl rfl rfl rfl rfl (fun ρ W h1 h2 => by exact r_gt h1 h2 (decide_eq_false hz)) ?_
    refine PW.nil ?_
    refine SX.then ?_
    refine SC.cond (t := false) rfl ?_
    refine SC.exit ?_
    refine SX.thenE ?_
    refine SX.thenE ?_
    refine SX.blockE ?_
    refine SX.then ?_
    refine SC.seq ?_
    refine SC.seq ?_
    by_cases he : t.size = 0
    · refine SC.region ?_
      refine PW.move rfl rfl rfl rfl rfl ?_
      refine PW.q2 (x := .tmp 57) (y := .const (.string ⟨#[]⟩)) (.bool true) rfl rfl rfl rfl rfl (fun ρ W h1 h2 => by exact r_seq h1 h2 ((empty_eq t).trans (decide_eq_true he))) ?_
      refine PW.nil ?_
      refine SX.then ?_
      refine SC.cond (t := true) rfl ?_
      refine SC.region ?_
      refine PW.assign rfl rfl rfl rfl rfl ?_
      refine PW.nil ?_
      refine SX.then ?_
      refine SC.seq ?_
      refine SC.seq ?_
      refine SC.region ?_
      refine PW.fac ⟨pb1, 0, none⟩ rfl rfl rfl rfl rfl facJ0 ?_
      refine PW.flc (s := 2) (.bool true) rfl rfl rfl rfl rfl rfl flcJ0 ?_
      refine PW.nil ?_
      refine SX.then ?_
      refine SC.cond (t := true) rfl ?_
      refine SC.region ?_
      refine PW.move rfl rfl rfl rfl rfl ?_
      refine PW.q2 (x := .const (.string ⟨#[45]⟩)) (y := .tmp 61) (.string (⟨#[45]⟩ ++ ⟨#[48]⟩)) rfl rfl rfl rfl rfl (fun ρ W h1 h2 => by exact r_sadd h1 h2 (by decide)) ?_
      refine PW.assign rfl rfl rfl rfl rfl ?_
      refine PW.nil ?_
      refine SX.then ?_
      refine SC.seq ?_
      refine SC.region ?_
      refine PW.move rfl rfl rfl rfl rfl ?_
      refine PW.assign rfl rfl rfl rfl rfl ?_
      refine PW.assign rfl rfl rfl rfl rfl ?_
      refine PW.nil ?_
      refine SX.then ?_
      refine SC.ret ?_
      exact absurd ((hT.empty h.1 hl0).1 he) (by omega)
    · refine SC.region ?_
      refine PW.move rfl rfl rfl rfl rfl ?_
      refine PW.q2 (x := .tmp 57) (y := .const (.string ⟨#[]⟩)) (.bool false) rfl rfl rfl rfl rfl (fun ρ W h1 h2 => by exact r_seq h1 h2 ((empty_eq t).trans (decide_eq_false he))) ?_
      refine PW.nil ?_
      refine SX.then ?_
      refine SC.cond (t := false) rfl ?_
      refine SC.skip ?_
      refine SX.then ?_
      refine SC.seq ?_
      refine SC.seq ?_
      refine SC.region ?_
      refine PW.fac ⟨pb1, 0, none⟩ rfl rfl rfl rfl rfl facJ0 ?_
      refine PW.flc (s := 2) (.bool true) rfl rfl rfl rfl rfl rfl flcJ0 ?_
      refine PW.nil ?_
      refine SX.then ?_
      refine SC.cond (t := true) rfl ?_
      refine SC.region ?_
      refine PW.move rfl rfl rfl rfl rfl ?_
      refine PW.q2 (x := .const (.string ⟨#[45]⟩)) (y := .tmp 61) (.string (⟨#[45]⟩ ++ t)) rfl rfl rfl rfl rfl (fun ρ W h1 h2 => by exact r_sadd h1 h2 (by have h7 := TyI.size hT; show 1 + _ ≤ _; omega)) ?_
      refine PW.assign rfl rfl rfl rfl rfl ?_
      refine PW.nil ?_
      refine SX.then ?_
      refine SC.seq ?_
      refine SC.region ?_
      refine PW.move rfl rfl rfl rfl rfl ?_
      refine PW.assign rfl rfl rfl rfl rfl ?_
      refine PW.assign rfl rfl rfl rfl rfl ?_
      refine PW.nil ?_
      refine SX.then ?_
      refine SC.ret ?_
      rw [← tstr_eq h.1 (hT.txtn hl0 hx2)]
      exact SX.done2tW (s := 4) (t := 5) (.inl rfl) rfl rfl rfl hb rfl

set_option maxHeartbeats 3200000 in
set_option maxRecDepth 100000 in
theorem rtext_f {x r : Int} {A : Option Addr} {c M : Nat} {xs : List Int} {w : World} (rA : Rd w .i64 A xs) (dx : dg 65536 xs) (tx : top xs) (hx : xs.length ≤ 2000000) (e : lv 65536 xs = (x.natAbs : Int)) (h : 2 ≤ r ∧ r ≤ 36) (hX : (x.natAbs : Int) < 2 ^ M) (hM : M ≤ 40000000) (hx2 : ¬ x < 0) :
    Calls Try.prog 53 #[.agg #[.bool false, .slice A xs.length c], .int .i64 (r)] w (Ret w (K2 (KV (.string (tstr r x))) (KV (.int .i64 0)))) := by
  refine calls_sc (l := [.vl (.agg #[.bool false, .slice A xs.length c]), .vl (.int .i64 (r))]) (us := [.agg #[.bool false, .slice A xs.length c], .int .i64 (r)]) 64 Try.func53 rfl Try.ntmps53 (by simp) ⟨rfl, rfl, rfl, rfl, trivial⟩ ?_
  refine SC.seq ?_
  refine SC.region ?_
  refine PW.boxc (x := .tmp 0) (BI 31) rfl rfl rfl rfl rfl bJ rfl ⟨_, _, _, _, _, rfl, rfl⟩ fun pb1 => ?_
  refine PW.assign rfl rfl rfl rfl rfl ?_
  refine PW.assign rfl rfl rfl rfl rfl ?_
  refine PW.nil ?_
  refine SX.then ?_
  refine SC.seq ?_
  refine SC.seq ?_
  refine SC.region ?_
  refine PW.move rfl rfl rfl rfl rfl ?_
  refine PW.q2 (x := .tmp 12) (y := .const (.int .i64 2)) (.bool false) rfl rfl rfl rfl rfl (fun ρ W h1 h2 => by exact r_lt h1 h2 (decide_eq_false (by omega))) ?_
  refine PW.move rfl rfl rfl rfl rfl ?_
  refine PW.move rfl rfl rfl rfl rfl ?_
  refine PW.q2 (x := .tmp 15) (y := .const (.int .i64 36)) (.bool false) rfl rfl rfl rfl rfl (fun ρ W h1 h2 => by exact r_gt h1 h2 (decide_eq_false (by omega))) ?_
  refine PW.pick (t := false) rfl rfl rfl rfl rfl rfl ?_
  refine PW.nil ?_
  refine SX.then ?_
  refine SC.cond (t := false) rfl ?_
  refine SC.skip ?_
  refine SX.then ?_
  refine SC.seq ?_
  refine SC.region ?_
  refine PW.assign rfl rfl rfl rfl rfl ?_
  refine PW.nil ?_
  refine SX.then ?_
  refine SC.seq ?_
  refine SC.region ?_
  refine PW.fac ⟨pb1, 1, none⟩ rfl rfl rfl rfl rfl facJ1 ?_
  refine PW.flc (s := 2) (.slice A xs.length c) rfl rfl rfl rfl rfl rfl flcJ1 ?_
  refine PW.assign rfl rfl rfl rfl rfl ?_
  refine PW.nil ?_
  refine SX.then ?_
  refine SC.seq ?_
  refine SC.block ?_
  refine SC.loopW (S := World × Option Addr × Nat × List Int × ByteArray) (fun ⟨wb, _, _, _, _⟩ => wb) (fun ⟨wb, C, cz, zs, t⟩ => [(1, .vl (.int .i64 (r))), (2, .bc (BI 31) pb1 (.agg #[.bool false, .slice A xs.length c])), (6, .vl (.string t)), (7, .vl (.slice C zs.length cz))]) (fun ⟨wb, C, cz, zs, t⟩ => Below w.heap.size w wb ∧ Rd wb .i64 C zs ∧ dg 65536 zs ∧ top zs ∧ zs.length ≤ 2000000 ∧ TyI (x.natAbs : Int) r M zs t) (fun ⟨wb, C, cz, zs, t⟩ => (lv 65536 zs).toNat) ?_ ?_
  · exact fun a W hf => ⟨(W, A, c, xs, ⟨#[]⟩), ⟨hf.be, Rd.below rA hf.be, dx, tx, hx, TyI.start e⟩, Fr.rebase [(1, .vl (.int .i64 (r))), (2, .bc (BI 31) pb1 (.agg #[.bool false, .slice A xs.length c])), (6, .vl (.string ⟨#[]⟩)), (7, .vl (.slice A xs.length c))] hf ⟨rfl, rfl, rfl, rfl, trivial⟩ rfl⟩
  rintro ⟨wb, C, cz, zs, t⟩ ⟨hb, rC, dz, tz, hzl, hT⟩
  show SC _ _ _ _ [(1, .vl (.int .i64 (r))), (2, .bc (BI 31) pb1 (.agg #[.bool false, .slice A xs.length c])), (6, .vl (.string t)), (7, .vl (.slice C zs.length cz))] _
  refine SC.seq ?_
  refine SC.seq ?_
  by_cases hz : (zs.length : Int) > 0
  · refine SC.region ?_
    refine PW.move rfl rfl rfl rfl rfl ?_
    refine PW.qn [(.tmp 20, .slice C zs.length cz)] (.int .i64 (zs.length : Int)) rfl rfl rfl ⟨rfl, trivial⟩ (fun ρ W h => by obtain ⟨h1, _⟩ := h; exact r_lenI h1) ?_
    refine PW.q2 (x := .tmp 21) (y := .const (.int .i64 0)) (.bool true) rfl rfl rfl rfl rfl (fun ρ W h1 h2 => by exact r_gt h1 h2 (decide_eq_true hz)) ?_
    refine PW.nil ?_
    refine SX.then ?_
    refine SC.cond (t := true) rfl ?_
    refine SC.skip ?_
    refine SX.then ?_
    refine SC.block ?_
    refine SC.seq ?_
    refine SC.region ?_
    refine PW.move rfl rfl rfl rfl rfl ?_
    refine PW.qn [(.tmp 23, .slice C zs.length cz)] (.int .i64 (zs.length : Int)) rfl rfl rfl ⟨rfl, trivial⟩ (fun ρ W h => by obtain ⟨h1, _⟩ := h; exact r_lenI h1) ?_
    refine PW.make (n := zs.length) 64 rfl rfl rfl rfl rfl Try.underlying29 info_i64 (by omega) (by unfold maxLen; omega) fun g1 => ?_
    refine PW.assign rfl rfl rfl rfl rfl ?_
    refine PW.nil ?_
    refine SX.then ?_
    refine SC.seq ?_
    refine SC.region ?_
    refine PW.assign rfl rfl rfl rfl rfl ?_
    refine PW.nil ?_
    refine SX.then ?_
    refine SC.seq ?_
    refine SC.seq ?_
    refine SC.region ?_
    refine PW.move rfl rfl rfl rfl rfl ?_
    refine PW.qn [(.tmp 26, .slice C zs.length cz)] (.int .i64 (zs.length : Int)) rfl rfl rfl ⟨rfl, trivial⟩ (fun ρ W h => by obtain ⟨h1, _⟩ := h; exact r_lenI h1) ?_
    refine PW.q2 (x := .tmp 27) (y := .const (.int .i64 1)) (.int .i64 ((zs.length : Int) - 1)) rfl rfl rfl rfl rfl (fun ρ W h1 h2 => by exact r_sub h1 h2 (rfl) (by omega)) ?_
    refine PW.assign rfl rfl rfl rfl rfl ?_
    refine PW.nil ?_
    refine SX.then ?_
    refine SC.block ?_
    refine SC.loop (S := Nat × List Int × Int) (fun ⟨t2, qs, R⟩ => [(1, .vl (.int .i64 (r))), (2, .bc (BI 31) pb1 (.agg #[.bool false, .slice A xs.length c])), (6, .vl (.string t)), (7, .vl (.slice C zs.length cz)), (8, .vl (.slice (some ⟨g1, 0, none⟩) zs.length zs.length)), (9, .vl (.int .i64 (R))), (10, .vl (.int .i64 ((t2 : Int) - 1))), (64, .ro (.slice (some ⟨g1, 0, none⟩) zs.length zs.length) 3 (.int .i64) (qs))]) (fun ⟨t2, qs, R⟩ => Dv zs r t2 qs R) (fun ⟨t2, qs, R⟩ => t2) (zs.length, List.replicate zs.length 0, 0) (Dv.start zs (by omega)) ⟨rfl, rfl, rfl, rfl, rfl, rfl, rfl, rfl, trivial⟩ ?_
    rintro ⟨t2, qs, R⟩ hD
    show SC _ _ _ _ [(1, .vl (.int .i64 (r))), (2, .bc (BI 31) pb1 (.agg #[.bool false, .slice A xs.length c])), (6, .vl (.string t)), (7, .vl (.slice C zs.length cz)), (8, .vl (.slice (some ⟨g1, 0, none⟩) zs.length zs.length)), (9, .vl (.int .i64 (R))), (10, .vl (.int .i64 ((t2 : Int) - 1))), (64, .ro (.slice (some ⟨g1, 0, none⟩) zs.length zs.length) 3 (.int .i64) (qs))] _
    refine SC.seq ?_
    refine SC.seq ?_
    by_cases ht : (0 : Int) ≤ (t2 : Int) - 1
    · obtain ⟨i, rfl⟩ : ∃ i, t2 = i + 1 := ⟨t2 - 1, by omega⟩
      rw [show ((i + 1 : Nat) : Int) - 1 = (i : Int) by omega]
      rw [show ((i + 1 : Nat) : Int) - 1 = (i : Int) by omega] at ht
      have hil := hD.le
      have hR0 := hD.r0
      have hR1 := hD.r1
      obtain ⟨n0, n1, n2, n3, n4, n5, n6⟩ := tx_dig h (dg_at dz BJ_pos i) hR0 hR1
      refine SC.region ?_
      refine PW.move rfl rfl rfl rfl rfl ?_
      refine PW.q2 (x := .tmp 29) (y := .const (.int .i64 0)) (.bool true) rfl rfl rfl rfl rfl (fun ρ W h1 h2 => by exact r_ge h1 h2 (decide_eq_true ht)) ?_
      refine PW.nil ?_
      refine SX.then ?_
      refine SC.cond (t := true) rfl ?_
      refine SC.skip ?_
      refine SX.then ?_
      refine SC.seq ?_
      refine SC.block ?_
      refine SC.seq ?_
      refine SC.region ?_
      refine PW.move rfl rfl rfl rfl rfl ?_
      refine PW.q2 (x := .tmp 33) (y := .const (.int .i64 65536)) (.int .i64 (R * 65536)) rfl rfl rfl rfl rfl (fun ρ W h1 h2 => by exact r_mul h1 h2 (rfl) (by omega)) ?_
      refine PW.move rfl rfl rfl rfl rfl ?_
      refine PW.move rfl rfl rfl rfl rfl ?_
      refine PW.q2 (x := .tmp 35) (y := .tmp 36) (.pointer (padd C i)) rfl rfl rfl rfl rfl (fun ρ W h1 h2 => r_idxRI rC h1 h2 (by omega)) ?_
      refine PW.iget (i := i) rfl rfl rfl rfl rfl rfl rC (by omega) r_l64 ?_
      refine PW.q2 (x := .tmp 34) (y := .tmp 38) (.int .i64 (R * 65536 + at0 zs i)) rfl rfl rfl rfl rfl (fun ρ W h1 h2 => by exact r_add h1 h2 (rfl) (by omega)) ?_
      refine PW.assign rfl rfl rfl rfl rfl ?_
      refine PW.nil ?_
      refine SX.then ?_
      refine SC.seq ?_
      refine SC.region ?_
      refine PW.move rfl rfl rfl rfl rfl ?_
      refine PW.move rfl rfl rfl rfl rfl ?_
      refine PW.move rfl rfl rfl rfl rfl ?_
      refine PW.move rfl rfl rfl rfl rfl ?_
      refine PW.q2 (x := .tmp 42) (y := .tmp 43) (.int .i64 ((R * 65536 + at0 zs i) / r)) rfl rfl rfl rfl rfl (fun ρ W h1 h2 => by exact r_quo h1 h2 (rfl) (by omega) (by omega)) ?_
      refine PW.q2 (x := .tmp 40) (y := .tmp 41) (.pointer (some ⟨g1, i, none⟩)) rfl rfl rfl rfl rfl (fun ρ W h1 h2 => r_idxI h1 h2 (by have := hD.len; omega)) ?_
      refine PW.rstore (K := 64) (x := .tmp 44) (i := i) (y := ((R * 65536 + at0 zs i) / r)) rfl rfl rfl rfl rfl (by have := hD.len; omega) rfl rfl r_s64 ?_
      refine PW.nil ?_
      refine SX.then ?_
      refine SC.region ?_
      refine PW.move rfl rfl rfl rfl rfl ?_
      refine PW.move rfl rfl rfl rfl rfl ?_
      refine PW.q2 (x := .tmp 46) (y := .tmp 47) (.int .i64 ((R * 65536 + at0 zs i) % r)) rfl rfl rfl rfl rfl (fun ρ W h1 h2 => by exact r_rem h1 h2 (rfl) (by omega) (by omega)) ?_
      refine PW.assign rfl rfl rfl rfl rfl ?_
      refine PW.nil ?_
      refine SX.blockN ?_
      refine SX.then ?_
      refine SC.region ?_
      refine PW.move rfl rfl rfl rfl rfl ?_
      refine PW.q2 (x := .tmp 31) (y := .const (.int .i64 1)) (.int .i64 ((i : Int) - 1)) rfl rfl rfl rfl rfl (fun ρ W h1 h2 => by exact r_sub h1 h2 (rfl) (by omega)) ?_
      refine PW.assign rfl rfl rfl rfl rfl ?_
      refine PW.nil ?_
      refine SX.back (i, qs.set i ((R * 65536 + at0 zs i) / r), (R * 65536 + at0 zs i) % r) ?_ ?_ ?_
      · exact (by have := hD.step dz (lo := (R * 65536 + at0 zs i) / r) (by omega) (by omega) n3 n2; rw [n4] at this; exact this)
      · exact (show i < i + 1 by omega)
      · exact ⟨rfl, rfl, rfl, rfl, rfl, rfl, rfl, rfl, trivial⟩
    · obtain rfl : t2 = 0 := by omega
      have hR0 := hD.r0
      have hR1 := hD.r1
      obtain ⟨f1, f2⟩ := hD.fin
      refine SC.region ?_
      refine PW.move rfl rfl rfl rfl rfl ?_
      refine PW.q2 (x := .tmp 29) (y := .const (.int .i64 0)) (.bool false) rfl rfl rfl rfl rfl (fun ρ W h1 h2 => by exact r_ge h1 h2 (decide_eq_false ht)) ?_
      refine PW.nil ?_
      refine SX.then ?_
      refine SC.cond (t := false) rfl ?_
      refine SC.exit ?_
      refine SX.thenE ?_
      refine SX.thenE ?_
      refine SX.blockE ?_
      refine SX.then ?_
      refine SC.seq ?_
      refine SC.region ?_
      refine PW.move rfl rfl rfl rfl rfl ?_
      refine PW.callG (r := .vl (tv (.slice (some ⟨g1, 0, none⟩) zs.length zs.length) (trim qs).length)) ce_rtrimmed rfl rfl rfl rfl rfl (KV.st _) rfl (fun a W hf => by have h1 := hf.vl (s := 49) rfl; have h2 : OwF W _ _ (.int .i64) (.slice (some ⟨g1, 0, none⟩) zs.length zs.length) (qs) := hf.ho 64 _ rfl; show Calls Try.prog _ #[a.tmps.getD 49 undef] W _; rw [h1]; exact tv_calls h2) ?_
      refine PW.more _ (fun a W hf => Fr.trimv (K := 64) hf rfl) ?_
      refine PW.assign rfl rfl rfl rfl rfl ?_
      refine PW.nil ?_
      refine SX.then ?_
      refine SC.region ?_
      refine PW.move rfl rfl rfl rfl rfl ?_
      refine PW.move rfl rfl rfl rfl rfl ?_
      refine PW.q2 (x := .tmp 52) (y := .const (.int .i64 1)) (.int .i64 (R + 1)) rfl rfl rfl rfl rfl (fun ρ W h1 h2 => by exact r_add h1 h2 (rfl) (by omega)) ?_
      refine PW.qn [(.const (.string ⟨#[48, 49, 50, 51, 52, 53, 54, 55, 56, 57, 65, 66, 67, 68, 69, 70, 71, 72, 73, 74, 75, 76, 77, 78, 79, 80, 81, 82, 83, 84, 85, 86, 87, 88, 89, 90]⟩), .string ⟨#[48, 49, 50, 51, 52, 53, 54, 55, 56, 57, 65, 66, 67, 68, 69, 70, 71, 72, 73, 74, 75, 76, 77, 78, 79, 80, 81, 82, 83, 84, 85, 86, 87, 88, 89, 90]⟩), (.tmp 51, .int .i64 (R)), (.tmp 53, .int .i64 (R + 1))] (.string (chs R)) rfl rfl rfl ⟨rfl, rfl, rfl, trivial⟩ (fun ρ W h => by obtain ⟨h1, h2, h3, _⟩ := h; exact r_sdig h1 h2 h3 (by omega) (by omega)) ?_
      refine PW.move rfl rfl rfl rfl rfl ?_
      refine PW.q2 (x := .tmp 54) (y := .tmp 55) (.string (chs R ++ t)) rfl rfl rfl rfl rfl (fun ρ W h1 h2 => by exact r_sadd h1 h2 (by rw [chs_size (by omega) (by omega)]; have h7 := TyI.size hT; omega)) ?_
      refine PW.assign rfl rfl rfl rfl rfl ?_
      refine PW.nil ?_
      refine SX.blockN ?_
      refine SX.backW fun a W hf => ?_
      have own : OwF W _ _ (.int .i64) (tv (.slice (some ⟨g1, 0, none⟩) zs.length zs.length) (trim qs).length) (trim qs) := hf.ho 64 _ rfl
      obtain ⟨C2, c2, e2, hc2, rd2⟩ := Own.rd own
      have h7 : Value.slice (some ⟨g1, 0, none⟩) (trim qs).length zs.length = .slice C2 (trim qs).length c2 := e2
      have hlt : lv 65536 (trim qs) = lv 65536 zs / r := (trim_lv _ _).trans f1
      have hpos : 0 < lv 65536 zs := KDt_pos dz tz (by omega)
      subst f2
      refine ⟨(W, some ⟨g1, 0, none⟩, zs.length, trim qs, (chs (lv 65536 zs % r) ++ t)), ⟨hb.trans (Below.mono hf.be (Below.size hb)), ?_, trim_dg hD.d, trim_top _, ?_, TyI.step hT h.1 h.2 hX hpos hlt⟩, ?_, Fr.rebase [(1, .vl (.int .i64 (r))), (2, .bc (BI 31) pb1 (.agg #[.bool false, .slice A xs.length c])), (6, .vl (.string (chs (lv 65536 zs % r) ++ t))), (7, .vl (.slice (some ⟨g1, 0, none⟩) (trim qs).length zs.length))] hf ⟨rfl, rfl, rfl, rfl, trivial⟩ rfl⟩
      · injection h7 with h8 h9 h10; rw [h8]; exact rd2
      · have := trim_len qs; have := hD.len; omega
      · show (lv 65536 (trim qs)).toNat < (lv 65536 zs).toNat
        rw [hlt]
        have := div_lt hpos h.1
        omega
  · have hl0 : lv 65536 zs = 0 := by rw [List.eq_nil_of_length_eq_zero (show zs.length = 0 by omega)]; rfl
    refine SC.region ?_
    refine PW.move rfl rfl rfl rfl rfl ?_
    refine PW.qn [(.tmp 20, .slice C zs.length cz)] (.int .i64 (zs.length : Int)) rfl rfl rfl ⟨rfl, trivial⟩ (fun ρ W h => by obtain ⟨h1, _⟩ := h; exact r_lenI h1) ?_
    refine PW.q2 (x := .tmp 21) (y := .const (.int .i64 0)) (.bool false) rfl rfl rfl rfl rfl (fun ρ W h1 h2 => by exact r_gt h1 h2 (decide_eq_false hz)) ?_
    refine PW.nil ?_
    refine SX.then ?_
    refine SC.cond (t := false) rfl ?_
    refine SC.exit ?_
    refine SX.thenE ?_
    refine SX.thenE ?_
    refine SX.blockE ?_
    refine SX.then ?_
    refine SC.seq ?_
    refine SC.seq ?_
    by_cases he : t.size = 0
    · refine SC.region ?_
      refine PW.move rfl rfl rfl rfl rfl ?_
      refine PW.q2 (x := .tmp 57) (y := .const (.string ⟨#[]⟩)) (.bool true) rfl rfl rfl rfl rfl (fun ρ W h1 h2 => by exact r_seq h1 h2 ((empty_eq t).trans (decide_eq_true he))) ?_
      refine PW.nil ?_
      refine SX.then ?_
      refine SC.cond (t := true) rfl ?_
      refine SC.region ?_
      refine PW.assign rfl rfl rfl rfl rfl ?_
      refine PW.nil ?_
      refine SX.then ?_
      refine SC.seq ?_
      refine SC.seq ?_
      refine SC.region ?_
      refine PW.fac ⟨pb1, 0, none⟩ rfl rfl rfl rfl rfl facJ0 ?_
      refine PW.flc (s := 2) (.bool false) rfl rfl rfl rfl rfl rfl flcJ0 ?_
      refine PW.nil ?_
      refine SX.then ?_
      refine SC.cond (t := false) rfl ?_
      refine SC.skip ?_
      refine SX.then ?_
      refine SC.seq ?_
      refine SC.region ?_
      refine PW.move rfl rfl rfl rfl rfl ?_
      refine PW.assign rfl rfl rfl rfl rfl ?_
      refine PW.assign rfl rfl rfl rfl rfl ?_
      refine PW.nil ?_
      refine SX.then ?_
      refine SC.ret ?_
      rw [← tstr_eq h.1 (by rw [(hT.empty h.1 hl0).1 he]; exact txt_zero)]
      exact SX.done2tW (s := 4) (t := 5) (.inl rfl) rfl rfl rfl hb rfl
    · refine SC.region ?_
      refine PW.move rfl rfl rfl rfl rfl ?_
      refine PW.q2 (x := .tmp 57) (y := .const (.string ⟨#[]⟩)) (.bool false) rfl rfl rfl rfl rfl (fun ρ W h1 h2 => by exact r_seq h1 h2 ((empty_eq t).trans (decide_eq_false he))) ?_
      refine PW.nil ?_
      refine SX.then ?_
      refine SC.cond (t := false) rfl ?_
      refine SC.skip ?_
      refine SX.then ?_
      refine SC.seq ?_
      refine SC.seq ?_
      refine SC.region ?_
      refine PW.fac ⟨pb1, 0, none⟩ rfl rfl rfl rfl rfl facJ0 ?_
      refine PW.flc (s := 2) (.bool false) rfl rfl rfl rfl rfl rfl flcJ0 ?_
      refine PW.nil ?_
      refine SX.then ?_
      refine SC.cond (t := false) rfl ?_
      refine SC.skip ?_
      refine SX.then ?_
      refine SC.seq ?_
      refine SC.region ?_
      refine PW.move rfl rfl rfl rfl rfl ?_
      refine PW.assign rfl rfl rfl rfl rfl ?_
      refine PW.assign rfl rfl rfl rfl rfl ?_
      refine PW.nil ?_
      refine SX.then ?_
      refine SC.ret ?_
      rw [← tstr_eq h.1 (hT.txt hl0 (by have := hT.empty h.1 hl0; omega))]
      exact SX.done2tW (s := 4) (t := 5) (.inl rfl) rfl rfl rfl hb rfl

theorem k_jtext {x r : Int} {a : Nat} (X : bd a x) (ha : a ≤ 1000000) (h : 2 ≤ r ∧ r ≤ 36) : CallOk 53 [KJ x, KV (.int .i64 (r))] (K2 (KV (.string (tstr r x))) (KV (.int .i64 0))) :=
  call2 ce_jtext fun W u v ⟨m, A, l, c, e1, h1⟩ e2 => by
    subst e1
    obtain rfl : v = _ := e2
    have hl := RJ.len h1 X ha
    obtain ⟨xs, rfl, hc, rd, d, e, t, hm⟩ := RJ.num h1
    have hX : (x.natAbs : Int) < 2 ^ (32 * a) := by have := bd2.1 X; omega
    by_cases hx : x < 0
    · rw [decide_eq_true hx] at hm; subst hm; exact rtext_t rd d t (by omega) e h hX (by omega) hx
    · rw [decide_eq_false hx] at hm; subst hm; exact rtext_f rd d t (by omega) e h hX (by omega) hx
end Go.Proofs.Ytcgkgcciogibkaa.Sy
/- IntegerTexts: the walk, by rules. -/
set_option linter.unusedVariables false
set_option linter.unusedSimpArgs false
namespace Go.Proofs.Ytcgkgcciogibkaa
open Go.RowKit Ma Sy
theorem callK {f : FuncId} {ks : List Know} {r r' : Know} (h : CallOk f ks r) (e : r = r') : CallOk f ks r' := e ▸ h
theorem k_text {x r : Int} {a : Nat} (X : bd a x) (ha : a ≤ 300000) (h : 2 ≤ r ∧ r ≤ 36) : CallOk 52 [KI x, KV (.int .i64 r)] (K2 (KV (.string (tstr r x))) (KV (.int .i64 0))) :=
  call2 (fun args W => by go_simp) fun W u v ⟨n, A, l, c, e1, h1⟩ e2 => by
    subst e1
    obtain rfl : v = _ := e2
    refine (text_ok r h.1 h.2 h1 (by have := h1.le X ha; omega)).mono fun e W' ⟨v, q1, q2, q3⟩ => ⟨v, q1, ?_, q3⟩
    obtain ⟨a, b, rfl, ⟨s, rfl, hs⟩, hb⟩ := q2
    exact ⟨_, _, rfl, congrArg Value.string (tstr_eq h.1 hs), hb⟩
theorem k_text_bad {x r : Int} (h : ¬ (2 ≤ r ∧ r ≤ 36)) : CallOk 52 [KI x, KV (.int .i64 r)] (K2 (KV (.string ⟨#[]⟩)) (KV (.int .i64 1))) :=
  call2 (fun args W => by go_simp) fun W u v ⟨n, A, l, c, e1, h1⟩ e2 => by
    subst e1
    obtain rfl : v = _ := e2
    refine (text_bad (x := x) r h).mono fun e W' ⟨v, q1, q2, q3⟩ => ⟨v, q1, ?_, q3⟩
    obtain rfl : v = _ := q2
    exact ⟨_, _, rfl, rfl, rfl⟩
theorem pv_lt {r : Int} (hr : 2 ≤ r) (hr2 : r ≤ 36) : ∀ (l : List Int) (v : Int), 0 ≤ v → (∀ c ∈ l, dv c < r) → 0 ≤ pv r v l ∧ pv r v l < (v + 1) * 64 ^ l.length
  | [], v, h, _ => by simp [pv]; omega
  | c :: l, v, h, hd => by
    have a1 := dv_le c
    have a2 := hd c List.mem_cons_self
    have a3 : v * r ≤ v * 63 := Int.mul_le_mul_of_nonneg_left (by omega) h
    have a4 : 0 ≤ v * r := Int.mul_nonneg h (by omega)
    have ⟨b1, b2⟩ := pv_lt hr hr2 l (v * r + dv c) (by omega) fun x hx => hd x (List.mem_cons_of_mem _ hx)
    refine ⟨b1, Int.lt_of_lt_of_le b2 ?_⟩
    rw [List.length_cons, Int.pow_succ, Int.mul_comm _ (64 : Int), ← Int.mul_assoc]
    exact Int.mul_le_mul_of_nonneg_right (by omega) (Int.le_of_lt (Int.pow_pos (by decide)))
theorem parse_bd {r z : Int} {s : ByteArray} (h : parseR r (byl s) = .ok z) (hs : s.size ≤ 200) : bd 40 z := by
  unfold parseR at h
  have h1 : 2 ≤ r ∧ r ≤ 36 := by
    apply Classical.byContradiction
    intro hn
    rw [if_pos hn] at h
    cases h
  rw [if_neg (fun x => x h1), if_neg (by rw [byl_len]; omega)] at h
  dsimp only at h
  generalize hb : (if at0 (byl s) 0 = 45 ∨ at0 (byl s) 0 = 43 then (byl s).drop 1 else byl s) = b at h
  have hbl : b.length ≤ 200 := by
    have := byl_len s
    rw [← hb]
    split
    · rw [List.length_drop]; omega
    · omega
  split at h
  · cases h
  split at h
  · rename_i h3
    injection h with h
    have ⟨b1, b2⟩ := pv_lt h1.1 h1.2 b 0 (by omega) (fun c hc => by have := List.all_eq_true.1 h3 c hc; simpa using this)
    have b3 := pow_le (b := 64) (by decide) hbl
    rw [bd2]
    have b4 : (64 : Int) ^ 200 < 2 ^ (32 * 40) := by decide +kernel
    rw [← h]
    unfold sg
    split <;> omega
  · cases h
theorem parse_err {r : Int} {s : List Int} (h : ¬ ∃ z, parseR r s = .ok z) : ∃ e, parseR r s = .error e := by
  cases e0 : parseR r s with
  | ok z => exact absurd ⟨z, e0⟩ h
  | error e => exact ⟨e, rfl⟩
set_option maxHeartbeats 12800000 in
set_option maxRecDepth 100000 in
theorem integerTexts_walk {n1 : Bool} {A1 : Option Addr} {l1 c1 : Nat} {xs1 : List Int} {t : ByteArray} {r : Int}  {w : World} (h1 : In w A1 l1 c1 xs1) (hw : t.size ≤ 140737488351232) (hv : (Lit.int .i64 r).wf = true) :
    Calls Try.prog 8 #[.agg #[.bool n1, .slice A1 l1 c1], .string t, .int .i64 r] w (Ret w (KV (.bool true))) := by
  obtain ⟨x, hz1⟩ : ∃ z, z = sg n1 (lv b32 xs1) := ⟨_, rfl⟩
  refine calls_sc (l := [.vl (.agg #[.bool n1, .slice A1 l1 c1]), .vl (.string t), .vl (.int .i64 r)]) (us := [.agg #[.bool n1, .slice A1 l1 c1], .string t, .int .i64 r]) 77 Try.func8 rfl Try.ntmps8 (by simp) ⟨rfl, rfl, rfl, rfl, rfl, rfl, trivial⟩ ?_
  refine SC.seq ?_
  refine SC.region ?_
  refine PW.box (x := .tmp 0) (r := .vl (.agg #[.bool n1, .slice A1 l1 c1])) (BI 24) rfl rfl rfl rfl rfl bN rfl sh_V ?_
  refine PW.assign rfl rfl rfl rfl rfl ?_
  refine PW.nil ?_
  refine SX.then ?_
  refine SC.seq ?_
  refine SC.seq ?_
  by_cases hs : shB 12 [(n1, A1, l1, c1)] = true
  · have hlehs : l1 ≤ 12 := by simpa [shB] using hs
    have X : bd 12 x := hz1 ▸ bd_sg h1.2.2.2 (by have := h1.1; omega)
    have hl1 : l1 ≤ 12 := by omega
    by_cases hg : (t.size : Int) > 200
    · refine SC.region ?_
      refine PW.loadV rfl rfl rfl rfl rfl rfl ?_
      refine PW.short 12 [(n1, A1, l1, c1)] _ rfl rfl rfl (fun a W hf => r_bN1 (hf.vl (s := 17) rfl)) (fun W => ns_lit1 W) (by simp; exact In.lim h1) rfl rfl hs rfl rfl rfl rfl rfl rfl ?_
      refine PW.q1 (x := .tmp 19) (.bool false) rfl rfl rfl rfl (fun ρ W h1 => by go_simp) ?_
      refine PW.move rfl rfl rfl rfl rfl ?_
      refine PW.move rfl rfl rfl rfl rfl ?_
      refine PW.qn [(.tmp 22, .string t)] (.int .i64 (t.size : Int)) rfl rfl rfl ⟨rfl, trivial⟩ (fun ρ W h => by obtain ⟨h1, _⟩ := h; exact r_slen h1) ?_
      refine PW.q2 (x := .tmp 23) (y := .const (.int .i64 200)) (.bool true) rfl rfl rfl rfl rfl (fun ρ W h1 h2 => by exact r_gt h1 h2 (decide_eq_true hg)) ?_
      refine PW.pick (t := false) rfl rfl rfl rfl rfl rfl ?_
      refine PW.nil ?_
      refine SX.then ?_
      refine SC.cond (t := true) rfl ?_
      refine SC.seq ?_
      refine SC.region ?_
      refine PW.call (r := .vl (.bool true)) rfl rfl rfl rfl rfl rfl (KV.st _) rfl (k_awake) ?_
      refine PW.assign rfl rfl rfl rfl rfl ?_
      refine PW.nil ?_
      refine SX.then ?_
      refine SC.ret ?_
      refine SX.thenR ?_
      exact SX.done (r := .vl (.bool true)) rfl rfl rfl
    · refine SC.region ?_
      refine PW.loadV rfl rfl rfl rfl rfl rfl ?_
      refine PW.short 12 [(n1, A1, l1, c1)] _ rfl rfl rfl (fun a W hf => r_bN1 (hf.vl (s := 17) rfl)) (fun W => ns_lit1 W) (by simp; exact In.lim h1) rfl rfl hs rfl rfl rfl rfl rfl rfl ?_
      refine PW.q1 (x := .tmp 19) (.bool false) rfl rfl rfl rfl (fun ρ W h1 => by go_simp) ?_
      refine PW.move rfl rfl rfl rfl rfl ?_
      refine PW.move rfl rfl rfl rfl rfl ?_
      refine PW.qn [(.tmp 22, .string t)] (.int .i64 (t.size : Int)) rfl rfl rfl ⟨rfl, trivial⟩ (fun ρ W h => by obtain ⟨h1, _⟩ := h; exact r_slen h1) ?_
      refine PW.q2 (x := .tmp 23) (y := .const (.int .i64 200)) (.bool false) rfl rfl rfl rfl rfl (fun ρ W h1 h2 => by exact r_gt h1 h2 (decide_eq_false hg)) ?_
      refine PW.pick (t := false) rfl rfl rfl rfl rfl rfl ?_
      refine PW.nil ?_
      refine SX.then ?_
      refine SC.cond (t := false) rfl ?_
      refine SC.skip ?_
      refine SX.then ?_
      refine SC.seq ?_
      refine SC.region ?_
      refine PW.loadV rfl rfl rfl rfl rfl rfl ?_
      refine PW.callG (r := .kw (K2 (KI (x)) (KJ (x)))) ce_of rfl rfl rfl rfl rfl (K2.st (KI.st _) (KJ.st _)) rfl (fun a W hf => by have e1 := hf.vl (s := 28) rfl; show Calls Try.prog _ #[a.tmps.getD 28 undef] W _; rw [e1]; exact of_in h1 hf.be (by omega) hz1) ?_
      refine PW.move rfl rfl rfl rfl rfl ?_
      refine PW.ext (r := .kw (KI (x))) rfl rfl rfl rfl rfl ex20 (KI.st _) rfl ?_
      refine PW.ext (r := .kw (KJ (x))) rfl rfl rfl rfl rfl ex21 (KJ.st _) rfl ?_
      refine PW.alloc (BI 28) rfl rfl rfl rfl rfl bI ?_
      refine PW.alloc (BI 31) rfl rfl rfl rfl rfl bJ ?_
      refine PW.store (x := .tmp 30) (r := .kw (KI (x))) rfl rfl rfl rfl rfl rfl sh_I ?_
      refine PW.store (x := .tmp 31) (r := .kw (KJ (x))) rfl rfl rfl rfl rfl rfl sh_J ?_
      refine PW.nil ?_
      refine SX.then ?_
      refine SC.seq ?_
      by_cases hr : 2 ≤ r ∧ r ≤ 36
      · refine SC.region ?_
        refine PW.load rfl rfl rfl rfl rfl rfl ?_
        refine PW.move rfl rfl rfl rfl rfl ?_
        refine PW.call (r := .kw (K2 (KV (.string (tstr r x))) (KV (.int .i64 0)))) rfl rfl rfl rfl rfl rfl (K2.st (KV.st _) (KV.st _)) rfl (k_text X (by decide) hr) ?_
        refine PW.move rfl rfl rfl rfl rfl ?_
        refine PW.ext (r := .vl (.string (tstr r x))) rfl rfl rfl rfl rfl ex20v (KV.st _) rfl ?_
        refine PW.ext (r := .vl (.int .i64 0)) rfl rfl rfl rfl rfl ex21v (KV.st _) rfl ?_
        refine PW.assign rfl rfl rfl rfl rfl ?_
        refine PW.assign rfl rfl rfl rfl rfl ?_
        refine PW.nil ?_
        refine SX.then ?_
        refine SC.seq ?_
        refine SC.region ?_
        refine PW.load rfl rfl rfl rfl rfl rfl ?_
        refine PW.move rfl rfl rfl rfl rfl ?_
        refine PW.call (r := .kw (K2 (KV (.string (tstr r x))) (KV (.int .i64 0)))) rfl rfl rfl rfl rfl rfl (K2.st (KV.st _) (KV.st _)) rfl (k_jtext X (by decide) hr) ?_
        refine PW.move rfl rfl rfl rfl rfl ?_
        refine PW.ext (r := .vl (.string (tstr r x))) rfl rfl rfl rfl rfl ex20v (KV.st _) rfl ?_
        refine PW.ext (r := .vl (.int .i64 0)) rfl rfl rfl rfl rfl ex21v (KV.st _) rfl ?_
        refine PW.assign rfl rfl rfl rfl rfl ?_
        refine PW.assign rfl rfl rfl rfl rfl ?_
        refine PW.nil ?_
        refine SX.then ?_
        refine SC.seq ?_
        by_cases hq : ∃ z, parseR r (byl t) = .ok z
        · obtain ⟨z, hz⟩ := hq
          have Z : bd 40 z := parse_bd hz (by omega)
          refine SC.region ?_
          refine PW.move rfl rfl rfl rfl rfl ?_
          refine PW.move rfl rfl rfl rfl rfl ?_
          refine PW.call (r := .kw (K2 (KI (z)) (KV (.int .i64 0)))) rfl rfl rfl rfl rfl rfl (K2.st (KI.st _) (KV.st _)) rfl (callK k_parse (by rw [hz]; rfl)) ?_
          refine PW.move rfl rfl rfl rfl rfl ?_
          refine PW.ext (r := .kw (KI (z))) rfl rfl rfl rfl rfl ex20 (KI.st _) rfl ?_
          refine PW.ext (r := .vl (.int .i64 0)) rfl rfl rfl rfl rfl ex21v (KV.st _) rfl ?_
          refine PW.alloc (BI 28) rfl rfl rfl rfl rfl bI ?_
          refine PW.store (x := .tmp 48) (r := .kw (KI (z))) rfl rfl rfl rfl rfl rfl sh_I ?_
          refine PW.assign rfl rfl rfl rfl rfl ?_
          refine PW.nil ?_
          refine SX.then ?_
          refine SC.seq ?_
          refine SC.region ?_
          refine PW.move rfl rfl rfl rfl rfl ?_
          refine PW.move rfl rfl rfl rfl rfl ?_
          refine PW.call (r := .kw (K2 (KJ (z)) (KV (.int .i64 0)))) rfl rfl rfl rfl rfl rfl (K2.st (KJ.st _) (KV.st _)) rfl (callK k_jparse (by rw [hz]; rfl)) ?_
          refine PW.move rfl rfl rfl rfl rfl ?_
          refine PW.ext (r := .kw (KJ (z))) rfl rfl rfl rfl rfl ex20 (KJ.st _) rfl ?_
          refine PW.ext (r := .vl (.int .i64 0)) rfl rfl rfl rfl rfl ex21v (KV.st _) rfl ?_
          refine PW.alloc (BI 31) rfl rfl rfl rfl rfl bJ ?_
          refine PW.store (x := .tmp 54) (r := .kw (KJ (z))) rfl rfl rfl rfl rfl rfl sh_J ?_
          refine PW.assign rfl rfl rfl rfl rfl ?_
          refine PW.nil ?_
          refine SX.then ?_
          refine SC.seq ?_
          refine SC.region ?_
          refine PW.move rfl rfl rfl rfl rfl ?_
          refine PW.move rfl rfl rfl rfl rfl ?_
          refine PW.q2 (x := .tmp 56) (y := .tmp 57) (.bool true) rfl rfl rfl rfl rfl (fun ρ W h1 h2 => by go_simp; first | done | rfl) ?_
          refine PW.move rfl rfl rfl rfl rfl ?_
          refine PW.move rfl rfl rfl rfl rfl ?_
          refine PW.move rfl rfl rfl rfl rfl ?_
          refine PW.q2 (x := .tmp 60) (y := .tmp 61) (.bool true) rfl rfl rfl rfl rfl (fun ρ W h1 h2 => by exact r_seq h1 h2 (by simp)) ?_
          refine PW.pick (t := true) rfl rfl rfl rfl rfl rfl ?_
          refine PW.move rfl rfl rfl rfl rfl ?_
          refine PW.move rfl rfl rfl rfl rfl ?_
          refine PW.move rfl rfl rfl rfl rfl ?_
          refine PW.q2 (x := .tmp 65) (y := .tmp 66) (.bool true) rfl rfl rfl rfl rfl (fun ρ W h1 h2 => by go_simp; first | done | rfl) ?_
          refine PW.pick (t := true) rfl rfl rfl rfl rfl rfl ?_
          refine PW.move rfl rfl rfl rfl rfl ?_
          refine PW.load rfl rfl rfl rfl rfl rfl ?_
          refine PW.load rfl rfl rfl rfl rfl rfl ?_
          refine PW.call (r := .vl (.bool true)) rfl rfl rfl rfl rfl rfl (KV.st _) rfl (k_is Z (by first | decide | omega) rfl) ?_
          refine PW.pick (t := true) rfl rfl rfl rfl rfl rfl ?_
          refine PW.move rfl rfl rfl rfl rfl ?_
          refine PW.call (r := .vl (.bool true)) rfl rfl rfl rfl rfl rfl (KV.st _) rfl (k_awake) ?_
          refine PW.pick (t := true) rfl rfl rfl rfl rfl rfl ?_
          refine PW.assign rfl rfl rfl rfl rfl ?_
          refine PW.nil ?_
          refine SX.then ?_
          refine SC.ret ?_
          exact SX.done (r := .vl (.bool true)) rfl rfl rfl
        · obtain ⟨e, he⟩ := parse_err hq
          refine SC.region ?_
          refine PW.move rfl rfl rfl rfl rfl ?_
          refine PW.move rfl rfl rfl rfl rfl ?_
          refine PW.call (r := .kw (K2 (KI (0)) (KV (.int .i64 e)))) rfl rfl rfl rfl rfl rfl (K2.st (KI.st _) (KV.st _)) rfl (callK k_parse (by rw [he]; rfl)) ?_
          refine PW.move rfl rfl rfl rfl rfl ?_
          refine PW.ext (r := .kw (KI (0))) rfl rfl rfl rfl rfl ex20 (KI.st _) rfl ?_
          refine PW.ext (r := .vl (.int .i64 e)) rfl rfl rfl rfl rfl ex21v (KV.st _) rfl ?_
          refine PW.alloc (BI 28) rfl rfl rfl rfl rfl bI ?_
          refine PW.store (x := .tmp 48) (r := .kw (KI (0))) rfl rfl rfl rfl rfl rfl sh_I ?_
          refine PW.assign rfl rfl rfl rfl rfl ?_
          refine PW.nil ?_
          refine SX.then ?_
          refine SC.seq ?_
          refine SC.region ?_
          refine PW.move rfl rfl rfl rfl rfl ?_
          refine PW.move rfl rfl rfl rfl rfl ?_
          refine PW.call (r := .kw (K2 (KJ (0)) (KV (.int .i64 e)))) rfl rfl rfl rfl rfl rfl (K2.st (KJ.st _) (KV.st _)) rfl (callK k_jparse (by rw [he]; rfl)) ?_
          refine PW.move rfl rfl rfl rfl rfl ?_
          refine PW.ext (r := .kw (KJ (0))) rfl rfl rfl rfl rfl ex20 (KJ.st _) rfl ?_
          refine PW.ext (r := .vl (.int .i64 e)) rfl rfl rfl rfl rfl ex21v (KV.st _) rfl ?_
          refine PW.alloc (BI 31) rfl rfl rfl rfl rfl bJ ?_
          refine PW.store (x := .tmp 54) (r := .kw (KJ (0))) rfl rfl rfl rfl rfl rfl sh_J ?_
          refine PW.assign rfl rfl rfl rfl rfl ?_
          refine PW.nil ?_
          refine SX.then ?_
          refine SC.seq ?_
          refine SC.region ?_
          refine PW.move rfl rfl rfl rfl rfl ?_
          refine PW.move rfl rfl rfl rfl rfl ?_
          refine PW.q2 (x := .tmp 56) (y := .tmp 57) (.bool true) rfl rfl rfl rfl rfl (fun ρ W h1 h2 => by go_simp; first | done | rfl) ?_
          refine PW.move rfl rfl rfl rfl rfl ?_
          refine PW.move rfl rfl rfl rfl rfl ?_
          refine PW.move rfl rfl rfl rfl rfl ?_
          refine PW.q2 (x := .tmp 60) (y := .tmp 61) (.bool true) rfl rfl rfl rfl rfl (fun ρ W h1 h2 => by exact r_seq h1 h2 (by simp)) ?_
          refine PW.pick (t := true) rfl rfl rfl rfl rfl rfl ?_
          refine PW.move rfl rfl rfl rfl rfl ?_
          refine PW.move rfl rfl rfl rfl rfl ?_
          refine PW.move rfl rfl rfl rfl rfl ?_
          refine PW.q2 (x := .tmp 65) (y := .tmp 66) (.bool true) rfl rfl rfl rfl rfl (fun ρ W h1 h2 => by go_simp; first | done | rfl) ?_
          refine PW.pick (t := true) rfl rfl rfl rfl rfl rfl ?_
          refine PW.move rfl rfl rfl rfl rfl ?_
          refine PW.load rfl rfl rfl rfl rfl rfl ?_
          refine PW.load rfl rfl rfl rfl rfl rfl ?_
          refine PW.call (r := .vl (.bool true)) rfl rfl rfl rfl rfl rfl (KV.st _) rfl (k_is (bd.zero (a := 1)) (by first | decide | omega) rfl) ?_
          refine PW.pick (t := true) rfl rfl rfl rfl rfl rfl ?_
          refine PW.move rfl rfl rfl rfl rfl ?_
          refine PW.call (r := .vl (.bool true)) rfl rfl rfl rfl rfl rfl (KV.st _) rfl (k_awake) ?_
          refine PW.pick (t := true) rfl rfl rfl rfl rfl rfl ?_
          refine PW.assign rfl rfl rfl rfl rfl ?_
          refine PW.nil ?_
          refine SX.then ?_
          refine SC.ret ?_
          exact SX.done (r := .vl (.bool true)) rfl rfl rfl
      · refine SC.region ?_
        refine PW.load rfl rfl rfl rfl rfl rfl ?_
        refine PW.move rfl rfl rfl rfl rfl ?_
        refine PW.call (r := .kw (K2 (KV (.string ⟨#[]⟩)) (KV (.int .i64 1)))) rfl rfl rfl rfl rfl rfl (K2.st (KV.st _) (KV.st _)) rfl (k_text_bad hr) ?_
        refine PW.move rfl rfl rfl rfl rfl ?_
        refine PW.ext (r := .vl (.string ⟨#[]⟩)) rfl rfl rfl rfl rfl ex20v (KV.st _) rfl ?_
        refine PW.ext (r := .vl (.int .i64 1)) rfl rfl rfl rfl rfl ex21v (KV.st _) rfl ?_
        refine PW.assign rfl rfl rfl rfl rfl ?_
        refine PW.assign rfl rfl rfl rfl rfl ?_
        refine PW.nil ?_
        refine SX.then ?_
        refine SC.seq ?_
        refine SC.region ?_
        refine PW.load rfl rfl rfl rfl rfl rfl ?_
        refine PW.move rfl rfl rfl rfl rfl ?_
        refine PW.call (r := .kw (K2 (KV (.string ⟨#[]⟩)) (KV (.int .i64 1)))) rfl rfl rfl rfl rfl rfl (K2.st (KV.st _) (KV.st _)) rfl (k_jtext_bad hr) ?_
        refine PW.move rfl rfl rfl rfl rfl ?_
        refine PW.ext (r := .vl (.string ⟨#[]⟩)) rfl rfl rfl rfl rfl ex20v (KV.st _) rfl ?_
        refine PW.ext (r := .vl (.int .i64 1)) rfl rfl rfl rfl rfl ex21v (KV.st _) rfl ?_
        refine PW.assign rfl rfl rfl rfl rfl ?_
        refine PW.assign rfl rfl rfl rfl rfl ?_
        refine PW.nil ?_
        refine SX.then ?_
        refine SC.seq ?_
        by_cases hq : ∃ z, parseR r (byl t) = .ok z
        · obtain ⟨z, hz⟩ := hq
          have Z : bd 40 z := parse_bd hz (by omega)
          refine SC.region ?_
          refine PW.move rfl rfl rfl rfl rfl ?_
          refine PW.move rfl rfl rfl rfl rfl ?_
          refine PW.call (r := .kw (K2 (KI (z)) (KV (.int .i64 0)))) rfl rfl rfl rfl rfl rfl (K2.st (KI.st _) (KV.st _)) rfl (callK k_parse (by rw [hz]; rfl)) ?_
          refine PW.move rfl rfl rfl rfl rfl ?_
          refine PW.ext (r := .kw (KI (z))) rfl rfl rfl rfl rfl ex20 (KI.st _) rfl ?_
          refine PW.ext (r := .vl (.int .i64 0)) rfl rfl rfl rfl rfl ex21v (KV.st _) rfl ?_
          refine PW.alloc (BI 28) rfl rfl rfl rfl rfl bI ?_
          refine PW.store (x := .tmp 48) (r := .kw (KI (z))) rfl rfl rfl rfl rfl rfl sh_I ?_
          refine PW.assign rfl rfl rfl rfl rfl ?_
          refine PW.nil ?_
          refine SX.then ?_
          refine SC.seq ?_
          refine SC.region ?_
          refine PW.move rfl rfl rfl rfl rfl ?_
          refine PW.move rfl rfl rfl rfl rfl ?_
          refine PW.call (r := .kw (K2 (KJ (z)) (KV (.int .i64 0)))) rfl rfl rfl rfl rfl rfl (K2.st (KJ.st _) (KV.st _)) rfl (callK k_jparse (by rw [hz]; rfl)) ?_
          refine PW.move rfl rfl rfl rfl rfl ?_
          refine PW.ext (r := .kw (KJ (z))) rfl rfl rfl rfl rfl ex20 (KJ.st _) rfl ?_
          refine PW.ext (r := .vl (.int .i64 0)) rfl rfl rfl rfl rfl ex21v (KV.st _) rfl ?_
          refine PW.alloc (BI 31) rfl rfl rfl rfl rfl bJ ?_
          refine PW.store (x := .tmp 54) (r := .kw (KJ (z))) rfl rfl rfl rfl rfl rfl sh_J ?_
          refine PW.assign rfl rfl rfl rfl rfl ?_
          refine PW.nil ?_
          refine SX.then ?_
          refine SC.seq ?_
          refine SC.region ?_
          refine PW.move rfl rfl rfl rfl rfl ?_
          refine PW.move rfl rfl rfl rfl rfl ?_
          refine PW.q2 (x := .tmp 56) (y := .tmp 57) (.bool true) rfl rfl rfl rfl rfl (fun ρ W h1 h2 => by go_simp; first | done | rfl) ?_
          refine PW.move rfl rfl rfl rfl rfl ?_
          refine PW.move rfl rfl rfl rfl rfl ?_
          refine PW.move rfl rfl rfl rfl rfl ?_
          refine PW.q2 (x := .tmp 60) (y := .tmp 61) (.bool true) rfl rfl rfl rfl rfl (fun ρ W h1 h2 => by exact r_seq h1 h2 (by simp)) ?_
          refine PW.pick (t := true) rfl rfl rfl rfl rfl rfl ?_
          refine PW.move rfl rfl rfl rfl rfl ?_
          refine PW.move rfl rfl rfl rfl rfl ?_
          refine PW.move rfl rfl rfl rfl rfl ?_
          refine PW.q2 (x := .tmp 65) (y := .tmp 66) (.bool true) rfl rfl rfl rfl rfl (fun ρ W h1 h2 => by go_simp; first | done | rfl) ?_
          refine PW.pick (t := true) rfl rfl rfl rfl rfl rfl ?_
          refine PW.move rfl rfl rfl rfl rfl ?_
          refine PW.load rfl rfl rfl rfl rfl rfl ?_
          refine PW.load rfl rfl rfl rfl rfl rfl ?_
          refine PW.call (r := .vl (.bool true)) rfl rfl rfl rfl rfl rfl (KV.st _) rfl (k_is Z (by first | decide | omega) rfl) ?_
          refine PW.pick (t := true) rfl rfl rfl rfl rfl rfl ?_
          refine PW.move rfl rfl rfl rfl rfl ?_
          refine PW.call (r := .vl (.bool true)) rfl rfl rfl rfl rfl rfl (KV.st _) rfl (k_awake) ?_
          refine PW.pick (t := true) rfl rfl rfl rfl rfl rfl ?_
          refine PW.assign rfl rfl rfl rfl rfl ?_
          refine PW.nil ?_
          refine SX.then ?_
          refine SC.ret ?_
          exact SX.done (r := .vl (.bool true)) rfl rfl rfl
        · obtain ⟨e, he⟩ := parse_err hq
          refine SC.region ?_
          refine PW.move rfl rfl rfl rfl rfl ?_
          refine PW.move rfl rfl rfl rfl rfl ?_
          refine PW.call (r := .kw (K2 (KI (0)) (KV (.int .i64 e)))) rfl rfl rfl rfl rfl rfl (K2.st (KI.st _) (KV.st _)) rfl (callK k_parse (by rw [he]; rfl)) ?_
          refine PW.move rfl rfl rfl rfl rfl ?_
          refine PW.ext (r := .kw (KI (0))) rfl rfl rfl rfl rfl ex20 (KI.st _) rfl ?_
          refine PW.ext (r := .vl (.int .i64 e)) rfl rfl rfl rfl rfl ex21v (KV.st _) rfl ?_
          refine PW.alloc (BI 28) rfl rfl rfl rfl rfl bI ?_
          refine PW.store (x := .tmp 48) (r := .kw (KI (0))) rfl rfl rfl rfl rfl rfl sh_I ?_
          refine PW.assign rfl rfl rfl rfl rfl ?_
          refine PW.nil ?_
          refine SX.then ?_
          refine SC.seq ?_
          refine SC.region ?_
          refine PW.move rfl rfl rfl rfl rfl ?_
          refine PW.move rfl rfl rfl rfl rfl ?_
          refine PW.call (r := .kw (K2 (KJ (0)) (KV (.int .i64 e)))) rfl rfl rfl rfl rfl rfl (K2.st (KJ.st _) (KV.st _)) rfl (callK k_jparse (by rw [he]; rfl)) ?_
          refine PW.move rfl rfl rfl rfl rfl ?_
          refine PW.ext (r := .kw (KJ (0))) rfl rfl rfl rfl rfl ex20 (KJ.st _) rfl ?_
          refine PW.ext (r := .vl (.int .i64 e)) rfl rfl rfl rfl rfl ex21v (KV.st _) rfl ?_
          refine PW.alloc (BI 31) rfl rfl rfl rfl rfl bJ ?_
          refine PW.store (x := .tmp 54) (r := .kw (KJ (0))) rfl rfl rfl rfl rfl rfl sh_J ?_
          refine PW.assign rfl rfl rfl rfl rfl ?_
          refine PW.nil ?_
          refine SX.then ?_
          refine SC.seq ?_
          refine SC.region ?_
          refine PW.move rfl rfl rfl rfl rfl ?_
          refine PW.move rfl rfl rfl rfl rfl ?_
          refine PW.q2 (x := .tmp 56) (y := .tmp 57) (.bool true) rfl rfl rfl rfl rfl (fun ρ W h1 h2 => by go_simp; first | done | rfl) ?_
          refine PW.move rfl rfl rfl rfl rfl ?_
          refine PW.move rfl rfl rfl rfl rfl ?_
          refine PW.move rfl rfl rfl rfl rfl ?_
          refine PW.q2 (x := .tmp 60) (y := .tmp 61) (.bool true) rfl rfl rfl rfl rfl (fun ρ W h1 h2 => by exact r_seq h1 h2 (by simp)) ?_
          refine PW.pick (t := true) rfl rfl rfl rfl rfl rfl ?_
          refine PW.move rfl rfl rfl rfl rfl ?_
          refine PW.move rfl rfl rfl rfl rfl ?_
          refine PW.move rfl rfl rfl rfl rfl ?_
          refine PW.q2 (x := .tmp 65) (y := .tmp 66) (.bool true) rfl rfl rfl rfl rfl (fun ρ W h1 h2 => by go_simp; first | done | rfl) ?_
          refine PW.pick (t := true) rfl rfl rfl rfl rfl rfl ?_
          refine PW.move rfl rfl rfl rfl rfl ?_
          refine PW.load rfl rfl rfl rfl rfl rfl ?_
          refine PW.load rfl rfl rfl rfl rfl rfl ?_
          refine PW.call (r := .vl (.bool true)) rfl rfl rfl rfl rfl rfl (KV.st _) rfl (k_is (bd.zero (a := 1)) (by first | decide | omega) rfl) ?_
          refine PW.pick (t := true) rfl rfl rfl rfl rfl rfl ?_
          refine PW.move rfl rfl rfl rfl rfl ?_
          refine PW.call (r := .vl (.bool true)) rfl rfl rfl rfl rfl rfl (KV.st _) rfl (k_awake) ?_
          refine PW.pick (t := true) rfl rfl rfl rfl rfl rfl ?_
          refine PW.assign rfl rfl rfl rfl rfl ?_
          refine PW.nil ?_
          refine SX.then ?_
          refine SC.ret ?_
          exact SX.done (r := .vl (.bool true)) rfl rfl rfl
  · have hs : shB 12 [(n1, A1, l1, c1)] = false := by simpa using hs
    refine SC.region ?_
    refine PW.loadV rfl rfl rfl rfl rfl rfl ?_
    refine PW.short 12 [(n1, A1, l1, c1)] _ rfl rfl rfl (fun a W hf => r_bN1 (hf.vl (s := 17) rfl)) (fun W => ns_lit1 W) (by simp; exact In.lim h1) rfl rfl hs rfl rfl rfl rfl rfl rfl ?_
    refine PW.q1 (x := .tmp 19) (.bool true) rfl rfl rfl rfl (fun ρ W h1 => by go_simp) ?_
    refine PW.move rfl rfl rfl rfl rfl ?_
    refine PW.skip rfl rfl rfl ?_
    refine PW.skip rfl rfl rfl ?_
    refine PW.skip rfl rfl rfl ?_
    refine PW.pick (t := true) rfl rfl rfl rfl rfl rfl ?_
    refine PW.nil ?_
    refine SX.then ?_
    refine SC.cond (t := true) rfl ?_
    refine SC.seq ?_
    refine SC.region ?_
    refine PW.call (r := .vl (.bool true)) rfl rfl rfl rfl rfl rfl (KV.st _) rfl (k_awake) ?_
    refine PW.assign rfl rfl rfl rfl rfl ?_
    refine PW.nil ?_
    refine SX.then ?_
    refine SC.ret ?_
    refine SX.thenR ?_
    exact SX.done (r := .vl (.bool true)) rfl rfl rfl
end Go.Proofs.Ytcgkgcciogibkaa
/- How plain data that came in read. -/
set_option linter.unusedVariables false
set_option linter.unusedSimpArgs false
namespace Go.Proofs.Ytcgkgcciogibkaa
open Go.RowKit Ma
theorem In.nil (W : World) : In W none 0 0 [] := ⟨rfl, Nat.le_refl _, Rd.nil _ _ _, dg_nil _⟩
theorem In.of {W : World} {x : Addr} {l c : Nat} {zs : List Int} (hl : l ≤ c) (hm : c ≤ maxLen) (hz : zs.length = c) (hcell : ∀ i, i < zs.length → W.cell? (x.add i) = some (.int .u32 (zs.getD i 0))) (hw : ∀ n ∈ zs, (Lit.int .u32 n).wf = true) : In W (some x) l c (zs.take l) := by
  have h1 : (zs.take l).length = l := by rw [List.length_take]; omega
  refine ⟨h1.symm, hl, ⟨by rw [h1]; unfold maxLen at hm; omega, fun i hi => ⟨x, rfl, ?_⟩⟩, fun n hn => ?_⟩
  · rw [h1] at hi
    rw [hcell i (by omega)]
    simp only [at0, List.getD_eq_getElem?_getD, List.getElem?_take, hi, if_true]
  · have h2 := hw n (List.mem_of_mem_take hn)
    simp only [Lit.wf, Bool.and_eq_true, decide_eq_true_eq] at h2
    have hm : IntKind.u32.max = 4294967295 := by simp [IntKind.max, IntKind.bits, IntKind.signed]
    have hn : IntKind.u32.min = 0 := by simp [IntKind.min, IntKind.signed]
    rw [hm, hn] at h2
    rw [b32_eq]
    omega
end Go.Proofs.Ytcgkgcciogibkaa
