/- Parts Jt, Ra, Rw, Lc, in one file. -/
import Derived.Lib.IndexLaws
import Derived.Test.YthpjmhhfcechmaaGreatLRTexts11
import Derived.Test.YthpjmhhfcechmaaGreatLRTexts9
/- The reference's Text by rules. -/
set_option linter.unusedVariables false
set_option linter.unusedSimpArgs false
namespace Go.Proofs.YthpjmhhfcechmaaGreat.Sy
open Go Go.RowKit Ma
theorem chs_size {d : Int} (h0 : 0 ≤ d) (h1 : d < 36) : (chs d).size = 1 := by rw [size_byl, chs_byl h0 h1]; rfl
theorem KDt_pos {zs : List Int} (d : dg 65536 zs) (t : top zs) (h : 0 < zs.length) : 0 < lv 65536 zs := by
 have h1 := top_le BJ_pos d t (fun e => by rw [e] at h; simp at h)
 have h2 := pos_pow BJ_pos (zs.length - 1)
 omega
theorem div_lt {D r : Int} (h : 0 < D) (hr : 2 ≤ r) : D / r < D := by
 have h1 := Int.mul_ediv_add_emod D r
 have h2 := Int.emod_nonneg D (show r ≠ 0 by omega)
 have h3 := Int.ediv_nonneg (a := D) (b := r) (by omega) (by omega)
 have h4 := Int.mul_le_mul_of_nonneg_right hr h3
 by_cases h5 : D / r = 0
 ·omega
 ·omega
theorem ce_jtext : CE 86 := fun args W => by go_simp
set_option maxHeartbeats 3200000 in
set_option maxRecDepth 100000 in
theorem k_jtext_bad {x r : Int} (h : ¬ (2 ≤ r ∧ r ≤ 36)) : CallOk 86 [KJ (x), KV (.int .i64 (r))] (K2 (KV (.string ⟨#[]⟩)) (KV (.int .i64 1))) := by
 refine CallOk.enter (l := [.kw (KJ (x)), .vl (.int .i64 (r))]) 64 ce_jtext Tryz.func86 rfl Tryz.ntmps86 (by simp) ⟨(KJ.st _), rfl, (KV.st _), rfl, trivial⟩ fun w => ?_
 refine SC.seq ?_
 refine SC.region ?_
 refine PW.box (x := .tmp 0) (r := .kw (KJ (x))) (BI 34) rfl rfl rfl rfl rfl bJ rfl sh_J ?_
 refine PW.assign rfl rfl rfl rfl rfl ?_
 refine PW.assign rfl rfl rfl rfl rfl ?_
 refine PW.nil ?_
 refine SX.then ?_
 refine SC.seq ?_
 refine SC.seq ?_
 by_cases hr2 : r < 2
 ·refine SC.region ?_
  refine PW.move rfl rfl rfl rfl rfl ?_
  refine PW.q2 (x := .tmp 12) (y := .const (.int .i64 2)) (.bool true) rfl rfl rfl rfl rfl (fun ρ W h1 h2 => by exact r_lt h1 h2 (decide_eq_true hr2)) ?_
  refine PW.move rfl rfl rfl rfl rfl ?_
  refine PW.skip rfl rfl rfl ?_
  refine PW.skip rfl rfl rfl ?_
  refine PW.pick (t := true) rfl rfl rfl rfl rfl rfl ?_
  refine PW.nil ?_
  refine SX.then ?_
  refine SC.cond (t := true) rfl ?_
  refine SC.seq ?_
  refine SC.region ?_
  refine PW.assign rfl rfl rfl rfl rfl ?_
  refine PW.assign rfl rfl rfl rfl rfl ?_
  refine PW.nil ?_
  refine SX.then ?_
  refine SC.ret ?_
  refine SX.thenR ?_
  exact SX.done2t (s := 4) (t := 5) (.inl rfl) rfl rfl rfl rfl
 ·refine SC.region ?_
  refine PW.move rfl rfl rfl rfl rfl ?_
  refine PW.q2 (x := .tmp 12) (y := .const (.int .i64 2)) (.bool false) rfl rfl rfl rfl rfl (fun ρ W h1 h2 => by exact r_lt h1 h2 (decide_eq_false hr2)) ?_
  refine PW.move rfl rfl rfl rfl rfl ?_
  refine PW.move rfl rfl rfl rfl rfl ?_
  refine PW.q2 (x := .tmp 15) (y := .const (.int .i64 36)) (.bool true) rfl rfl rfl rfl rfl (fun ρ W h1 h2 => by exact r_gt h1 h2 (decide_eq_true (by omega))) ?_
  refine PW.pick (t := false) rfl rfl rfl rfl rfl rfl ?_
  refine PW.nil ?_
  refine SX.then ?_
  refine SC.cond (t := true) rfl ?_
  refine SC.seq ?_
  refine SC.region ?_
  refine PW.assign rfl rfl rfl rfl rfl ?_
  refine PW.assign rfl rfl rfl rfl rfl ?_
  refine PW.nil ?_
  refine SX.then ?_
  refine SC.ret ?_
  refine SX.thenR ?_
  exact SX.done2t (s := 4) (t := 5) (.inl rfl) rfl rfl rfl rfl
set_option maxHeartbeats 3200000 in
set_option maxRecDepth 100000 in
theorem rtext_t {x r : Int} {A : Option Addr} {c M : Nat} {xs : List Int} {w : World} (rA : Rd w .i64 A xs) (dx : dg 65536 xs) (tx : top xs) (hx : xs.length ≤ 2000000) (e : lv 65536 xs = (x.natAbs : Int)) (h : 2 ≤ r ∧ r ≤ 36) (hX : (x.natAbs : Int) < 2 ^ M) (hM : M ≤ 40000000) (hx2 : x < 0) :
  Calls Tryz.prog 86 #[.agg #[.bool true, .slice A xs.length c], .int .i64 (r)] w (Ret w (K2 (KV (.string (tstr r x))) (KV (.int .i64 0)))) := by
 refine calls_sc (l := [.vl (.agg #[.bool true, .slice A xs.length c]), .vl (.int .i64 (r))]) (us := [.agg #[.bool true, .slice A xs.length c], .int .i64 (r)]) 64 Tryz.func86 rfl Tryz.ntmps86 (by simp) ⟨rfl, rfl, rfl, rfl, trivial⟩ ?_
 refine SC.seq ?_
 refine SC.region ?_
 refine PW.boxc (x := .tmp 0) (BI 34) rfl rfl rfl rfl rfl bJ rfl ⟨_, _, _, _, _, rfl, rfl⟩ fun pb1 => ?_
 refine PW.assign rfl rfl rfl rfl rfl ?_
 refine PW.assign rfl rfl rfl rfl rfl ?_
 refine PW.nil ?_
 refine SX.then ?_
 refine SC.seq ?_
 refine SC.seq ?_
 refine SC.region ?_
 refine PW.move rfl rfl rfl rfl rfl ?_
 refine PW.q2 (x := .tmp 12) (y := .const (.int .i64 2)) (.bool false) rfl rfl rfl rfl rfl (fun ρ W h1 h2 => by exact r_lt h1 h2 (decide_eq_false (by omega))) ?_
 refine PW.move rfl rfl rfl rfl rfl ?_
 refine PW.move rfl rfl rfl rfl rfl ?_
 refine PW.q2 (x := .tmp 15) (y := .const (.int .i64 36)) (.bool false) rfl rfl rfl rfl rfl (fun ρ W h1 h2 => by exact r_gt h1 h2 (decide_eq_false (by omega))) ?_
 refine PW.pick (t := false) rfl rfl rfl rfl rfl rfl ?_
 refine PW.nil ?_
 refine SX.then ?_
 refine SC.cond (t := false) rfl ?_
 refine SC.skip ?_
 refine SX.then ?_
 refine SC.seq ?_
 refine SC.region ?_
 refine PW.assign rfl rfl rfl rfl rfl ?_
 refine PW.nil ?_
 refine SX.then ?_
 refine SC.seq ?_
 refine SC.region ?_
 refine PW.fac ⟨pb1, 1, none⟩ rfl rfl rfl rfl rfl facJ1 ?_
 refine PW.flc (s := 2) (.slice A xs.length c) rfl rfl rfl rfl rfl rfl flcJ1 ?_
 refine PW.assign rfl rfl rfl rfl rfl ?_
 refine PW.nil ?_
 refine SX.then ?_
 refine SC.seq ?_
 refine SC.block ?_
 refine SC.loopW (S := World × Option Addr × Nat × List Int × ByteArray) (fun ⟨wb, _, _, _, _⟩ => wb) (fun ⟨wb, C, cz, zs, t⟩ => [(1, .vl (.int .i64 (r))), (2, .bc (BI 34) pb1 (.agg #[.bool true, .slice A xs.length c])), (6, .vl (.string t)), (7, .vl (.slice C zs.length cz))]) (fun ⟨wb, C, cz, zs, t⟩ => Below w.heap.size w wb ∧ Rd wb .i64 C zs ∧ dg 65536 zs ∧ top zs ∧ zs.length ≤ 2000000 ∧ TyI (x.natAbs : Int) r M zs t) (fun ⟨wb, C, cz, zs, t⟩ => (lv 65536 zs).toNat) ?_ ?_
 ·exact fun a W hf => ⟨(W, A, c, xs, ⟨#[]⟩), ⟨hf.be, Rd.below rA hf.be, dx, tx, hx, TyI.start e⟩, Fr.rebase [(1, .vl (.int .i64 (r))), (2, .bc (BI 34) pb1 (.agg #[.bool true, .slice A xs.length c])), (6, .vl (.string ⟨#[]⟩)), (7, .vl (.slice A xs.length c))] hf ⟨rfl, rfl, rfl, rfl, trivial⟩ rfl⟩
 rintro ⟨wb, C, cz, zs, t⟩ ⟨hb, rC, dz, tz, hzl, hT⟩
 show SC _ _ _ _ [(1, .vl (.int .i64 (r))), (2, .bc (BI 34) pb1 (.agg #[.bool true, .slice A xs.length c])), (6, .vl (.string t)), (7, .vl (.slice C zs.length cz))] _
 refine SC.seq ?_
 refine SC.seq ?_
 by_cases hz : (zs.length : Int) > 0
 ·refine SC.region ?_
  refine PW.move rfl rfl rfl rfl rfl ?_
  refine PW.qn [(.tmp 20, .slice C zs.length cz)] (.int .i64 (zs.length : Int)) rfl rfl rfl ⟨rfl, trivial⟩ (fun ρ W h => by obtain ⟨h1, _⟩ := h; exact r_lenI h1) ?_
  refine PW.q2 (x := .tmp 21) (y := .const (.int .i64 0)) (.bool true) rfl rfl rfl rfl rfl (fun ρ W h1 h2 => by exact r_gt h1 h2 (decide_eq_true hz)) ?_
  refine PW.nil ?_
  refine SX.then ?_
  refine SC.cond (t := true) rfl ?_
  refine SC.skip ?_
  refine SX.then ?_
  refine SC.block ?_
  refine SC.seq ?_
  refine SC.region ?_
  refine PW.move rfl rfl rfl rfl rfl ?_
  refine PW.qn [(.tmp 23, .slice C zs.length cz)] (.int .i64 (zs.length : Int)) rfl rfl rfl ⟨rfl, trivial⟩ (fun ρ W h => by obtain ⟨h1, _⟩ := h; exact r_lenI h1) ?_
  refine PW.make (n := zs.length) 64 rfl rfl rfl rfl rfl Tryz.underlying32 info_i64 (by omega) (by unfold maxLen; omega) fun g1 => ?_
  refine PW.assign rfl rfl rfl rfl rfl ?_
  refine PW.nil ?_
  refine SX.then ?_
  refine SC.seq ?_
  refine SC.region ?_
  refine PW.assign rfl rfl rfl rfl rfl ?_
  refine PW.nil ?_
  refine SX.then ?_
  refine SC.seq ?_
  refine SC.seq ?_
  refine SC.region ?_
  refine PW.move rfl rfl rfl rfl rfl ?_
  refine PW.qn [(.tmp 26, .slice C zs.length cz)] (.int .i64 (zs.length : Int)) rfl rfl rfl ⟨rfl, trivial⟩ (fun ρ W h => by obtain ⟨h1, _⟩ := h; exact r_lenI h1) ?_
  refine PW.q2 (x := .tmp 27) (y := .const (.int .i64 1)) (.int .i64 ((zs.length : Int) - 1)) rfl rfl rfl rfl rfl (fun ρ W h1 h2 => by exact r_sub h1 h2 (rfl) (by omega)) ?_
  refine PW.assign rfl rfl rfl rfl rfl ?_
  refine PW.nil ?_
  refine SX.then ?_
  refine SC.block ?_
  refine SC.loop (S := Nat × List Int × Int) (fun ⟨t2, qs, R⟩ => [(1, .vl (.int .i64 (r))), (2, .bc (BI 34) pb1 (.agg #[.bool true, .slice A xs.length c])), (6, .vl (.string t)), (7, .vl (.slice C zs.length cz)), (8, .vl (.slice (some ⟨g1, 0, none⟩) zs.length zs.length)), (9, .vl (.int .i64 (R))), (10, .vl (.int .i64 ((t2 : Int) - 1))), (64, .ro (.slice (some ⟨g1, 0, none⟩) zs.length zs.length) 3 (.int .i64) (qs))]) (fun ⟨t2, qs, R⟩ => Dv zs r t2 qs R) (fun ⟨t2, qs, R⟩ => t2) (zs.length, List.replicate zs.length 0, 0) (Dv.start zs (by omega)) ⟨rfl, rfl, rfl, rfl, rfl, rfl, rfl, rfl, trivial⟩ ?_
  rintro ⟨t2, qs, R⟩ hD
  show SC _ _ _ _ [(1, .vl (.int .i64 (r))), (2, .bc (BI 34) pb1 (.agg #[.bool true, .slice A xs.length c])), (6, .vl (.string t)), (7, .vl (.slice C zs.length cz)), (8, .vl (.slice (some ⟨g1, 0, none⟩) zs.length zs.length)), (9, .vl (.int .i64 (R))), (10, .vl (.int .i64 ((t2 : Int) - 1))), (64, .ro (.slice (some ⟨g1, 0, none⟩) zs.length zs.length) 3 (.int .i64) (qs))] _
  refine SC.seq ?_
  refine SC.seq ?_
  by_cases ht : (0 : Int) ≤ (t2 : Int) - 1
  ·obtain ⟨i, rfl⟩ : ∃ i, t2 = i + 1 := ⟨t2 - 1, by omega⟩
   rw [show ((i + 1 : Nat) : Int) - 1 = (i : Int) by omega]
   rw [show ((i + 1 : Nat) : Int) - 1 = (i : Int) by omega] at ht
   have hil := hD.le
   have hR0 := hD.r0
   have hR1 := hD.r1
   obtain ⟨n0, n1, n2, n3, n4, n5, n6⟩ := tx_dig h (dg_at dz BJ_pos i) hR0 hR1
   refine SC.region ?_
   refine PW.move rfl rfl rfl rfl rfl ?_
   refine PW.q2 (x := .tmp 29) (y := .const (.int .i64 0)) (.bool true) rfl rfl rfl rfl rfl (fun ρ W h1 h2 => by exact r_ge h1 h2 (decide_eq_true ht)) ?_
   refine PW.nil ?_
   refine SX.then ?_
   refine SC.cond (t := true) rfl ?_
   refine SC.skip ?_
   refine SX.then ?_
   refine SC.seq ?_
   refine SC.block ?_
   refine SC.seq ?_
   refine SC.region ?_
   refine PW.move rfl rfl rfl rfl rfl ?_
   refine PW.q2 (x := .tmp 33) (y := .const (.int .i64 65536)) (.int .i64 (R * 65536)) rfl rfl rfl rfl rfl (fun ρ W h1 h2 => by exact r_mul h1 h2 (rfl) (by omega)) ?_
   refine PW.move rfl rfl rfl rfl rfl ?_
   refine PW.move rfl rfl rfl rfl rfl ?_
   refine PW.q2 (x := .tmp 35) (y := .tmp 36) (.pointer (padd C i)) rfl rfl rfl rfl rfl (fun ρ W h1 h2 => r_idxRI rC h1 h2 (by omega)) ?_
   refine PW.iget (i := i) rfl rfl rfl rfl rfl rfl rC (by omega) r_l64 ?_
   refine PW.q2 (x := .tmp 34) (y := .tmp 38) (.int .i64 (R * 65536 + at0 zs i)) rfl rfl rfl rfl rfl (fun ρ W h1 h2 => by exact r_add h1 h2 (rfl) (by omega)) ?_
   refine PW.assign rfl rfl rfl rfl rfl ?_
   refine PW.nil ?_
   refine SX.then ?_
   refine SC.seq ?_
   refine SC.region ?_
   refine PW.move rfl rfl rfl rfl rfl ?_
   refine PW.move rfl rfl rfl rfl rfl ?_
   refine PW.move rfl rfl rfl rfl rfl ?_
   refine PW.move rfl rfl rfl rfl rfl ?_
   refine PW.q2 (x := .tmp 42) (y := .tmp 43) (.int .i64 ((R * 65536 + at0 zs i) / r)) rfl rfl rfl rfl rfl (fun ρ W h1 h2 => by exact r_quo h1 h2 (rfl) (by omega) (by omega)) ?_
   refine PW.q2 (x := .tmp 40) (y := .tmp 41) (.pointer (some ⟨g1, i, none⟩)) rfl rfl rfl rfl rfl (fun ρ W h1 h2 => r_idxI h1 h2 (by have := hD.len; omega)) ?_
   refine PW.rstore (K := 64) (x := .tmp 44) (i := i) (y := ((R * 65536 + at0 zs i) / r)) rfl rfl rfl rfl rfl (by have := hD.len; omega) rfl rfl r_s64 ?_
   refine PW.nil ?_
   refine SX.then ?_
   refine SC.region ?_
   refine PW.move rfl rfl rfl rfl rfl ?_
   refine PW.move rfl rfl rfl rfl rfl ?_
   refine PW.q2 (x := .tmp 46) (y := .tmp 47) (.int .i64 ((R * 65536 + at0 zs i) % r)) rfl rfl rfl rfl rfl (fun ρ W h1 h2 => by exact r_rem h1 h2 (rfl) (by omega) (by omega)) ?_
   refine PW.assign rfl rfl rfl rfl rfl ?_
   refine PW.nil ?_
   refine SX.blockN ?_
   refine SX.then ?_
   refine SC.region ?_
   refine PW.move rfl rfl rfl rfl rfl ?_
   refine PW.q2 (x := .tmp 31) (y := .const (.int .i64 1)) (.int .i64 ((i : Int) - 1)) rfl rfl rfl rfl rfl (fun ρ W h1 h2 => by exact r_sub h1 h2 (rfl) (by omega)) ?_
   refine PW.assign rfl rfl rfl rfl rfl ?_
   refine PW.nil ?_
   refine SX.back (i, qs.set i ((R * 65536 + at0 zs i) / r), (R * 65536 + at0 zs i) % r) ?_ ?_ ?_
   ·exact (by have := hD.step dz (lo := (R * 65536 + at0 zs i) / r) (by omega) (by omega) n3 n2; rw [n4] at this; exact this)
   ·exact (show i < i + 1 by omega)
   ·exact ⟨rfl, rfl, rfl, rfl, rfl, rfl, rfl, rfl, trivial⟩
  ·obtain rfl : t2 = 0 := by omega
   have hR0 := hD.r0
   have hR1 := hD.r1
   obtain ⟨f1, f2⟩ := hD.fin
   refine SC.region ?_
   refine PW.move rfl rfl rfl rfl rfl ?_
   refine PW.q2 (x := .tmp 29) (y := .const (.int .i64 0)) (.bool false) rfl rfl rfl rfl rfl (fun ρ W h1 h2 => by exact r_ge h1 h2 (decide_eq_false ht)) ?_
   refine PW.nil ?_
   refine SX.then ?_
   refine SC.cond (t := false) rfl ?_
   refine SC.exit ?_
   refine SX.thenE ?_
   refine SX.thenE ?_
   refine SX.blockE ?_
   refine SX.then ?_
   refine SC.seq ?_
   refine SC.region ?_
   refine PW.move rfl rfl rfl rfl rfl ?_
   refine PW.callG (r := .vl (tv (.slice (some ⟨g1, 0, none⟩) zs.length zs.length) (trim qs).length)) ce_rtrimmed rfl rfl rfl rfl rfl (KV.st _) rfl (fun a W hf => by have h1 := hf.vl (s := 49) rfl; have h2 : OwF W _ _ (.int .i64) (.slice (some ⟨g1, 0, none⟩) zs.length zs.length) (qs) := hf.ho 64 _ rfl; show Calls Tryz.prog _ #[a.tmps.getD 49 undef] W _; rw [h1]; exact tv_calls h2) ?_
   refine PW.more _ (fun a W hf => Fr.trimv (K := 64) hf rfl) ?_
   refine PW.assign rfl rfl rfl rfl rfl ?_
   refine PW.nil ?_
   refine SX.then ?_
   refine SC.region ?_
   refine PW.move rfl rfl rfl rfl rfl ?_
   refine PW.move rfl rfl rfl rfl rfl ?_
   refine PW.q2 (x := .tmp 52) (y := .const (.int .i64 1)) (.int .i64 (R + 1)) rfl rfl rfl rfl rfl (fun ρ W h1 h2 => by exact r_add h1 h2 (rfl) (by omega)) ?_
   refine PW.qn [(.const (.string ⟨#[48, 49, 50, 51, 52, 53, 54, 55, 56, 57, 65, 66, 67, 68, 69, 70, 71, 72, 73, 74, 75, 76, 77, 78, 79, 80, 81, 82, 83, 84, 85, 86, 87, 88, 89, 90]⟩), .string ⟨#[48, 49, 50, 51, 52, 53, 54, 55, 56, 57, 65, 66, 67, 68, 69, 70, 71, 72, 73, 74, 75, 76, 77, 78, 79, 80, 81, 82, 83, 84, 85, 86, 87, 88, 89, 90]⟩), (.tmp 51, .int .i64 (R)), (.tmp 53, .int .i64 (R + 1))] (.string (chs R)) rfl rfl rfl ⟨rfl, rfl, rfl, trivial⟩ (fun ρ W h => by obtain ⟨h1, h2, h3, _⟩ := h; exact r_sdig h1 h2 h3 (by omega) (by omega)) ?_
   refine PW.move rfl rfl rfl rfl rfl ?_
   refine PW.q2 (x := .tmp 54) (y := .tmp 55) (.string (chs R ++ t)) rfl rfl rfl rfl rfl (fun ρ W h1 h2 => by exact r_sadd h1 h2 (by rw [chs_size (by omega) (by omega)]; have h7 := TyI.size hT; omega)) ?_
   refine PW.assign rfl rfl rfl rfl rfl ?_
   refine PW.nil ?_
   refine SX.blockN ?_
   refine SX.backW fun a W hf => ?_
   have own : OwF W _ _ (.int .i64) (tv (.slice (some ⟨g1, 0, none⟩) zs.length zs.length) (trim qs).length) (trim qs) := hf.ho 64 _ rfl
   obtain ⟨C2, c2, e2, hc2, rd2⟩ := Own.rd own
   have h7 : Value.slice (some ⟨g1, 0, none⟩) (trim qs).length zs.length = .slice C2 (trim qs).length c2 := e2
   have hlt : lv 65536 (trim qs) = lv 65536 zs / r := (trim_lv _ _).trans f1
   have hpos : 0 < lv 65536 zs := KDt_pos dz tz (by omega)
   subst f2
   refine ⟨(W, some ⟨g1, 0, none⟩, zs.length, trim qs, (chs (lv 65536 zs % r) ++ t)), ⟨hb.trans (Below.mono hf.be (Below.size hb)), ?_, trim_dg hD.d, trim_top _, ?_, TyI.step hT h.1 h.2 hX hpos hlt⟩, ?_, Fr.rebase [(1, .vl (.int .i64 (r))), (2, .bc (BI 34) pb1 (.agg #[.bool true, .slice A xs.length c])), (6, .vl (.string (chs (lv 65536 zs % r) ++ t))), (7, .vl (.slice (some ⟨g1, 0, none⟩) (trim qs).length zs.length))] hf ⟨rfl, rfl, rfl, rfl, trivial⟩ rfl⟩
   ·injection h7 with h8 h9 h10; rw [h8]; exact rd2
   ·have := trim_len qs; have := hD.len; omega
   ·show (lv 65536 (trim qs)).toNat < (lv 65536 zs).toNat
    rw [hlt]
    have := div_lt hpos h.1
    omega
 ·have hl0 : lv 65536 zs = 0 := by rw [List.eq_nil_of_length_eq_zero (show zs.length = 0 by omega)]; rfl
  refine SC.region ?_
  refine PW.move rfl rfl rfl rfl rfl ?_
  refine PW.qn [(.tmp 20, .slice C zs.length cz)] (.int .i64 (zs.length : Int)) rfl rfl rfl ⟨rfl, trivial⟩ (fun ρ W h => by obtain ⟨h1, _⟩ := h; exact r_lenI h1) ?_
  refine PW.q2 (x := .tmp 21) (y := .const (.int .i64 0)) (.bool false) rfl rfl rfl rfl rfl (fun ρ W h1 h2 => by exact r_gt h1 h2 (decide_eq_false hz)) ?_
  refine PW.nil ?_
  refine SX.then ?_
  refine SC.cond (t := false) rfl ?_
  refine SC.exit ?_
  refine SX.thenE ?_
  refine SX.thenE ?_
  refine SX.blockE ?_
  refine SX.then ?_
  refine SC.seq ?_
  refine SC.seq ?_
  by_cases he : t.size = 0
  ·refine SC.region ?_
   refine PW.move rfl rfl rfl rfl rfl ?_
   refine PW.q2 (x := .tmp 57) (y := .const (.string ⟨#[]⟩)) (.bool true) rfl rfl rfl rfl rfl (fun ρ W h1 h2 => by exact r_seq h1 h2 ((empty_eq t).trans (decide_eq_true he))) ?_
   refine PW.nil ?_
   refine SX.then ?_
   refine SC.cond (t := true) rfl ?_
   refine SC.region ?_
   refine PW.assign rfl rfl rfl rfl rfl ?_
   refine PW.nil ?_
   refine SX.then ?_
   refine SC.seq ?_
   refine SC.seq ?_
   refine SC.region ?_
   refine PW.fac ⟨pb1, 0, none⟩ rfl rfl rfl rfl rfl facJ0 ?_
   refine PW.flc (s := 2) (.bool true) rfl rfl rfl rfl rfl rfl flcJ0 ?_
   refine PW.nil ?_
   refine SX.then ?_
   refine SC.cond (t := true) rfl ?_
   refine SC.region ?_
   refine PW.move rfl rfl rfl rfl rfl ?_
   refine PW.q2 (x := .const (.string ⟨#[45]⟩)) (y := .tmp 61) (.string (⟨#[45]⟩ ++ ⟨#[48]⟩)) rfl rfl rfl rfl rfl (fun ρ W h1 h2 => by exact r_sadd h1 h2 (by decide)) ?_
   refine PW.assign rfl rfl rfl rfl rfl ?_
   refine PW.nil ?_
   refine SX.then ?_
   refine SC.seq ?_
   refine SC.region ?_
   refine PW.move rfl rfl rfl rfl rfl ?_
   refine PW.assign rfl rfl rfl rfl rfl ?_
   refine PW.assign rfl rfl rfl rfl rfl ?_
   refine PW.nil ?_
   refine SX.then ?_
   refine SC.ret ?_
   exact absurd ((hT.empty h.1 hl0).1 he) (by omega)
  ·refine SC.region ?_
   refine PW.move rfl rfl rfl rfl rfl ?_
   refine PW.q2 (x := .tmp 57) (y := .const (.string ⟨#[]⟩)) (.bool false) rfl rfl rfl rfl rfl (fun ρ W h1 h2 => by exact r_seq h1 h2 ((empty_eq t).trans (decide_eq_false he))) ?_
   refine PW.nil ?_
   refine SX.then ?_
   refine SC.cond (t := false) rfl ?_
   refine SC.skip ?_
   refine SX.then ?_
   refine SC.seq ?_
   refine SC.seq ?_
   refine SC.region ?_
   refine PW.fac ⟨pb1, 0, none⟩ rfl rfl rfl rfl rfl facJ0 ?_
   refine PW.flc (s := 2) (.bool true) rfl rfl rfl rfl rfl rfl flcJ0 ?_
   refine PW.nil ?_
   refine SX.then ?_
   refine SC.cond (t := true) rfl ?_
   refine SC.region ?_
   refine PW.move rfl rfl rfl rfl rfl ?_
   refine PW.q2 (x := .const (.string ⟨#[45]⟩)) (y := .tmp 61) (.string (⟨#[45]⟩ ++ t)) rfl rfl rfl rfl rfl (fun ρ W h1 h2 => by exact r_sadd h1 h2 (by have h7 := TyI.size hT; show 1 + _ ≤ _; omega)) ?_
   refine PW.assign rfl rfl rfl rfl rfl ?_
   refine PW.nil ?_
   refine SX.then ?_
   refine SC.seq ?_
   refine SC.region ?_
   refine PW.move rfl rfl rfl rfl rfl ?_
   refine PW.assign rfl rfl rfl rfl rfl ?_
   refine PW.assign rfl rfl rfl rfl rfl ?_
   refine PW.nil ?_
   refine SX.then ?_
   refine SC.ret ?_
   rw [← tstr_eq h.1 (hT.txtn hl0 hx2)]
   exact SX.done2tW (s := 4) (t := 5) (.inl rfl) rfl rfl rfl hb rfl
set_option maxHeartbeats 3200000 in
set_option maxRecDepth 100000 in
theorem rtext_f {x r : Int} {A : Option Addr} {c M : Nat} {xs : List Int} {w : World} (rA : Rd w .i64 A xs) (dx : dg 65536 xs) (tx : top xs) (hx : xs.length ≤ 2000000) (e : lv 65536 xs = (x.natAbs : Int)) (h : 2 ≤ r ∧ r ≤ 36) (hX : (x.natAbs : Int) < 2 ^ M) (hM : M ≤ 40000000) (hx2 : ¬ x < 0) :
  Calls Tryz.prog 86 #[.agg #[.bool false, .slice A xs.length c], .int .i64 (r)] w (Ret w (K2 (KV (.string (tstr r x))) (KV (.int .i64 0)))) := by
 refine calls_sc (l := [.vl (.agg #[.bool false, .slice A xs.length c]), .vl (.int .i64 (r))]) (us := [.agg #[.bool false, .slice A xs.length c], .int .i64 (r)]) 64 Tryz.func86 rfl Tryz.ntmps86 (by simp) ⟨rfl, rfl, rfl, rfl, trivial⟩ ?_
 refine SC.seq ?_
 refine SC.region ?_
 refine PW.boxc (x := .tmp 0) (BI 34) rfl rfl rfl rfl rfl bJ rfl ⟨_, _, _, _, _, rfl, rfl⟩ fun pb1 => ?_
 refine PW.assign rfl rfl rfl rfl rfl ?_
 refine PW.assign rfl rfl rfl rfl rfl ?_
 refine PW.nil ?_
 refine SX.then ?_
 refine SC.seq ?_
 refine SC.seq ?_
 refine SC.region ?_
 refine PW.move rfl rfl rfl rfl rfl ?_
 refine PW.q2 (x := .tmp 12) (y := .const (.int .i64 2)) (.bool false) rfl rfl rfl rfl rfl (fun ρ W h1 h2 => by exact r_lt h1 h2 (decide_eq_false (by omega))) ?_
 refine PW.move rfl rfl rfl rfl rfl ?_
 refine PW.move rfl rfl rfl rfl rfl ?_
 refine PW.q2 (x := .tmp 15) (y := .const (.int .i64 36)) (.bool false) rfl rfl rfl rfl rfl (fun ρ W h1 h2 => by exact r_gt h1 h2 (decide_eq_false (by omega))) ?_
 refine PW.pick (t := false) rfl rfl rfl rfl rfl rfl ?_
 refine PW.nil ?_
 refine SX.then ?_
 refine SC.cond (t := false) rfl ?_
 refine SC.skip ?_
 refine SX.then ?_
 refine SC.seq ?_
 refine SC.region ?_
 refine PW.assign rfl rfl rfl rfl rfl ?_
 refine PW.nil ?_
 refine SX.then ?_
 refine SC.seq ?_
 refine SC.region ?_
 refine PW.fac ⟨pb1, 1, none⟩ rfl rfl rfl rfl rfl facJ1 ?_
 refine PW.flc (s := 2) (.slice A xs.length c) rfl rfl rfl rfl rfl rfl flcJ1 ?_
 refine PW.assign rfl rfl rfl rfl rfl ?_
 refine PW.nil ?_
 refine SX.then ?_
 refine SC.seq ?_
 refine SC.block ?_
 refine SC.loopW (S := World × Option Addr × Nat × List Int × ByteArray) (fun ⟨wb, _, _, _, _⟩ => wb) (fun ⟨wb, C, cz, zs, t⟩ => [(1, .vl (.int .i64 (r))), (2, .bc (BI 34) pb1 (.agg #[.bool false, .slice A xs.length c])), (6, .vl (.string t)), (7, .vl (.slice C zs.length cz))]) (fun ⟨wb, C, cz, zs, t⟩ => Below w.heap.size w wb ∧ Rd wb .i64 C zs ∧ dg 65536 zs ∧ top zs ∧ zs.length ≤ 2000000 ∧ TyI (x.natAbs : Int) r M zs t) (fun ⟨wb, C, cz, zs, t⟩ => (lv 65536 zs).toNat) ?_ ?_
 ·exact fun a W hf => ⟨(W, A, c, xs, ⟨#[]⟩), ⟨hf.be, Rd.below rA hf.be, dx, tx, hx, TyI.start e⟩, Fr.rebase [(1, .vl (.int .i64 (r))), (2, .bc (BI 34) pb1 (.agg #[.bool false, .slice A xs.length c])), (6, .vl (.string ⟨#[]⟩)), (7, .vl (.slice A xs.length c))] hf ⟨rfl, rfl, rfl, rfl, trivial⟩ rfl⟩
 rintro ⟨wb, C, cz, zs, t⟩ ⟨hb, rC, dz, tz, hzl, hT⟩
 show SC _ _ _ _ [(1, .vl (.int .i64 (r))), (2, .bc (BI 34) pb1 (.agg #[.bool false, .slice A xs.length c])), (6, .vl (.string t)), (7, .vl (.slice C zs.length cz))] _
 refine SC.seq ?_
 refine SC.seq ?_
 by_cases hz : (zs.length : Int) > 0
 ·refine SC.region ?_
  refine PW.move rfl rfl rfl rfl rfl ?_
  refine PW.qn [(.tmp 20, .slice C zs.length cz)] (.int .i64 (zs.length : Int)) rfl rfl rfl ⟨rfl, trivial⟩ (fun ρ W h => by obtain ⟨h1, _⟩ := h; exact r_lenI h1) ?_
  refine PW.q2 (x := .tmp 21) (y := .const (.int .i64 0)) (.bool true) rfl rfl rfl rfl rfl (fun ρ W h1 h2 => by exact r_gt h1 h2 (decide_eq_true hz)) ?_
  refine PW.nil ?_
  refine SX.then ?_
  refine SC.cond (t := true) rfl ?_
  refine SC.skip ?_
  refine SX.then ?_
  refine SC.block ?_
  refine SC.seq ?_
  refine SC.region ?_
  refine PW.move rfl rfl rfl rfl rfl ?_
  refine PW.qn [(.tmp 23, .slice C zs.length cz)] (.int .i64 (zs.length : Int)) rfl rfl rfl ⟨rfl, trivial⟩ (fun ρ W h => by obtain ⟨h1, _⟩ := h; exact r_lenI h1) ?_
  refine PW.make (n := zs.length) 64 rfl rfl rfl rfl rfl Tryz.underlying32 info_i64 (by omega) (by unfold maxLen; omega) fun g1 => ?_
  refine PW.assign rfl rfl rfl rfl rfl ?_
  refine PW.nil ?_
  refine SX.then ?_
  refine SC.seq ?_
  refine SC.region ?_
  refine PW.assign rfl rfl rfl rfl rfl ?_
  refine PW.nil ?_
  refine SX.then ?_
  refine SC.seq ?_
  refine SC.seq ?_
  refine SC.region ?_
  refine PW.move rfl rfl rfl rfl rfl ?_
  refine PW.qn [(.tmp 26, .slice C zs.length cz)] (.int .i64 (zs.length : Int)) rfl rfl rfl ⟨rfl, trivial⟩ (fun ρ W h => by obtain ⟨h1, _⟩ := h; exact r_lenI h1) ?_
  refine PW.q2 (x := .tmp 27) (y := .const (.int .i64 1)) (.int .i64 ((zs.length : Int) - 1)) rfl rfl rfl rfl rfl (fun ρ W h1 h2 => by exact r_sub h1 h2 (rfl) (by omega)) ?_
  refine PW.assign rfl rfl rfl rfl rfl ?_
  refine PW.nil ?_
  refine SX.then ?_
  refine SC.block ?_
  refine SC.loop (S := Nat × List Int × Int) (fun ⟨t2, qs, R⟩ => [(1, .vl (.int .i64 (r))), (2, .bc (BI 34) pb1 (.agg #[.bool false, .slice A xs.length c])), (6, .vl (.string t)), (7, .vl (.slice C zs.length cz)), (8, .vl (.slice (some ⟨g1, 0, none⟩) zs.length zs.length)), (9, .vl (.int .i64 (R))), (10, .vl (.int .i64 ((t2 : Int) - 1))), (64, .ro (.slice (some ⟨g1, 0, none⟩) zs.length zs.length) 3 (.int .i64) (qs))]) (fun ⟨t2, qs, R⟩ => Dv zs r t2 qs R) (fun ⟨t2, qs, R⟩ => t2) (zs.length, List.replicate zs.length 0, 0) (Dv.start zs (by omega)) ⟨rfl, rfl, rfl, rfl, rfl, rfl, rfl, rfl, trivial⟩ ?_
  rintro ⟨t2, qs, R⟩ hD
  show SC _ _ _ _ [(1, .vl (.int .i64 (r))), (2, .bc (BI 34) pb1 (.agg #[.bool false, .slice A xs.length c])), (6, .vl (.string t)), (7, .vl (.slice C zs.length cz)), (8, .vl (.slice (some ⟨g1, 0, none⟩) zs.length zs.length)), (9, .vl (.int .i64 (R))), (10, .vl (.int .i64 ((t2 : Int) - 1))), (64, .ro (.slice (some ⟨g1, 0, none⟩) zs.length zs.length) 3 (.int .i64) (qs))] _
  refine SC.seq ?_
  refine SC.seq ?_
  by_cases ht : (0 : Int) ≤ (t2 : Int) - 1
  ·obtain ⟨i, rfl⟩ : ∃ i, t2 = i + 1 := ⟨t2 - 1, by omega⟩
   rw [show ((i + 1 : Nat) : Int) - 1 = (i : Int) by omega]
   rw [show ((i + 1 : Nat) : Int) - 1 = (i : Int) by omega] at ht
   have hil := hD.le
   have hR0 := hD.r0
   have hR1 := hD.r1
   obtain ⟨n0, n1, n2, n3, n4, n5, n6⟩ := tx_dig h (dg_at dz BJ_pos i) hR0 hR1
   refine SC.region ?_
   refine PW.move rfl rfl rfl rfl rfl ?_
   refine PW.q2 (x := .tmp 29) (y := .const (.int .i64 0)) (.bool true) rfl rfl rfl rfl rfl (fun ρ W h1 h2 => by exact r_ge h1 h2 (decide_eq_true ht)) ?_
   refine PW.nil ?_
   refine SX.then ?_
   refine SC.cond (t := true) rfl ?_
   refine SC.skip ?_
   refine SX.then ?_
   refine SC.seq ?_
   refine SC.block ?_
   refine SC.seq ?_
   refine SC.region ?_
   refine PW.move rfl rfl rfl rfl rfl ?_
   refine PW.q2 (x := .tmp 33) (y := .const (.int .i64 65536)) (.int .i64 (R * 65536)) rfl rfl rfl rfl rfl (fun ρ W h1 h2 => by exact r_mul h1 h2 (rfl) (by omega)) ?_
   refine PW.move rfl rfl rfl rfl rfl ?_
   refine PW.move rfl rfl rfl rfl rfl ?_
   refine PW.q2 (x := .tmp 35) (y := .tmp 36) (.pointer (padd C i)) rfl rfl rfl rfl rfl (fun ρ W h1 h2 => r_idxRI rC h1 h2 (by omega)) ?_
   refine PW.iget (i := i) rfl rfl rfl rfl rfl rfl rC (by omega) r_l64 ?_
   refine PW.q2 (x := .tmp 34) (y := .tmp 38) (.int .i64 (R * 65536 + at0 zs i)) rfl rfl rfl rfl rfl (fun ρ W h1 h2 => by exact r_add h1 h2 (rfl) (by omega)) ?_
   refine PW.assign rfl rfl rfl rfl rfl ?_
   refine PW.nil ?_
   refine SX.then ?_
   refine SC.seq ?_
   refine SC.region ?_
   refine PW.move rfl rfl rfl rfl rfl ?_
   refine PW.move rfl rfl rfl rfl rfl ?_
   refine PW.move rfl rfl rfl rfl rfl ?_
   refine PW.move rfl rfl rfl rfl rfl ?_
   refine PW.q2 (x := .tmp 42) (y := .tmp 43) (.int .i64 ((R * 65536 + at0 zs i) / r)) rfl rfl rfl rfl rfl (fun ρ W h1 h2 => by exact r_quo h1 h2 (rfl) (by omega) (by omega)) ?_
   refine PW.q2 (x := .tmp 40) (y := .tmp 41) (.pointer (some ⟨g1, i, none⟩)) rfl rfl rfl rfl rfl (fun ρ W h1 h2 => r_idxI h1 h2 (by have := hD.len; omega)) ?_
   refine PW.rstore (K := 64) (x := .tmp 44) (i := i) (y := ((R * 65536 + at0 zs i) / r)) rfl rfl rfl rfl rfl (by have := hD.len; omega) rfl rfl r_s64 ?_
   refine PW.nil ?_
   refine SX.then ?_
   refine SC.region ?_
   refine PW.move rfl rfl rfl rfl rfl ?_
   refine PW.move rfl rfl rfl rfl rfl ?_
   refine PW.q2 (x := .tmp 46) (y := .tmp 47) (.int .i64 ((R * 65536 + at0 zs i) % r)) rfl rfl rfl rfl rfl (fun ρ W h1 h2 => by exact r_rem h1 h2 (rfl) (by omega) (by omega)) ?_
   refine PW.assign rfl rfl rfl rfl rfl ?_
   refine PW.nil ?_
   refine SX.blockN ?_
   refine SX.then ?_
   refine SC.region ?_
   refine PW.move rfl rfl rfl rfl rfl ?_
   refine PW.q2 (x := .tmp 31) (y := .const (.int .i64 1)) (.int .i64 ((i : Int) - 1)) rfl rfl rfl rfl rfl (fun ρ W h1 h2 => by exact r_sub h1 h2 (rfl) (by omega)) ?_
   refine PW.assign rfl rfl rfl rfl rfl ?_
   refine PW.nil ?_
   refine SX.back (i, qs.set i ((R * 65536 + at0 zs i) / r), (R * 65536 + at0 zs i) % r) ?_ ?_ ?_
   ·exact (by have := hD.step dz (lo := (R * 65536 + at0 zs i) / r) (by omega) (by omega) n3 n2; rw [n4] at this; exact this)
   ·exact (show i < i + 1 by omega)
   ·exact ⟨rfl, rfl, rfl, rfl, rfl, rfl, rfl, rfl, trivial⟩
  ·obtain rfl : t2 = 0 := by omega
   have hR0 := hD.r0
   have hR1 := hD.r1
   obtain ⟨f1, f2⟩ := hD.fin
   refine SC.region ?_
   refine PW.move rfl rfl rfl rfl rfl ?_
   refine PW.q2 (x := .tmp 29) (y := .const (.int .i64 0)) (.bool false) rfl rfl rfl rfl rfl (fun ρ W h1 h2 => by exact r_ge h1 h2 (decide_eq_false ht)) ?_
   refine PW.nil ?_
   refine SX.then ?_
   refine SC.cond (t := false) rfl ?_
   refine SC.exit ?_
   refine SX.thenE ?_
   refine SX.thenE ?_
   refine SX.blockE ?_
   refine SX.then ?_
   refine SC.seq ?_
   refine SC.region ?_
   refine PW.move rfl rfl rfl rfl rfl ?_
   refine PW.callG (r := .vl (tv (.slice (some ⟨g1, 0, none⟩) zs.length zs.length) (trim qs).length)) ce_rtrimmed rfl rfl rfl rfl rfl (KV.st _) rfl (fun a W hf => by have h1 := hf.vl (s := 49) rfl; have h2 : OwF W _ _ (.int .i64) (.slice (some ⟨g1, 0, none⟩) zs.length zs.length) (qs) := hf.ho 64 _ rfl; show Calls Tryz.prog _ #[a.tmps.getD 49 undef] W _; rw [h1]; exact tv_calls h2) ?_
   refine PW.more _ (fun a W hf => Fr.trimv (K := 64) hf rfl) ?_
   refine PW.assign rfl rfl rfl rfl rfl ?_
   refine PW.nil ?_
   refine SX.then ?_
   refine SC.region ?_
   refine PW.move rfl rfl rfl rfl rfl ?_
   refine PW.move rfl rfl rfl rfl rfl ?_
   refine PW.q2 (x := .tmp 52) (y := .const (.int .i64 1)) (.int .i64 (R + 1)) rfl rfl rfl rfl rfl (fun ρ W h1 h2 => by exact r_add h1 h2 (rfl) (by omega)) ?_
   refine PW.qn [(.const (.string ⟨#[48, 49, 50, 51, 52, 53, 54, 55, 56, 57, 65, 66, 67, 68, 69, 70, 71, 72, 73, 74, 75, 76, 77, 78, 79, 80, 81, 82, 83, 84, 85, 86, 87, 88, 89, 90]⟩), .string ⟨#[48, 49, 50, 51, 52, 53, 54, 55, 56, 57, 65, 66, 67, 68, 69, 70, 71, 72, 73, 74, 75, 76, 77, 78, 79, 80, 81, 82, 83, 84, 85, 86, 87, 88, 89, 90]⟩), (.tmp 51, .int .i64 (R)), (.tmp 53, .int .i64 (R + 1))] (.string (chs R)) rfl rfl rfl ⟨rfl, rfl, rfl, trivial⟩ (fun ρ W h => by obtain ⟨h1, h2, h3, _⟩ := h; exact r_sdig h1 h2 h3 (by omega) (by omega)) ?_
   refine PW.move rfl rfl rfl rfl rfl ?_
   refine PW.q2 (x := .tmp 54) (y := .tmp 55) (.string (chs R ++ t)) rfl rfl rfl rfl rfl (fun ρ W h1 h2 => by exact r_sadd h1 h2 (by rw [chs_size (by omega) (by omega)]; have h7 := TyI.size hT; omega)) ?_
   refine PW.assign rfl rfl rfl rfl rfl ?_
   refine PW.nil ?_
   refine SX.blockN ?_
   refine SX.backW fun a W hf => ?_
   have own : OwF W _ _ (.int .i64) (tv (.slice (some ⟨g1, 0, none⟩) zs.length zs.length) (trim qs).length) (trim qs) := hf.ho 64 _ rfl
   obtain ⟨C2, c2, e2, hc2, rd2⟩ := Own.rd own
   have h7 : Value.slice (some ⟨g1, 0, none⟩) (trim qs).length zs.length = .slice C2 (trim qs).length c2 := e2
   have hlt : lv 65536 (trim qs) = lv 65536 zs / r := (trim_lv _ _).trans f1
   have hpos : 0 < lv 65536 zs := KDt_pos dz tz (by omega)
   subst f2
   refine ⟨(W, some ⟨g1, 0, none⟩, zs.length, trim qs, (chs (lv 65536 zs % r) ++ t)), ⟨hb.trans (Below.mono hf.be (Below.size hb)), ?_, trim_dg hD.d, trim_top _, ?_, TyI.step hT h.1 h.2 hX hpos hlt⟩, ?_, Fr.rebase [(1, .vl (.int .i64 (r))), (2, .bc (BI 34) pb1 (.agg #[.bool false, .slice A xs.length c])), (6, .vl (.string (chs (lv 65536 zs % r) ++ t))), (7, .vl (.slice (some ⟨g1, 0, none⟩) (trim qs).length zs.length))] hf ⟨rfl, rfl, rfl, rfl, trivial⟩ rfl⟩
   ·injection h7 with h8 h9 h10; rw [h8]; exact rd2
   ·have := trim_len qs; have := hD.len; omega
   ·show (lv 65536 (trim qs)).toNat < (lv 65536 zs).toNat
    rw [hlt]
    have := div_lt hpos h.1
    omega
 ·have hl0 : lv 65536 zs = 0 := by rw [List.eq_nil_of_length_eq_zero (show zs.length = 0 by omega)]; rfl
  refine SC.region ?_
  refine PW.move rfl rfl rfl rfl rfl ?_
  refine PW.qn [(.tmp 20, .slice C zs.length cz)] (.int .i64 (zs.length : Int)) rfl rfl rfl ⟨rfl, trivial⟩ (fun ρ W h => by obtain ⟨h1, _⟩ := h; exact r_lenI h1) ?_
  refine PW.q2 (x := .tmp 21) (y := .const (.int .i64 0)) (.bool false) rfl rfl rfl rfl rfl (fun ρ W h1 h2 => by exact r_gt h1 h2 (decide_eq_false hz)) ?_
  refine PW.nil ?_
  refine SX.then ?_
  refine SC.cond (t := false) rfl ?_
  refine SC.exit ?_
  refine SX.thenE ?_
  refine SX.thenE ?_
  refine SX.blockE ?_
  refine SX.then ?_
  refine SC.seq ?_
  refine SC.seq ?_
  by_cases he : t.size = 0
  ·refine SC.region ?_
   refine PW.move rfl rfl rfl rfl rfl ?_
   refine PW.q2 (x := .tmp 57) (y := .const (.string ⟨#[]⟩)) (.bool true) rfl rfl rfl rfl rfl (fun ρ W h1 h2 => by exact r_seq h1 h2 ((empty_eq t).trans (decide_eq_true he))) ?_
   refine PW.nil ?_
   refine SX.then ?_
   refine SC.cond (t := true) rfl ?_
   refine SC.region ?_
   refine PW.assign rfl rfl rfl rfl rfl ?_
   refine PW.nil ?_
   refine SX.then ?_
   refine SC.seq ?_
   refine SC.seq ?_
   refine SC.region ?_
   refine PW.fac ⟨pb1, 0, none⟩ rfl rfl rfl rfl rfl facJ0 ?_
   refine PW.flc (s := 2) (.bool false) rfl rfl rfl rfl rfl rfl flcJ0 ?_
   refine PW.nil ?_
   refine SX.then ?_
   refine SC.cond (t := false) rfl ?_
   refine SC.skip ?_
   refine SX.then ?_
   refine SC.seq ?_
   refine SC.region ?_
   refine PW.move rfl rfl rfl rfl rfl ?_
   refine PW.assign rfl rfl rfl rfl rfl ?_
   refine PW.assign rfl rfl rfl rfl rfl ?_
   refine PW.nil ?_
   refine SX.then ?_
   refine SC.ret ?_
   rw [← tstr_eq h.1 (by rw [(hT.empty h.1 hl0).1 he]; exact txt_zero)]
   exact SX.done2tW (s := 4) (t := 5) (.inl rfl) rfl rfl rfl hb rfl
  ·refine SC.region ?_
   refine PW.move rfl rfl rfl rfl rfl ?_
   refine PW.q2 (x := .tmp 57) (y := .const (.string ⟨#[]⟩)) (.bool false) rfl rfl rfl rfl rfl (fun ρ W h1 h2 => by exact r_seq h1 h2 ((empty_eq t).trans (decide_eq_false he))) ?_
   refine PW.nil ?_
   refine SX.then ?_
   refine SC.cond (t := false) rfl ?_
   refine SC.skip ?_
   refine SX.then ?_
   refine SC.seq ?_
   refine SC.seq ?_
   refine SC.region ?_
   refine PW.fac ⟨pb1, 0, none⟩ rfl rfl rfl rfl rfl facJ0 ?_
   refine PW.flc (s := 2) (.bool false) rfl rfl rfl rfl rfl rfl flcJ0 ?_
   refine PW.nil ?_
   refine SX.then ?_
   refine SC.cond (t := false) rfl ?_
   refine SC.skip ?_
   refine SX.then ?_
   refine SC.seq ?_
   refine SC.region ?_
   refine PW.move rfl rfl rfl rfl rfl ?_
   refine PW.assign rfl rfl rfl rfl rfl ?_
   refine PW.assign rfl rfl rfl rfl rfl ?_
   refine PW.nil ?_
   refine SX.then ?_
   refine SC.ret ?_
   rw [← tstr_eq h.1 (hT.txt hl0 (by have := hT.empty h.1 hl0; omega))]
   exact SX.done2tW (s := 4) (t := 5) (.inl rfl) rfl rfl rfl hb rfl
theorem k_jtext {x r : Int} {a : Nat} (X : bd a x) (ha : a ≤ 1000000) (h : 2 ≤ r ∧ r ≤ 36) : CallOk 86 [KJ x, KV (.int .i64 (r))] (K2 (KV (.string (tstr r x))) (KV (.int .i64 0))) :=
 call2 ce_jtext fun W u v ⟨m, A, l, c, e1, h1⟩ e2 => by
  subst e1
  obtain rfl : v = _ := e2
  have hl := RJ.len h1 X ha
  obtain ⟨xs, rfl, hc, rd, d, e, t, hm⟩ := RJ.num h1
  have hX : (x.natAbs : Int) < 2 ^ (32 * a) := by have := bd2.1 X; omega
  by_cases hx : x < 0
  ·rw [decide_eq_true hx] at hm; subst hm; exact rtext_t rd d t (by omega) e h hX (by omega) hx
  ·rw [decide_eq_false hx] at hm; subst hm; exact rtext_f rd d t (by omega) e h hX (by omega) hx
end Go.Proofs.YthpjmhhfcechmaaGreat.Sy
/- Simplest, Cut, Parse, Text of fractions by rules. -/
set_option linter.unusedVariables false
set_option linter.unusedSimpArgs false
namespace Go.Proofs.YthpjmhhfcechmaaGreat.Sy
open Go Go.RowKit Ma
theorem k_text {x r : Int} {a : Nat} (X : bd a x) (ha : a ≤ 300000) (h : 2 ≤ r ∧ r ≤ 36) : CallOk 85 [KI x, KV (.int .i64 r)] (K2 (KV (.string (tstr r x))) (KV (.int .i64 0))) :=
 call2 (fun args W => by go_simp) fun W u v ⟨n, A, l, c, e1, h1⟩ e2 => by
  subst e1
  obtain rfl : v = _ := e2
  refine (text_ok r h.1 h.2 h1 (by have := h1.le X ha; omega)).mono fun e W' ⟨v, q1, q2, q3⟩ => ⟨v, q1, ?_, q3⟩
  obtain ⟨a, b, rfl, ⟨s, rfl, hs⟩, hb⟩ := q2
  exact ⟨_, _, rfl, congrArg Value.string (tstr_eq h.1 hs), hb⟩
theorem k_text_bad {x r : Int} (h : ¬ (2 ≤ r ∧ r ≤ 36)) : CallOk 85 [KI x, KV (.int .i64 r)] (K2 (KV (.string ⟨#[]⟩)) (KV (.int .i64 1))) :=
 call2 (fun args W => by go_simp) fun W u v ⟨n, A, l, c, e1, h1⟩ e2 => by
  subst e1
  obtain rfl : v = _ := e2
  refine (text_bad (x := x) r h).mono fun e W' ⟨v, q1, q2, q3⟩ => ⟨v, q1, ?_, q3⟩
  obtain rfl : v = _ := q2
  exact ⟨_, _, rfl, rfl, rfl⟩
theorem pv_lt {r : Int} (hr : 2 ≤ r) (hr2 : r ≤ 36) : ∀ (l : List Int) (v : Int), 0 ≤ v → (∀ c ∈ l, dv c < r) → 0 ≤ pv r v l ∧ pv r v l < (v + 1) * 64 ^ l.length
 | [], v, h, _ => by simp [pv]; omega
 | c :: l, v, h, hd => by
  have a1 := dv_le c
  have a2 := hd c List.mem_cons_self
  have a3 : v * r ≤ v * 63 := Int.mul_le_mul_of_nonneg_left (by omega) h
  have a4 : 0 ≤ v * r := Int.mul_nonneg h (by omega)
  have ⟨b1, b2⟩ := pv_lt hr hr2 l (v * r + dv c) (by omega) fun x hx => hd x (List.mem_cons_of_mem _ hx)
  refine ⟨b1, Int.lt_of_lt_of_le b2 ?_⟩
  rw [List.length_cons, Int.pow_succ, Int.mul_comm _ (64 : Int), ← Int.mul_assoc]
  exact Int.mul_le_mul_of_nonneg_right (by omega) (Int.le_of_lt (Int.pow_pos (by decide)))
theorem parse_err {r : Int} {s : List Int} (h : ¬ ∃ z, parseR r s = .ok z) : ∃ e, parseR r s = .error e := by
 cases e0 : parseR r s with
 | ok z => exact absurd ⟨z, e0⟩ h
 | error e => exact ⟨e, rfl⟩
theorem ex31v {v : Value} {k1 k3 : Know} : Ex (K3 k1 (KV v) k3) 1 (.vl v) := fun u W ⟨v1, v2, v3, e, h1, h2, h3⟩ => ⟨_, v2, e, rfl, h2⟩
theorem bsz1 : (⟨#[47]⟩ : ByteArray).size = 1 := rfl
def cutI (s : ByteArray) : Int := Lib.indexByte s.data.toList 47
theorem cut_cases (s : ByteArray) : cutI s = -1 ∨ ∃ i : Nat, cutI s = (i : Int) ∧ i < s.size := by
 have h := Lib.indexByte_ge s.data.toList 47
 by_cases e : cutI s = -1
 ·exact .inl e
 ·right
  have h0 : 0 ≤ cutI s := by unfold cutI at *; omega
  refine ⟨(cutI s).toNat, (Int.toNat_of_nonneg h0).symm, ?_⟩
  have h1 : Lib.indexByte s.data.toList 47 = ((cutI s).toNat : Int) := (Int.toNat_of_nonneg h0).symm
  have := (List.getElem?_eq_some_iff.1 (Lib.indexByte_some h1).1).1
  simpa using this
theorem ext_size (s : ByteArray) (a b : Nat) : (s.extract a b).size = min b s.size - a := by simp
theorem k_index1 {s : ByteArray} {r : Int} (e : cutI s = r) : CallOk 151 [KV (.string s), KV (.string ⟨#[47]⟩)] (KV (.int .i64 r)) :=
 call2 (fun args W => by go_simp) fun W u v e1 e2 => by
  obtain rfl : u = _ := e1
  obtain rfl : v = _ := e2
  subst e
  exact (Tryz.stringslite_Index_one s 47 W).mono fun e W' ⟨e1, e2⟩ => ⟨_, e1, rfl, e2 ▸ Nw.refl _⟩
theorem r_sto {x y : Operand} {dst : Option Tmp} {ty : TypeId} {pos : String} {after : Array Edge} {guard : Option (Nat × Bool)} {ρ : Operand → Value} {W : World} {s : ByteArray} {p : Nat} (h1 : ρ x = .string s) (h2 : ρ y = .int .i64 (p : Int)) (hp : p ≤ s.size) : (execOp ρ ⟨dst, .slice 9 x none (some y) none, ty, pos, after, guard⟩).run Tryz.prog W = .ok (.value (.string (s.extract 0 p))) W := by
 go_simp
section
variable {x y : Operand} {dst : Option Tmp} {ty : TypeId} {pos : String} {after : Array Edge} {guard : Option (Nat × Bool)} {ρ : Operand → Value} {W : World} {a b : Int}
theorem r_neE (h1 : ρ x = .int .i64 a) (h2 : ρ y = .int .i64 b) (e : a ≠ b) : (execOp ρ ⟨dst, .binOp .neq 39 x y 39, ty, pos, after, guard⟩).run Tryz.prog W = .ok (.value (.bool true)) W := by
 go_simp
end
theorem SX.done3v {fn : Func} {B N : Nat} {w0 : World} {fr : List (Nat × AV)} {e : Exit} {s t u : Nat} {v1 v2 v3 : Value} (he : e = .ret ∨ e = .normal) (hr : fn.results = #[.tmp s, .tmp t, .tmp u]) (hs : look fr s = some (.vl v1)) (ht : look fr t = some (.vl v2)) (hu : look fr u = some (.vl v3)) (hB : B = w0.heap.size) : SX B N w0 e fr (bodyPost Tryz.prog fn (Ret w0 (K3 (KV v1) (KV v2) (KV v3)))) := fun a W hf => by
 have h1 : a.tmps.getD s undef = v1 := hf.ho s _ hs
 have h2 : a.tmps.getD t undef = v2 := hf.ho t _ ht
 have h3 : a.tmps.getD u undef = v3 := hf.ho u _ hu
 have hrun : (results fn a.tmps).run Tryz.prog W = .ok (.tuple #[v1, v2, v3]) W := by
  have e1 : a.tmps[s]?.getD undef = v1 := by simpa [Array.getD_eq_getD_getElem?] using h1
  have e2 : a.tmps[t]?.getD undef = v2 := by simpa [Array.getD_eq_getD_getElem?] using h2
  have e3 : a.tmps[u]?.getD undef = v3 := by simpa [Array.getD_eq_getD_getElem?] using h3
  unfold results
  simp [hr, go_sem, e1, e2, e3]
 have key : a.defers = [] ∧ ∃ v, (results fn a.tmps).run Tryz.prog W = .ok v W ∧ Ret w0 (K3 (KV v1) (KV v2) (KV v3)) (.returned v) W :=
  ⟨hf.df, _, hrun, ⟨_, rfl, ⟨v1, v2, v3, rfl, rfl, rfl, rfl⟩, by have := hf.be; rw [hB] at this; exact this⟩⟩
 rcases he with rfl | rfl <;> exact key
theorem SX.done2v {fn : Func} {B N : Nat} {w0 : World} {fr : List (Nat × AV)} {e : Exit} {s t : Nat} {v1 v2 : Value} (he : e = .ret ∨ e = .normal) (hr : fn.results = #[.tmp s, .tmp t]) (hs : look fr s = some (.vl v1)) (ht : look fr t = some (.vl v2)) (hB : B = w0.heap.size) : SX B N w0 e fr (bodyPost Tryz.prog fn (Ret w0 (K2 (KV v1) (KV v2)))) := SX.done2t he hr hs ht hB
theorem parse_ne {r e : Int} {s : List Int} (h : parseR r s = .error e) : e ≠ 0 := by
 unfold parseR at h
 split at h
 ·injection h with h; omega
 split at h
 ·injection h with h; omega
 dsimp only at h
 generalize (if at0 s 0 = 45 ∨ at0 s 0 = 43 then s.drop 1 else s) = b at h
 split at h
 ·injection h with h; omega
 split at h
 ·cases h
 ·injection h with h; omega
theorem pow_le_base {r : Int} (h : 2 ≤ r) : ∀ n : Nat, (2 : Int) ^ n ≤ r ^ n
 | 0 => by simp
 | n + 1 => by
  rw [Int.pow_succ, Int.pow_succ]
  exact Int.mul_le_mul (pow_le_base h n) h (by decide) (Int.pow_nonneg (by omega))
theorem parse_bd9 {r z : Int} {s : ByteArray} (h : parseR r (byl s) = .ok z) {n m : Nat} (hs : s.size ≤ n) (h6 : 6 * n < 32 * m) (hn2 : n ≤ 20000) : bd m z := by
 unfold parseR at h
 have h1 : 2 ≤ r ∧ r ≤ 36 := by
  apply Classical.byContradiction
  intro hn
  rw [if_pos hn] at h
  cases h
 rw [if_neg (fun x => x h1), if_neg (by rw [byl_len]; omega)] at h
 dsimp only at h
 generalize hb : (if at0 (byl s) 0 = 45 ∨ at0 (byl s) 0 = 43 then (byl s).drop 1 else byl s) = b at h
 have hbl : b.length ≤ n := by
  have := byl_len s
  rw [← hb]
  split
  ·rw [List.length_drop]; omega
  ·omega
 split at h
 ·cases h
 split at h
 ·rename_i h3
  injection h with h
  have ⟨b1, b2⟩ := pv_lt h1.1 h1.2 b 0 (by omega) (fun c hc => by have := List.all_eq_true.1 h3 c hc; simpa using this)
  have b3 := pow_le (b := 64) (by decide) hbl
  rw [bd2]
  have b4 : (64 : Int) ^ n < 2 ^ (32 * m) := by
   rw [show (64 : Int) = 2 ^ 6 by decide, ← Int.pow_mul]
   exact Int.pow_lt_pow_of_lt (by decide) h6
  rw [← h]
  unfold sg
  generalize (2 : Int) ^ (32 * m) = P at *
  generalize (64 : Int) ^ n = P2 at *
  split <;> omega
 ·cases h
def parseQ (r : Int) (s : ByteArray) : Except Int Rat :=
 if ¬ (2 ≤ r ∧ r ≤ 36) then .error 1
 else if 20000 < s.size then .error 14
 else if cutI s = -1 then match parseR r (byl s) with
  | .ok n => .ok (n : Rat)
  | .error e => .error e
 else match parseR r (byl (s.extract 0 (cutI s).toNat)) with
  | .error e => .error e
  | .ok n => if (0 < (s.extract ((cutI s).toNat + 1) s.size).size ∧ at0 (byl (s.extract ((cutI s).toNat + 1) s.size)) 0 = 43) ∨ (0 < (s.extract ((cutI s).toNat + 1) s.size).size ∧ at0 (byl (s.extract ((cutI s).toNat + 1) s.size)) 0 = 45) then .error 2
   else match parseR r (byl (s.extract ((cutI s).toNat + 1) s.size)) with
    | .error e => .error e
    | .ok d => if d = 0 then .error 6 else .ok (Rat.divInt n d)
theorem parseQ_radix {r : Int} {s : ByteArray} (h : ¬ (2 ≤ r ∧ r ≤ 36)) : parseQ r s = .error 1 := if_pos h
theorem parseQ_long {r : Int} {s : ByteArray} (h : 2 ≤ r ∧ r ≤ 36) (hl : 20000 < s.size) : parseQ r s = .error 14 := by unfold parseQ; rw [if_neg (fun x => x h), if_pos hl]
theorem parseQ_no {r : Int} {s : ByteArray} (h : 2 ≤ r ∧ r ≤ 36) (hl : ¬ 20000 < s.size) (hi : cutI s = -1) : parseQ r s = match parseR r (byl s) with
  | .ok n => .ok (n : Rat)
  | .error e => .error e := by unfold parseQ; rw [if_neg (fun x => x h), if_neg hl, if_pos hi]
theorem parseQ_yes {r : Int} {s : ByteArray} {i : Nat} (h : 2 ≤ r ∧ r ≤ 36) (hl : ¬ 20000 < s.size) (hi : cutI s = (i : Int)) : parseQ r s = match parseR r (byl (s.extract 0 i)) with
  | .error e => .error e
  | .ok n => if (0 < (s.extract (i + 1) s.size).size ∧ at0 (byl (s.extract (i + 1) s.size)) 0 = 43) ∨ (0 < (s.extract (i + 1) s.size).size ∧ at0 (byl (s.extract (i + 1) s.size)) 0 = 45) then .error 2
   else match parseR r (byl (s.extract (i + 1) s.size)) with
    | .error e => .error e
    | .ok d => if d = 0 then .error 6 else .ok (Rat.divInt n d) := by
 unfold parseQ
 rw [if_neg (fun x => x h), if_neg hl, if_neg (by omega), hi]
 rfl
theorem parseQ_n1 {r : Int} {s : ByteArray} {n : Int} (h : 2 ≤ r ∧ r ≤ 36) (hl : ¬ 20000 < s.size) (hi : cutI s = -1) (hn : parseR r (byl s) = .ok n) : parseQ r s = .ok (n : Rat) := (parseQ_no h hl hi).trans (by rw [hn])
theorem parseQ_n2 {r : Int} {s : ByteArray} {e : Int} (h : 2 ≤ r ∧ r ≤ 36) (hl : ¬ 20000 < s.size) (hi : cutI s = -1) (hn : parseR r (byl s) = .error e) : parseQ r s = .error e := (parseQ_no h hl hi).trans (by rw [hn])
theorem parseQ_y1 {r : Int} {s : ByteArray} {i : Nat} {e : Int} (h : 2 ≤ r ∧ r ≤ 36) (hl : ¬ 20000 < s.size) (hi : cutI s = (i : Int)) (hn : parseR r (byl (s.extract 0 i)) = .error e) : parseQ r s = .error e := (parseQ_yes h hl hi).trans (by rw [hn])
theorem parseQ_y2 {r : Int} {s : ByteArray} {i : Nat} {n : Int} (h : 2 ≤ r ∧ r ≤ 36) (hl : ¬ 20000 < s.size) (hi : cutI s = (i : Int)) (hn : parseR r (byl (s.extract 0 i)) = .ok n) (hs : (0 < (s.extract (i + 1) s.size).size ∧ at0 (byl (s.extract (i + 1) s.size)) 0 = 43) ∨ (0 < (s.extract (i + 1) s.size).size ∧ at0 (byl (s.extract (i + 1) s.size)) 0 = 45)) : parseQ r s = .error 2 := (parseQ_yes h hl hi).trans (by rw [hn]; exact if_pos hs)
theorem parseQ_y3 {r : Int} {s : ByteArray} {i : Nat} {n e : Int} (h : 2 ≤ r ∧ r ≤ 36) (hl : ¬ 20000 < s.size) (hi : cutI s = (i : Int)) (hn : parseR r (byl (s.extract 0 i)) = .ok n) (hs : ¬ ((0 < (s.extract (i + 1) s.size).size ∧ at0 (byl (s.extract (i + 1) s.size)) 0 = 43) ∨ (0 < (s.extract (i + 1) s.size).size ∧ at0 (byl (s.extract (i + 1) s.size)) 0 = 45))) (hd : parseR r (byl (s.extract (i + 1) s.size)) = .error e) : parseQ r s = .error e := (parseQ_yes h hl hi).trans (by rw [hn]; refine (if_neg hs).trans ?_; rw [hd])
theorem parseQ_y4 {r : Int} {s : ByteArray} {i : Nat} {n d : Int} (h : 2 ≤ r ∧ r ≤ 36) (hl : ¬ 20000 < s.size) (hi : cutI s = (i : Int)) (hn : parseR r (byl (s.extract 0 i)) = .ok n) (hs : ¬ ((0 < (s.extract (i + 1) s.size).size ∧ at0 (byl (s.extract (i + 1) s.size)) 0 = 43) ∨ (0 < (s.extract (i + 1) s.size).size ∧ at0 (byl (s.extract (i + 1) s.size)) 0 = 45))) (hd : parseR r (byl (s.extract (i + 1) s.size)) = .ok d) (h0 : d = 0) : parseQ r s = .error 6 := (parseQ_yes h hl hi).trans (by rw [hn]; refine (if_neg hs).trans ?_; rw [hd]; exact if_pos h0)
theorem parseQ_y5 {r : Int} {s : ByteArray} {i : Nat} {n d : Int} (h : 2 ≤ r ∧ r ≤ 36) (hl : ¬ 20000 < s.size) (hi : cutI s = (i : Int)) (hn : parseR r (byl (s.extract 0 i)) = .ok n) (hs : ¬ ((0 < (s.extract (i + 1) s.size).size ∧ at0 (byl (s.extract (i + 1) s.size)) 0 = 43) ∨ (0 < (s.extract (i + 1) s.size).size ∧ at0 (byl (s.extract (i + 1) s.size)) 0 = 45))) (hd : parseR r (byl (s.extract (i + 1) s.size)) = .ok d) (h0 : ¬ d = 0) : parseQ r s = .ok (Rat.divInt n d) := (parseQ_yes h hl hi).trans (by rw [hn]; refine (if_neg hs).trans ?_; rw [hd]; exact if_neg h0)
noncomputable def txq (r : Int) (x : Rat) : ByteArray := if x.den = 1 then tstr r x.num else tstr r x.num ++ ⟨#[47]⟩ ++ tstr r (x.den : Int)
theorem txq_whole {r : Int} {x : Rat} (h : x.den = 1) : txq r x = tstr r x.num := if_pos h
theorem txq_frac {r : Int} {x : Rat} (h : ¬ x.den = 1) : txq r x = tstr r x.num ++ ⟨#[47]⟩ ++ tstr r (x.den : Int) := if_neg h
theorem tstr_size {r z : Int} {a : Nat} (hr : 2 ≤ r) (h : bd a z) : (tstr r z).size ≤ 32 * a + 2 := by
 unfold tstr
 split
 ·rename_i hex
  obtain ⟨ds, d1, d2, d3, d4⟩ := Classical.choose_spec hex
  generalize Classical.choose hex = t at *
  have hl : t.size = (byl t).length := (byl_len t).symm
  have d4 : byl t = _ := d4
  have hd : ds.length ≤ 32 * a := by
   apply Classical.byContradiction
   intro hn
   have hne : ds ≠ [] := fun e => by rw [e] at hn; simp at hn
   have h1 := top_le (by omega) d1 d2 hne
   have h2 := pow_le_base (show (2 : Int) ≤ r by omega) (ds.length - 1)
   have h3 := pow_le (b := 2) (by decide) (show 32 * a ≤ ds.length - 1 by omega)
   have h4 := bd2.1 h
   omega
  rw [hl, d4]
  by_cases hz : z = 0
  ·rw [if_pos hz]; show 1 ≤ _; omega
  ·rw [if_neg hz]
   by_cases hn : z < 0
   ·rw [if_pos hn]; simp; omega
   ·rw [if_neg hn]; simp; omega
 ·exact Nat.zero_le _
theorem ce_Simplest : CE 32 := fun args W => by go_simp
set_option maxHeartbeats 3200000 in
set_option maxRecDepth 100000 in
theorem k_Simplest_pos {x y : Rat} {m : Nat} (X : bq m x) (Y : bq m y) (hm : m ≤ 1000) (h : x ≤ y) (hx : 0 < sgq x) {z : Rat} {L : List Int} (hb : ∀ i, bd (m + 1) (at0 L i)) (hT : (m + 4) * L.length ≤ 40000) (hl : L.length ≤ 1000000) (hc0 : ctrR L = .ok z) (hS : Smp x y L) : CallOk 32 [KQ (x).num (((x).den : Int) - 1), KQ (y).num (((y).den : Int) - 1)] (K2 (KQ (z).num (((z).den : Int) - 1)) (KV (.int .i64 0))) := by
 refine CallOk.enter (l := [.kw (KQ (x).num (((x).den : Int) - 1)), .kw (KQ (y).num (((y).den : Int) - 1))]) 35 ce_Simplest Tryz.func32 rfl Tryz.ntmps32 (by simp) ⟨(KQ.st _ _), rfl, (KQ.st _ _), rfl, trivial⟩ fun w => ?_
 refine SC.seq ?_
 refine SC.region ?_
 refine PW.box (x := .tmp 0) (r := .kw (KQ (x).num (((x).den : Int) - 1))) (BQ 38) rfl rfl rfl rfl rfl bQ rfl sh_Q ?_
 refine PW.box (x := .tmp 1) (r := .kw (KQ (y).num (((y).den : Int) - 1))) (BQ 38) rfl rfl rfl rfl rfl bQ rfl sh_Q ?_
 refine PW.alloc (BQ 38) rfl rfl rfl rfl rfl bQ ?_
 refine PW.assign rfl rfl rfl rfl rfl ?_
 refine PW.nil ?_
 refine SX.then ?_
 refine SC.seq ?_
 refine SC.block ?_
 refine SC.seq ?_
 refine SC.region ?_
 refine PW.load rfl rfl rfl rfl rfl rfl ?_
 refine PW.load rfl rfl rfl rfl rfl rfl ?_
 refine PW.call (r := .vl (.int .i64 (cmpq x y))) rfl rfl rfl rfl rfl rfl (KV.st _) rfl (k_rcmp X Y (by first | decide | omega) (by first | decide | omega)) ?_
 refine PW.q2 (x := .tmp 9) (y := .const (.int .i64 0)) (.bool false) rfl rfl rfl rfl rfl (fun ρ W h1 h2 => by exact r_gt h1 h2 (decide_eq_false (by have := cmpq_le.2 h; omega))) ?_
 refine PW.assign rfl rfl rfl rfl rfl ?_
 refine PW.nil ?_
 refine SX.then ?_
 refine SC.cond (t := false) rfl ?_
 refine SC.seq ?_
 refine SC.region ?_
 refine PW.load rfl rfl rfl rfl rfl rfl ?_
 refine PW.call (r := .vl (.int .i64 (sgq x))) rfl rfl rfl rfl rfl rfl (KV.st _) rfl (k_rsign) ?_
 refine PW.q2 (x := .tmp 14) (y := .const (.int .i64 0)) (.bool false) rfl rfl rfl rfl rfl (fun ρ W h1 h2 => by exact r_le h1 h2 (decide_eq_false (by omega))) ?_
 refine PW.move rfl rfl rfl rfl rfl ?_
 refine PW.skip rfl rfl rfl ?_
 refine PW.skip rfl rfl rfl ?_
 refine PW.skip rfl rfl rfl ?_
 refine PW.pick (t := false) rfl rfl rfl rfl rfl rfl ?_
 refine PW.assign rfl rfl rfl rfl rfl ?_
 refine PW.nil ?_
 refine SX.then ?_
 refine SC.cond (t := false) rfl ?_
 refine SC.seq ?_
 refine SC.region ?_
 refine PW.load rfl rfl rfl rfl rfl rfl ?_
 refine PW.call (r := .vl (.int .i64 (sgq x))) rfl rfl rfl rfl rfl rfl (KV.st _) rfl (k_rsign) ?_
 refine PW.q2 (x := .tmp 24) (y := .const (.int .i64 0)) (.bool false) rfl rfl rfl rfl rfl (fun ρ W h1 h2 => by exact r_lt h1 h2 (decide_eq_false (by omega))) ?_
 refine PW.assign rfl rfl rfl rfl rfl ?_
 refine PW.nil ?_
 refine SX.then ?_
 refine SC.cond (t := false) rfl ?_
 refine SC.skip ?_
 refine SX.blockN ?_
 refine SX.then ?_
 refine SC.seq ?_
 refine SC.region ?_
 refine PW.load rfl rfl rfl rfl rfl rfl ?_
 refine PW.load rfl rfl rfl rfl rfl rfl ?_
 refine PW.call (r := .kw (KQ (z).num (((z).den : Int) - 1))) rfl rfl rfl rfl rfl rfl (KQ.st _ _) rfl (k_simplest X Y h hS hb hT hm hl hc0) ?_
 refine PW.store (x := .tmp 34) (r := .kw (KQ (z).num (((z).den : Int) - 1))) rfl rfl rfl rfl rfl rfl sh_Q ?_
 refine PW.assign rfl rfl rfl rfl rfl ?_
 refine PW.nil ?_
 refine SX.then ?_
 refine SC.ret ?_
 exact SX.done2 (s := 4) (t := 5) (r := .vl (.int .i64 0)) (.inl rfl) rfl rfl rfl rfl
theorem ce_slcut : CE 127 := fun args W => by go_simp
theorem ce_cut : CE 87 := fun args W => by go_simp
set_option maxHeartbeats 3200000 in
set_option maxRecDepth 100000 in
theorem k_slcut_yes {s : ByteArray} {i : Nat} (hi : cutI s = (i : Int)) (hs : i < s.size) (hz : s.size ≤ 20000) : CallOk 127 [KV (.string s), KV (.string ⟨#[47]⟩)] (K3 (KV (.string (s.extract 0 i))) (KV (.string (s.extract (i + 1) s.size))) (KV (.bool true))) := by
 refine CallOk.enter (l := [.vl (.string s), .vl (.string ⟨#[47]⟩)]) 23 ce_slcut Tryz.func127 rfl Tryz.ntmps127 (by simp) ⟨(KV.st _), rfl, (KV.st _), rfl, trivial⟩ fun w => ?_
 refine SC.seq ?_
 refine SC.region ?_
 refine PW.assign rfl rfl rfl rfl rfl ?_
 refine PW.assign rfl rfl rfl rfl rfl ?_
 refine PW.assign rfl rfl rfl rfl rfl ?_
 refine PW.nil ?_
 refine SX.then ?_
 refine SC.seq ?_
 refine SC.seq ?_
 refine SC.region ?_
 refine PW.move rfl rfl rfl rfl rfl ?_
 refine PW.move rfl rfl rfl rfl rfl ?_
 refine PW.call (r := .vl (.int .i64 ((i : Int)))) rfl rfl rfl rfl rfl rfl (KV.st _) rfl (k_index1 hi) ?_
 refine PW.assign rfl rfl rfl rfl rfl ?_
 refine PW.nil ?_
 refine SX.then ?_
 refine SC.seq ?_
 refine SC.region ?_
 refine PW.move rfl rfl rfl rfl rfl ?_
 refine PW.q2 (x := .tmp 11) (y := .const (.int .i64 0)) (.bool true) rfl rfl rfl rfl rfl (fun ρ W h1 h2 => by exact r_ge h1 h2 (decide_eq_true (by omega))) ?_
 refine PW.nil ?_
 refine SX.then ?_
 refine SC.cond (t := true) rfl ?_
 refine SC.seq ?_
 refine SC.dx [.val 13 (.vl (.string s)), .val 14 (.vl (.int .i64 ((i : Int)))), .val 15 (.vl (.string (s.extract 0 i))), .val 16 (.vl (.string s)), .val 17 (.vl (.int .i64 ((i : Int)))), .val 18 (.vl (.string ⟨#[47]⟩)), .val 19 (.vl (.int .i64 (1))), .val 20 (.vl (.int .i64 (((i + 1 : Nat) : Int)))), .val 21 (.vl (.string (s.extract (i + 1) s.size))), .val 4 (.vl (.string (s.extract 0 i))), .val 5 (.vl (.string (s.extract (i + 1) s.size))), .val 6 (.vl (.bool true))] [([], [0]), ([], [7]), ([0, 1], []), ([], [0]), ([], [7]), ([], [1]), ([5], []), ([4, 6], []), ([3, 7], []), ([2], []), ([8], []), ([], [])] rfl (by kernel_rfl) (by kernel_rfl) (by kernel_rfl) rfl ⟨?_, ?_, ?_, ?_, ?_, ?_, ?_, ?_, ?_, ?_, ?_, ?_, trivial⟩ ?_
 ·exact DX.move rfl rfl rfl rfl rfl rfl
 ·exact DX.move rfl rfl rfl rfl rfl rfl
 ·exact DX.qn [(.tmp 13, .string s), (.tmp 14, .int .i64 ((i : Int)))] (.string (s.extract 0 i)) rfl rfl rfl ⟨rfl, rfl, trivial⟩ (fun ρ W h => by obtain ⟨h1, h2, _⟩ := h; exact r_sto h1 h2 (by omega))
 ·exact DX.move rfl rfl rfl rfl rfl rfl
 ·exact DX.move rfl rfl rfl rfl rfl rfl
 ·exact DX.move rfl rfl rfl rfl rfl rfl
 ·exact DX.qn [(.tmp 18, .string ⟨#[47]⟩)] (.int .i64 (1)) rfl rfl rfl ⟨rfl, trivial⟩ (fun ρ W h => by obtain ⟨h1, _⟩ := h; first | (exact r_slen h1) | (go_simp; done) | (go_simp; rfl))
 ·exact DX.q2 (x := .tmp 17) (y := .tmp 19) (.int .i64 (((i + 1 : Nat) : Int))) rfl rfl rfl rfl rfl (fun ρ W h1 h2 => by exact r_add h1 h2 (by omega) (by omega))
 ·exact DX.qn [(.tmp 16, .string s), (.tmp 20, .int .i64 (((i + 1 : Nat) : Int)))] (.string (s.extract (i + 1) s.size)) rfl rfl rfl ⟨rfl, rfl, trivial⟩ (fun ρ W h => by obtain ⟨h1, h2, _⟩ := h; exact r_sfrom h1 h2 (by omega))
 ·exact DX.assign rfl rfl rfl rfl rfl rfl
 ·exact DX.assign rfl rfl rfl rfl rfl rfl
 ·exact DX.assign rfl rfl rfl rfl rfl rfl
 refine SX.then ?_
 refine SC.ret ?_
 refine SX.thenR ?_
 exact SX.done3v (s := 4) (t := 5) (u := 6) (.inl rfl) rfl rfl rfl rfl rfl
set_option maxHeartbeats 3200000 in
set_option maxRecDepth 100000 in
theorem k_slcut_no {s : ByteArray} (hi : cutI s = -1) : CallOk 127 [KV (.string s), KV (.string ⟨#[47]⟩)] (K3 (KV (.string s)) (KV (.string ⟨#[]⟩)) (KV (.bool false))) := by
 refine CallOk.enter (l := [.vl (.string s), .vl (.string ⟨#[47]⟩)]) 23 ce_slcut Tryz.func127 rfl Tryz.ntmps127 (by simp) ⟨(KV.st _), rfl, (KV.st _), rfl, trivial⟩ fun w => ?_
 refine SC.seq ?_
 refine SC.region ?_
 refine PW.assign rfl rfl rfl rfl rfl ?_
 refine PW.assign rfl rfl rfl rfl rfl ?_
 refine PW.assign rfl rfl rfl rfl rfl ?_
 refine PW.nil ?_
 refine SX.then ?_
 refine SC.seq ?_
 refine SC.seq ?_
 refine SC.region ?_
 refine PW.move rfl rfl rfl rfl rfl ?_
 refine PW.move rfl rfl rfl rfl rfl ?_
 refine PW.call (r := .vl (.int .i64 (-1))) rfl rfl rfl rfl rfl rfl (KV.st _) rfl (k_index1 hi) ?_
 refine PW.assign rfl rfl rfl rfl rfl ?_
 refine PW.nil ?_
 refine SX.then ?_
 refine SC.seq ?_
 refine SC.region ?_
 refine PW.move rfl rfl rfl rfl rfl ?_
 refine PW.q2 (x := .tmp 11) (y := .const (.int .i64 0)) (.bool false) rfl rfl rfl rfl rfl (fun ρ W h1 h2 => by exact r_ge h1 h2 (decide_eq_false (by omega))) ?_
 refine PW.nil ?_
 refine SX.then ?_
 refine SC.cond (t := false) rfl ?_
 refine SC.skip ?_
 refine SX.then ?_
 refine SC.seq ?_
 refine SC.region ?_
 refine PW.move rfl rfl rfl rfl rfl ?_
 refine PW.assign rfl rfl rfl rfl rfl ?_
 refine PW.assign rfl rfl rfl rfl rfl ?_
 refine PW.assign rfl rfl rfl rfl rfl ?_
 refine PW.nil ?_
 refine SX.then ?_
 refine SC.ret ?_
 exact SX.done3v (s := 4) (t := 5) (u := 6) (.inl rfl) rfl rfl rfl rfl rfl
set_option maxHeartbeats 3200000 in
set_option maxRecDepth 100000 in
theorem k_cut_yes {s : ByteArray} {i : Nat} (hi : cutI s = (i : Int)) (hs : i < s.size) (hz : s.size ≤ 20000) : CallOk 87 [KV (.string s), KV (.string ⟨#[47]⟩)] (K3 (KV (.string (s.extract 0 i))) (KV (.string (s.extract (i + 1) s.size))) (KV (.bool true))) := by
 refine CallOk.enter (l := [.vl (.string s), .vl (.string ⟨#[47]⟩)]) 13 ce_cut Tryz.func87 rfl Tryz.ntmps87 (by simp) ⟨(KV.st _), rfl, (KV.st _), rfl, trivial⟩ fun w => ?_
 refine SC.seq ?_
 refine SC.region ?_
 refine PW.assign rfl rfl rfl rfl rfl ?_
 refine PW.assign rfl rfl rfl rfl rfl ?_
 refine PW.assign rfl rfl rfl rfl rfl ?_
 refine PW.nil ?_
 refine SX.then ?_
 refine SC.seq ?_
 refine SC.region ?_
 refine PW.move rfl rfl rfl rfl rfl ?_
 refine PW.move rfl rfl rfl rfl rfl ?_
 refine PW.call (r := .kw (K3 (KV (.string (s.extract 0 i))) (KV (.string (s.extract (i + 1) s.size))) (KV (.bool true)))) rfl rfl rfl rfl rfl rfl (K3.st (KV.st _) (KV.st _) (KV.st _)) rfl (k_slcut_yes hi hs hz) ?_
 refine PW.ext (r := .vl (.string (s.extract 0 i))) rfl rfl rfl rfl rfl ex30v (KV.st _) rfl ?_
 refine PW.ext (r := .vl (.string (s.extract (i + 1) s.size))) rfl rfl rfl rfl rfl ex31v (KV.st _) rfl ?_
 refine PW.ext (r := .vl (.bool true)) rfl rfl rfl rfl rfl ex32v (KV.st _) rfl ?_
 refine PW.assign rfl rfl rfl rfl rfl ?_
 refine PW.assign rfl rfl rfl rfl rfl ?_
 refine PW.assign rfl rfl rfl rfl rfl ?_
 refine PW.nil ?_
 refine SX.then ?_
 refine SC.ret ?_
 exact SX.done3v (s := 4) (t := 5) (u := 6) (.inl rfl) rfl rfl rfl rfl rfl
set_option maxHeartbeats 3200000 in
set_option maxRecDepth 100000 in
theorem k_cut_no {s : ByteArray} (hi : cutI s = -1) : CallOk 87 [KV (.string s), KV (.string ⟨#[47]⟩)] (K3 (KV (.string s)) (KV (.string ⟨#[]⟩)) (KV (.bool false))) := by
 refine CallOk.enter (l := [.vl (.string s), .vl (.string ⟨#[47]⟩)]) 13 ce_cut Tryz.func87 rfl Tryz.ntmps87 (by simp) ⟨(KV.st _), rfl, (KV.st _), rfl, trivial⟩ fun w => ?_
 refine SC.seq ?_
 refine SC.region ?_
 refine PW.assign rfl rfl rfl rfl rfl ?_
 refine PW.assign rfl rfl rfl rfl rfl ?_
 refine PW.assign rfl rfl rfl rfl rfl ?_
 refine PW.nil ?_
 refine SX.then ?_
 refine SC.seq ?_
 refine SC.region ?_
 refine PW.move rfl rfl rfl rfl rfl ?_
 refine PW.move rfl rfl rfl rfl rfl ?_
 refine PW.call (r := .kw (K3 (KV (.string s)) (KV (.string ⟨#[]⟩)) (KV (.bool false)))) rfl rfl rfl rfl rfl rfl (K3.st (KV.st _) (KV.st _) (KV.st _)) rfl (k_slcut_no hi) ?_
 refine PW.ext (r := .vl (.string s)) rfl rfl rfl rfl rfl ex30v (KV.st _) rfl ?_
 refine PW.ext (r := .vl (.string ⟨#[]⟩)) rfl rfl rfl rfl rfl ex31v (KV.st _) rfl ?_
 refine PW.ext (r := .vl (.bool false)) rfl rfl rfl rfl rfl ex32v (KV.st _) rfl ?_
 refine PW.assign rfl rfl rfl rfl rfl ?_
 refine PW.assign rfl rfl rfl rfl rfl ?_
 refine PW.assign rfl rfl rfl rfl rfl ?_
 refine PW.nil ?_
 refine SX.then ?_
 refine SC.ret ?_
 exact SX.done3v (s := 4) (t := 5) (u := 6) (.inl rfl) rfl rfl rfl rfl rfl
theorem ce_qparse : CE 29 := fun args W => by go_simp
set_option maxHeartbeats 6400000 in
set_option maxRecDepth 100000 in
theorem k_qparse_radix {s : ByteArray} {r : Int} (h : ¬ (2 ≤ r ∧ r ≤ 36)) : CallOk 29 [KV (.string s), KV (.int .i64 (r))] (KPR (parseQ r s)) := by
 refine CallOk.enter (l := [.vl (.string s), .vl (.int .i64 (r))]) 68 ce_qparse Tryz.func29 rfl Tryz.ntmps29 (by simp) ⟨(KV.st _), rfl, (KV.st _), rfl, trivial⟩ fun w => ?_
 refine SC.seq ?_
 refine SC.region ?_
 refine PW.alloc (BQ 38) rfl rfl rfl rfl rfl bQ ?_
 refine PW.assign rfl rfl rfl rfl rfl ?_
 refine PW.nil ?_
 refine SX.then ?_
 refine SC.seq ?_
 refine SC.block ?_
 refine SC.seq ?_
 by_cases hr2 : r < 2
 ·refine SC.region ?_
  refine PW.move rfl rfl rfl rfl rfl ?_
  refine PW.q2 (x := .tmp 13) (y := .const (.int .i64 2)) (.bool true) rfl rfl rfl rfl rfl (fun ρ W h1 h2 => by exact r_lt h1 h2 (decide_eq_true hr2)) ?_
  refine PW.move rfl rfl rfl rfl rfl ?_
  refine PW.skip rfl rfl rfl ?_
  refine PW.skip rfl rfl rfl ?_
  refine PW.pick (t := true) rfl rfl rfl rfl rfl rfl ?_
  refine PW.assign rfl rfl rfl rfl rfl ?_
  refine PW.nil ?_
  refine SX.then ?_
  refine SC.cond (t := true) rfl ?_
  refine SC.seq ?_
  refine SC.region ?_
  refine PW.val (r := .kw (KQ (0) (0))) rfl rfl rfl rfl (fun a W hf => ⟨_, r_bldQ0, zeroQ W, KQ.st _ _⟩) ?_
  refine PW.store (x := .tmp 19) (r := .kw (KQ (0) (0))) rfl rfl rfl rfl rfl rfl sh_Q ?_
  refine PW.assign rfl rfl rfl rfl rfl ?_
  refine PW.nil ?_
  refine SX.then ?_
  refine SC.ret ?_
  refine SX.blockR ?_
  refine SX.thenR ?_
  rw [parseQ_radix h]
  exact SX.done2 (s := 4) (t := 5) (r := .vl (.int .i64 1)) (.inl rfl) rfl rfl rfl rfl
 ·refine SC.region ?_
  refine PW.move rfl rfl rfl rfl rfl ?_
  refine PW.q2 (x := .tmp 13) (y := .const (.int .i64 2)) (.bool false) rfl rfl rfl rfl rfl (fun ρ W h1 h2 => by exact r_lt h1 h2 (decide_eq_false hr2)) ?_
  refine PW.move rfl rfl rfl rfl rfl ?_
  refine PW.move rfl rfl rfl rfl rfl ?_
  refine PW.q2 (x := .tmp 16) (y := .const (.int .i64 36)) (.bool true) rfl rfl rfl rfl rfl (fun ρ W h1 h2 => by exact r_gt h1 h2 (decide_eq_true (by omega))) ?_
  refine PW.pick (t := false) rfl rfl rfl rfl rfl rfl ?_
  refine PW.assign rfl rfl rfl rfl rfl ?_
  refine PW.nil ?_
  refine SX.then ?_
  refine SC.cond (t := true) rfl ?_
  refine SC.seq ?_
  refine SC.region ?_
  refine PW.val (r := .kw (KQ (0) (0))) rfl rfl rfl rfl (fun a W hf => ⟨_, r_bldQ0, zeroQ W, KQ.st _ _⟩) ?_
  refine PW.store (x := .tmp 19) (r := .kw (KQ (0) (0))) rfl rfl rfl rfl rfl rfl sh_Q ?_
  refine PW.assign rfl rfl rfl rfl rfl ?_
  refine PW.nil ?_
  refine SX.then ?_
  refine SC.ret ?_
  refine SX.blockR ?_
  refine SX.thenR ?_
  rw [parseQ_radix h]
  exact SX.done2 (s := 4) (t := 5) (r := .vl (.int .i64 1)) (.inl rfl) rfl rfl rfl rfl
set_option maxHeartbeats 6400000 in
set_option maxRecDepth 100000 in
theorem k_qparse_long {s : ByteArray} {r : Int} (h : 2 ≤ r ∧ r ≤ 36) (hl : 20000 < s.size) : CallOk 29 [KV (.string s), KV (.int .i64 (r))] (KPR (parseQ r s)) := by
 refine CallOk.enter (l := [.vl (.string s), .vl (.int .i64 (r))]) 68 ce_qparse Tryz.func29 rfl Tryz.ntmps29 (by simp) ⟨(KV.st _), rfl, (KV.st _), rfl, trivial⟩ fun w => ?_
 refine SC.seq ?_
 refine SC.region ?_
 refine PW.alloc (BQ 38) rfl rfl rfl rfl rfl bQ ?_
 refine PW.assign rfl rfl rfl rfl rfl ?_
 refine PW.nil ?_
 refine SX.then ?_
 refine SC.seq ?_
 refine SC.block ?_
 refine SC.seq ?_
 refine SC.region ?_
 refine PW.move rfl rfl rfl rfl rfl ?_
 refine PW.q2 (x := .tmp 13) (y := .const (.int .i64 2)) (.bool false) rfl rfl rfl rfl rfl (fun ρ W h1 h2 => by exact r_lt h1 h2 (decide_eq_false (by omega))) ?_
 refine PW.move rfl rfl rfl rfl rfl ?_
 refine PW.move rfl rfl rfl rfl rfl ?_
 refine PW.q2 (x := .tmp 16) (y := .const (.int .i64 36)) (.bool false) rfl rfl rfl rfl rfl (fun ρ W h1 h2 => by exact r_gt h1 h2 (decide_eq_false (by omega))) ?_
 refine PW.pick (t := false) rfl rfl rfl rfl rfl rfl ?_
 refine PW.assign rfl rfl rfl rfl rfl ?_
 refine PW.nil ?_
 refine SX.then ?_
 refine SC.cond (t := false) rfl ?_
 refine SC.seq ?_
 refine SC.region ?_
 refine PW.move rfl rfl rfl rfl rfl ?_
 refine PW.qn [(.tmp 21, .string s)] (.int .i64 (s.size : Int)) rfl rfl rfl ⟨rfl, trivial⟩ (fun ρ W h => by obtain ⟨h1, _⟩ := h; exact r_slen h1) ?_
 refine PW.q2 (x := .tmp 22) (y := .const (.int .i64 20000)) (.bool true) rfl rfl rfl rfl rfl (fun ρ W h1 h2 => by exact r_gt h1 h2 (decide_eq_true (by omega))) ?_
 refine PW.assign rfl rfl rfl rfl rfl ?_
 refine PW.nil ?_
 refine SX.then ?_
 refine SC.cond (t := true) rfl ?_
 refine SC.seq ?_
 refine SC.region ?_
 refine PW.val (r := .kw (KQ (0) (0))) rfl rfl rfl rfl (fun a W hf => ⟨_, r_bldQ0, zeroQ W, KQ.st _ _⟩) ?_
 refine PW.store (x := .tmp 24) (r := .kw (KQ (0) (0))) rfl rfl rfl rfl rfl rfl sh_Q ?_
 refine PW.assign rfl rfl rfl rfl rfl ?_
 refine PW.nil ?_
 refine SX.then ?_
 refine SC.ret ?_
 refine SX.blockR ?_
 refine SX.thenR ?_
 rw [parseQ_long h hl]
 exact SX.done2 (s := 4) (t := 5) (r := .vl (.int .i64 14)) (.inl rfl) rfl rfl rfl rfl
set_option maxHeartbeats 6400000 in
set_option maxRecDepth 100000 in
theorem k_qparse_no {s : ByteArray} {r : Int} (h : 2 ≤ r ∧ r ≤ 36) (hl : ¬ 20000 < s.size) (hi : cutI s = -1) : CallOk 29 [KV (.string s), KV (.int .i64 (r))] (KPR (parseQ r s)) := by
 refine CallOk.enter (l := [.vl (.string s), .vl (.int .i64 (r))]) 68 ce_qparse Tryz.func29 rfl Tryz.ntmps29 (by simp) ⟨(KV.st _), rfl, (KV.st _), rfl, trivial⟩ fun w => ?_
 refine SC.seq ?_
 refine SC.region ?_
 refine PW.alloc (BQ 38) rfl rfl rfl rfl rfl bQ ?_
 refine PW.assign rfl rfl rfl rfl rfl ?_
 refine PW.nil ?_
 refine SX.then ?_
 refine SC.seq ?_
 refine SC.block ?_
 refine SC.seq ?_
 refine SC.region ?_
 refine PW.move rfl rfl rfl rfl rfl ?_
 refine PW.q2 (x := .tmp 13) (y := .const (.int .i64 2)) (.bool false) rfl rfl rfl rfl rfl (fun ρ W h1 h2 => by exact r_lt h1 h2 (decide_eq_false (by omega))) ?_
 refine PW.move rfl rfl rfl rfl rfl ?_
 refine PW.move rfl rfl rfl rfl rfl ?_
 refine PW.q2 (x := .tmp 16) (y := .const (.int .i64 36)) (.bool false) rfl rfl rfl rfl rfl (fun ρ W h1 h2 => by exact r_gt h1 h2 (decide_eq_false (by omega))) ?_
 refine PW.pick (t := false) rfl rfl rfl rfl rfl rfl ?_
 refine PW.assign rfl rfl rfl rfl rfl ?_
 refine PW.nil ?_
 refine SX.then ?_
 refine SC.cond (t := false) rfl ?_
 refine SC.seq ?_
 refine SC.region ?_
 refine PW.move rfl rfl rfl rfl rfl ?_
 refine PW.qn [(.tmp 21, .string s)] (.int .i64 (s.size : Int)) rfl rfl rfl ⟨rfl, trivial⟩ (fun ρ W h => by obtain ⟨h1, _⟩ := h; exact r_slen h1) ?_
 refine PW.q2 (x := .tmp 22) (y := .const (.int .i64 20000)) (.bool false) rfl rfl rfl rfl rfl (fun ρ W h1 h2 => by exact r_gt h1 h2 (decide_eq_false (by omega))) ?_
 refine PW.assign rfl rfl rfl rfl rfl ?_
 refine PW.nil ?_
 refine SX.then ?_
 refine SC.cond (t := false) rfl ?_
 refine SC.skip ?_
 refine SX.blockN ?_
 refine SX.then ?_
 refine SC.seq ?_
 refine SC.region ?_
 refine PW.move rfl rfl rfl rfl rfl ?_
 refine PW.call (r := .kw (K3 (KV (.string s)) (KV (.string ⟨#[]⟩)) (KV (.bool false)))) rfl rfl rfl rfl rfl rfl (K3.st (KV.st _) (KV.st _) (KV.st _)) rfl (k_cut_no hi) ?_
 refine PW.move rfl rfl rfl rfl rfl ?_
 refine PW.ext (r := .vl (.string s)) rfl rfl rfl rfl rfl ex30v (KV.st _) rfl ?_
 refine PW.ext (r := .vl (.string ⟨#[]⟩)) rfl rfl rfl rfl rfl ex31v (KV.st _) rfl ?_
 refine PW.ext (r := .vl (.bool false)) rfl rfl rfl rfl rfl ex32v (KV.st _) rfl ?_
 refine PW.assign rfl rfl rfl rfl rfl ?_
 refine PW.assign rfl rfl rfl rfl rfl ?_
 refine PW.assign rfl rfl rfl rfl rfl ?_
 refine PW.nil ?_
 refine SX.then ?_
 refine SC.seq ?_
 by_cases hn : ∃ n, parseR r (byl (s)) = .ok n
 ·obtain ⟨n, hn⟩ := hn
  have NB := parse_bd9 (n := 20000) (m := 4000) hn (by omega) (by decide) (by decide)
  refine SC.region ?_
  refine PW.move rfl rfl rfl rfl rfl ?_
  refine PW.move rfl rfl rfl rfl rfl ?_
  refine PW.call (r := .kw (K2 (KI (n)) (KV (.int .i64 0)))) rfl rfl rfl rfl rfl rfl (K2.st (KI.st _) (KV.st _)) rfl (callK k_parse (by rw [hn]; rfl)) ?_
  refine PW.move rfl rfl rfl rfl rfl ?_
  refine PW.ext (r := .kw (KI (n))) rfl rfl rfl rfl rfl ex20 (KI.st _) rfl ?_
  refine PW.ext (r := .vl (.int .i64 0)) rfl rfl rfl rfl rfl ex21v (KV.st _) rfl ?_
  refine PW.alloc (BI 31) rfl rfl rfl rfl rfl bI ?_
  refine PW.store (x := .tmp 35) (r := .kw (KI (n))) rfl rfl rfl rfl rfl rfl sh_I ?_
  refine PW.assign rfl rfl rfl rfl rfl ?_
  refine PW.nil ?_
  refine SX.then ?_
  refine SC.seq ?_
  refine SC.seq ?_
  refine SC.region ?_
  refine PW.move rfl rfl rfl rfl rfl ?_
  refine PW.q2 (x := .tmp 37) (y := .const (.int .i64 0)) (.bool false) rfl rfl rfl rfl rfl (fun ρ W h1 h2 => by go_simp) ?_
  refine PW.move rfl rfl rfl rfl rfl ?_
  refine PW.move rfl rfl rfl rfl rfl ?_
  refine PW.q1 (x := .tmp 40) (.bool true) rfl rfl rfl rfl (fun ρ W h1 => by go_simp) ?_
  refine PW.pick (t := false) rfl rfl rfl rfl rfl rfl ?_
  refine PW.nil ?_
  refine SX.then ?_
  refine SC.cond (t := true) rfl ?_
  refine SC.seq ?_
  refine SC.region ?_
  refine PW.load rfl rfl rfl rfl rfl rfl ?_
  refine PW.call (r := .kw (KQ (((n : Int) : Rat)).num (((((n : Int) : Rat)).den : Int) - 1))) rfl rfl rfl rfl rfl rfl (KQ.st _ _) rfl (k_rof) ?_
  refine PW.move rfl rfl rfl rfl rfl ?_
  refine PW.store (x := .tmp 44) (r := .kw (KQ (((n : Int) : Rat)).num (((((n : Int) : Rat)).den : Int) - 1))) rfl rfl rfl rfl rfl rfl sh_Q ?_
  refine PW.assign rfl rfl rfl rfl rfl ?_
  refine PW.nil ?_
  refine SX.then ?_
  refine SC.ret ?_
  refine SX.thenR ?_
  rw [parseQ_n1 h hl hi hn]
  exact SX.done2 (s := 4) (t := 5) (r := .vl (.int .i64 0)) (.inl rfl) rfl rfl rfl rfl
 ·obtain ⟨en, en0⟩ := parse_err hn
  refine SC.region ?_
  refine PW.move rfl rfl rfl rfl rfl ?_
  refine PW.move rfl rfl rfl rfl rfl ?_
  refine PW.call (r := .kw (K2 (KI (0)) (KV (.int .i64 en)))) rfl rfl rfl rfl rfl rfl (K2.st (KI.st _) (KV.st _)) rfl (callK k_parse (by rw [en0]; rfl)) ?_
  refine PW.move rfl rfl rfl rfl rfl ?_
  refine PW.ext (r := .kw (KI (0))) rfl rfl rfl rfl rfl ex20 (KI.st _) rfl ?_
  refine PW.ext (r := .vl (.int .i64 en)) rfl rfl rfl rfl rfl ex21v (KV.st _) rfl ?_
  refine PW.alloc (BI 31) rfl rfl rfl rfl rfl bI ?_
  refine PW.store (x := .tmp 35) (r := .kw (KI (0))) rfl rfl rfl rfl rfl rfl sh_I ?_
  refine PW.assign rfl rfl rfl rfl rfl ?_
  refine PW.nil ?_
  refine SX.then ?_
  refine SC.seq ?_
  refine SC.seq ?_
  refine SC.region ?_
  refine PW.move rfl rfl rfl rfl rfl ?_
  refine PW.q2 (x := .tmp 37) (y := .const (.int .i64 0)) (.bool true) rfl rfl rfl rfl rfl (fun ρ W h1 h2 => by exact r_neE h1 h2 (parse_ne en0)) ?_
  refine PW.move rfl rfl rfl rfl rfl ?_
  refine PW.skip rfl rfl rfl ?_
  refine PW.skip rfl rfl rfl ?_
  refine PW.pick (t := true) rfl rfl rfl rfl rfl rfl ?_
  refine PW.nil ?_
  refine SX.then ?_
  refine SC.cond (t := true) rfl ?_
  refine SC.seq ?_
  refine SC.region ?_
  refine PW.load rfl rfl rfl rfl rfl rfl ?_
  refine PW.call (r := .kw (KQ (((0 : Int) : Rat)).num (((((0 : Int) : Rat)).den : Int) - 1))) rfl rfl rfl rfl rfl rfl (KQ.st _ _) rfl (k_rof) ?_
  refine PW.move rfl rfl rfl rfl rfl ?_
  refine PW.store (x := .tmp 44) (r := .kw (KQ (((0 : Int) : Rat)).num (((((0 : Int) : Rat)).den : Int) - 1))) rfl rfl rfl rfl rfl rfl sh_Q ?_
  refine PW.assign rfl rfl rfl rfl rfl ?_
  refine PW.nil ?_
  refine SX.then ?_
  refine SC.ret ?_
  refine SX.thenR ?_
  rw [parseQ_n2 h hl hi en0]
  exact SX.done2 (s := 4) (t := 5) (r := .vl (.int .i64 en)) (.inl rfl) rfl rfl rfl rfl
set_option maxHeartbeats 6400000 in
set_option maxRecDepth 100000 in
theorem k_qparse_yes {s : ByteArray} {r : Int} (h : 2 ≤ r ∧ r ≤ 36) (hl : ¬ 20000 < s.size) {i : Nat} (hi : cutI s = (i : Int)) (hs : i < s.size) : CallOk 29 [KV (.string s), KV (.int .i64 (r))] (KPR (parseQ r s)) := by
 refine CallOk.enter (l := [.vl (.string s), .vl (.int .i64 (r))]) 68 ce_qparse Tryz.func29 rfl Tryz.ntmps29 (by simp) ⟨(KV.st _), rfl, (KV.st _), rfl, trivial⟩ fun w => ?_
 refine SC.seq ?_
 refine SC.region ?_
 refine PW.alloc (BQ 38) rfl rfl rfl rfl rfl bQ ?_
 refine PW.assign rfl rfl rfl rfl rfl ?_
 refine PW.nil ?_
 refine SX.then ?_
 refine SC.seq ?_
 refine SC.block ?_
 refine SC.seq ?_
 refine SC.region ?_
 refine PW.move rfl rfl rfl rfl rfl ?_
 refine PW.q2 (x := .tmp 13) (y := .const (.int .i64 2)) (.bool false) rfl rfl rfl rfl rfl (fun ρ W h1 h2 => by exact r_lt h1 h2 (decide_eq_false (by omega))) ?_
 refine PW.move rfl rfl rfl rfl rfl ?_
 refine PW.move rfl rfl rfl rfl rfl ?_
 refine PW.q2 (x := .tmp 16) (y := .const (.int .i64 36)) (.bool false) rfl rfl rfl rfl rfl (fun ρ W h1 h2 => by exact r_gt h1 h2 (decide_eq_false (by omega))) ?_
 refine PW.pick (t := false) rfl rfl rfl rfl rfl rfl ?_
 refine PW.assign rfl rfl rfl rfl rfl ?_
 refine PW.nil ?_
 refine SX.then ?_
 refine SC.cond (t := false) rfl ?_
 refine SC.seq ?_
 refine SC.region ?_
 refine PW.move rfl rfl rfl rfl rfl ?_
 refine PW.qn [(.tmp 21, .string s)] (.int .i64 (s.size : Int)) rfl rfl rfl ⟨rfl, trivial⟩ (fun ρ W h => by obtain ⟨h1, _⟩ := h; exact r_slen h1) ?_
 refine PW.q2 (x := .tmp 22) (y := .const (.int .i64 20000)) (.bool false) rfl rfl rfl rfl rfl (fun ρ W h1 h2 => by exact r_gt h1 h2 (decide_eq_false (by omega))) ?_
 refine PW.assign rfl rfl rfl rfl rfl ?_
 refine PW.nil ?_
 refine SX.then ?_
 refine SC.cond (t := false) rfl ?_
 refine SC.skip ?_
 refine SX.blockN ?_
 refine SX.then ?_
 refine SC.seq ?_
 refine SC.region ?_
 refine PW.move rfl rfl rfl rfl rfl ?_
 refine PW.call (r := .kw (K3 (KV (.string (s.extract 0 i))) (KV (.string (s.extract (i + 1) s.size))) (KV (.bool true)))) rfl rfl rfl rfl rfl rfl (K3.st (KV.st _) (KV.st _) (KV.st _)) rfl (k_cut_yes hi hs (by omega)) ?_
 refine PW.move rfl rfl rfl rfl rfl ?_
 refine PW.ext (r := .vl (.string (s.extract 0 i))) rfl rfl rfl rfl rfl ex30v (KV.st _) rfl ?_
 refine PW.ext (r := .vl (.string (s.extract (i + 1) s.size))) rfl rfl rfl rfl rfl ex31v (KV.st _) rfl ?_
 refine PW.ext (r := .vl (.bool true)) rfl rfl rfl rfl rfl ex32v (KV.st _) rfl ?_
 refine PW.assign rfl rfl rfl rfl rfl ?_
 refine PW.assign rfl rfl rfl rfl rfl ?_
 refine PW.assign rfl rfl rfl rfl rfl ?_
 refine PW.nil ?_
 refine SX.then ?_
 refine SC.seq ?_
 by_cases hn : ∃ n, parseR r (byl (s.extract 0 i)) = .ok n
 ·obtain ⟨n, hn⟩ := hn
  have NB := parse_bd9 (n := 20000) (m := 4000) hn (by rw [ext_size]; omega) (by decide) (by decide)
  refine SC.region ?_
  refine PW.move rfl rfl rfl rfl rfl ?_
  refine PW.move rfl rfl rfl rfl rfl ?_
  refine PW.call (r := .kw (K2 (KI (n)) (KV (.int .i64 0)))) rfl rfl rfl rfl rfl rfl (K2.st (KI.st _) (KV.st _)) rfl (callK k_parse (by rw [hn]; rfl)) ?_
  refine PW.move rfl rfl rfl rfl rfl ?_
  refine PW.ext (r := .kw (KI (n))) rfl rfl rfl rfl rfl ex20 (KI.st _) rfl ?_
  refine PW.ext (r := .vl (.int .i64 0)) rfl rfl rfl rfl rfl ex21v (KV.st _) rfl ?_
  refine PW.alloc (BI 31) rfl rfl rfl rfl rfl bI ?_
  refine PW.store (x := .tmp 35) (r := .kw (KI (n))) rfl rfl rfl rfl rfl rfl sh_I ?_
  refine PW.assign rfl rfl rfl rfl rfl ?_
  refine PW.nil ?_
  refine SX.then ?_
  refine SC.seq ?_
  refine SC.seq ?_
  refine SC.region ?_
  refine PW.move rfl rfl rfl rfl rfl ?_
  refine PW.q2 (x := .tmp 37) (y := .const (.int .i64 0)) (.bool false) rfl rfl rfl rfl rfl (fun ρ W h1 h2 => by go_simp) ?_
  refine PW.move rfl rfl rfl rfl rfl ?_
  refine PW.move rfl rfl rfl rfl rfl ?_
  refine PW.q1 (x := .tmp 40) (.bool false) rfl rfl rfl rfl (fun ρ W h1 => by go_simp) ?_
  refine PW.pick (t := false) rfl rfl rfl rfl rfl rfl ?_
  refine PW.nil ?_
  refine SX.then ?_
  refine SC.cond (t := false) rfl ?_
  refine SC.skip ?_
  refine SX.then ?_
  refine SC.seq ?_
  refine SC.seq ?_
  by_cases hp : 0 < (s.extract (i + 1) s.size).size ∧ at0 (byl (s.extract (i + 1) s.size)) 0 = 43
  ·refine SC.region ?_
   refine PW.move rfl rfl rfl rfl rfl ?_
   refine PW.call (r := .vl (.bool true)) rfl rfl rfl rfl rfl rfl (KV.st _) rfl (k_hasPrefix (s.extract (i + 1) s.size) ⟨#[43]⟩ ((pre_one _ 43).trans (decide_eq_true hp))) ?_
   refine PW.move rfl rfl rfl rfl rfl ?_
   refine PW.skip rfl rfl rfl ?_
   refine PW.skip rfl rfl rfl ?_
   refine PW.pick (t := true) rfl rfl rfl rfl rfl rfl ?_
   refine PW.nil ?_
   refine SX.then ?_
   refine SC.cond (t := true) rfl ?_
   refine SC.seq ?_
   refine SC.region ?_
   refine PW.val (r := .kw (KQ (0) (0))) rfl rfl rfl rfl (fun a W hf => ⟨_, r_bldQ0, zeroQ W, KQ.st _ _⟩) ?_
   refine PW.store (x := .tmp 52) (r := .kw (KQ (0) (0))) rfl rfl rfl rfl rfl rfl sh_Q ?_
   refine PW.assign rfl rfl rfl rfl rfl ?_
   refine PW.nil ?_
   refine SX.then ?_
   refine SC.ret ?_
   refine SX.thenR ?_
   rw [parseQ_y2 h hl hi hn (.inl hp)]
   exact SX.done2 (s := 4) (t := 5) (r := .vl (.int .i64 2)) (.inl rfl) rfl rfl rfl rfl
  ·by_cases hq : 0 < (s.extract (i + 1) s.size).size ∧ at0 (byl (s.extract (i + 1) s.size)) 0 = 45
   ·refine SC.region ?_
    refine PW.move rfl rfl rfl rfl rfl ?_
    refine PW.call (r := .vl (.bool false)) rfl rfl rfl rfl rfl rfl (KV.st _) rfl (k_hasPrefix (s.extract (i + 1) s.size) ⟨#[43]⟩ ((pre_one _ 43).trans (decide_eq_false hp))) ?_
    refine PW.move rfl rfl rfl rfl rfl ?_
    refine PW.move rfl rfl rfl rfl rfl ?_
    refine PW.call (r := .vl (.bool true)) rfl rfl rfl rfl rfl rfl (KV.st _) rfl (k_hasPrefix (s.extract (i + 1) s.size) ⟨#[45]⟩ ((pre_one _ 45).trans (decide_eq_true hq))) ?_
    refine PW.pick (t := false) rfl rfl rfl rfl rfl rfl ?_
    refine PW.nil ?_
    refine SX.then ?_
    refine SC.cond (t := true) rfl ?_
    refine SC.seq ?_
    refine SC.region ?_
    refine PW.val (r := .kw (KQ (0) (0))) rfl rfl rfl rfl (fun a W hf => ⟨_, r_bldQ0, zeroQ W, KQ.st _ _⟩) ?_
    refine PW.store (x := .tmp 52) (r := .kw (KQ (0) (0))) rfl rfl rfl rfl rfl rfl sh_Q ?_
    refine PW.assign rfl rfl rfl rfl rfl ?_
    refine PW.nil ?_
    refine SX.then ?_
    refine SC.ret ?_
    refine SX.thenR ?_
    rw [parseQ_y2 h hl hi hn (.inr hq)]
    exact SX.done2 (s := 4) (t := 5) (r := .vl (.int .i64 2)) (.inl rfl) rfl rfl rfl rfl
   ·refine SC.region ?_
    refine PW.move rfl rfl rfl rfl rfl ?_
    refine PW.call (r := .vl (.bool false)) rfl rfl rfl rfl rfl rfl (KV.st _) rfl (k_hasPrefix (s.extract (i + 1) s.size) ⟨#[43]⟩ ((pre_one _ 43).trans (decide_eq_false hp))) ?_
    refine PW.move rfl rfl rfl rfl rfl ?_
    refine PW.move rfl rfl rfl rfl rfl ?_
    refine PW.call (r := .vl (.bool false)) rfl rfl rfl rfl rfl rfl (KV.st _) rfl (k_hasPrefix (s.extract (i + 1) s.size) ⟨#[45]⟩ ((pre_one _ 45).trans (decide_eq_false hq))) ?_
    refine PW.pick (t := false) rfl rfl rfl rfl rfl rfl ?_
    refine PW.nil ?_
    refine SX.then ?_
    refine SC.cond (t := false) rfl ?_
    refine SC.skip ?_
    refine SX.then ?_
    refine SC.seq ?_
    by_cases hd : ∃ d, parseR r (byl (s.extract (i + 1) s.size)) = .ok d
    ·obtain ⟨d, hd⟩ := hd
     have DB := parse_bd9 (n := 20000) (m := 4000) hd (by rw [ext_size]; omega) (by decide) (by decide)
     refine SC.region ?_
     refine PW.move rfl rfl rfl rfl rfl ?_
     refine PW.move rfl rfl rfl rfl rfl ?_
     refine PW.call (r := .kw (K2 (KI (d)) (KV (.int .i64 0)))) rfl rfl rfl rfl rfl rfl (K2.st (KI.st _) (KV.st _)) rfl (callK k_parse (by rw [hd]; rfl)) ?_
     refine PW.move rfl rfl rfl rfl rfl ?_
     refine PW.ext (r := .kw (KI (d))) rfl rfl rfl rfl rfl ex20 (KI.st _) rfl ?_
     refine PW.ext (r := .vl (.int .i64 0)) rfl rfl rfl rfl rfl ex21v (KV.st _) rfl ?_
     refine PW.alloc (BI 31) rfl rfl rfl rfl rfl bI ?_
     refine PW.store (x := .tmp 57) (r := .kw (KI (d))) rfl rfl rfl rfl rfl rfl sh_I ?_
     refine PW.assign rfl rfl rfl rfl rfl ?_
     refine PW.nil ?_
     refine SX.then ?_
     refine SC.seq ?_
     refine SC.seq ?_
     refine SC.region ?_
     refine PW.move rfl rfl rfl rfl rfl ?_
     refine PW.q2 (x := .tmp 59) (y := .const (.int .i64 0)) (.bool false) rfl rfl rfl rfl rfl (fun ρ W h1 h2 => by go_simp) ?_
     refine PW.nil ?_
     refine SX.then ?_
     refine SC.cond (t := false) rfl ?_
     refine SC.skip ?_
     refine SX.then ?_
     refine SC.seq ?_
     by_cases h0 : d = 0
     ·refine SC.region ?_
      refine PW.load rfl rfl rfl rfl rfl rfl ?_
      refine PW.load rfl rfl rfl rfl rfl rfl ?_
      refine PW.call (r := .kw (K2 (KQ (0) (0)) (KV (.int .i64 6)))) rfl rfl rfl rfl rfl rfl (K2.st (KQ.st _ _) (KV.st _)) rfl (k_rnew0 h0) ?_
      refine PW.ext (r := .kw (KQ (0) (0))) rfl rfl rfl rfl rfl ex20 (KQ.st _ _) rfl ?_
      refine PW.ext (r := .vl (.int .i64 6)) rfl rfl rfl rfl rfl ex21v (KV.st _) rfl ?_
      refine PW.store (x := .tmp 66) (r := .kw (KQ (0) (0))) rfl rfl rfl rfl rfl rfl sh_Q ?_
      refine PW.assign rfl rfl rfl rfl rfl ?_
      refine PW.nil ?_
      refine SX.then ?_
      refine SC.ret ?_
      rw [parseQ_y4 h hl hi hn (fun h9 => h9.elim hp hq) hd h0]
      exact SX.done2 (s := 4) (t := 5) (r := .vl (.int .i64 6)) (.inl rfl) rfl rfl rfl rfl
     ·refine SC.region ?_
      refine PW.load rfl rfl rfl rfl rfl rfl ?_
      refine PW.load rfl rfl rfl rfl rfl rfl ?_
      refine PW.call (r := .kw (K2 (KQ (Rat.divInt (n) (d)).num (((Rat.divInt (n) (d)).den : Int) - 1)) (KV (.int .i64 0)))) rfl rfl rfl rfl rfl rfl (K2.st (KQ.st _ _) (KV.st _)) rfl (k_rnew NB DB h0 (by omega) (by omega)) ?_
      refine PW.ext (r := .kw (KQ (Rat.divInt (n) (d)).num (((Rat.divInt (n) (d)).den : Int) - 1))) rfl rfl rfl rfl rfl ex20 (KQ.st _ _) rfl ?_
      refine PW.ext (r := .vl (.int .i64 0)) rfl rfl rfl rfl rfl ex21v (KV.st _) rfl ?_
      refine PW.store (x := .tmp 66) (r := .kw (KQ (Rat.divInt (n) (d)).num (((Rat.divInt (n) (d)).den : Int) - 1))) rfl rfl rfl rfl rfl rfl sh_Q ?_
      refine PW.assign rfl rfl rfl rfl rfl ?_
      refine PW.nil ?_
      refine SX.then ?_
      refine SC.ret ?_
      rw [parseQ_y5 h hl hi hn (fun h9 => h9.elim hp hq) hd h0]
      exact SX.done2 (s := 4) (t := 5) (r := .vl (.int .i64 0)) (.inl rfl) rfl rfl rfl rfl
    ·obtain ⟨ed, ed0⟩ := parse_err hd
     refine SC.region ?_
     refine PW.move rfl rfl rfl rfl rfl ?_
     refine PW.move rfl rfl rfl rfl rfl ?_
     refine PW.call (r := .kw (K2 (KI (0)) (KV (.int .i64 ed)))) rfl rfl rfl rfl rfl rfl (K2.st (KI.st _) (KV.st _)) rfl (callK k_parse (by rw [ed0]; rfl)) ?_
     refine PW.move rfl rfl rfl rfl rfl ?_
     refine PW.ext (r := .kw (KI (0))) rfl rfl rfl rfl rfl ex20 (KI.st _) rfl ?_
     refine PW.ext (r := .vl (.int .i64 ed)) rfl rfl rfl rfl rfl ex21v (KV.st _) rfl ?_
     refine PW.alloc (BI 31) rfl rfl rfl rfl rfl bI ?_
     refine PW.store (x := .tmp 57) (r := .kw (KI (0))) rfl rfl rfl rfl rfl rfl sh_I ?_
     refine PW.assign rfl rfl rfl rfl rfl ?_
     refine PW.nil ?_
     refine SX.then ?_
     refine SC.seq ?_
     refine SC.seq ?_
     refine SC.region ?_
     refine PW.move rfl rfl rfl rfl rfl ?_
     refine PW.q2 (x := .tmp 59) (y := .const (.int .i64 0)) (.bool true) rfl rfl rfl rfl rfl (fun ρ W h1 h2 => by exact r_neE h1 h2 (parse_ne ed0)) ?_
     refine PW.nil ?_
     refine SX.then ?_
     refine SC.cond (t := true) rfl ?_
     refine SC.seq ?_
     refine SC.region ?_
     refine PW.val (r := .kw (KQ (0) (0))) rfl rfl rfl rfl (fun a W hf => ⟨_, r_bldQ0, zeroQ W, KQ.st _ _⟩) ?_
     refine PW.move rfl rfl rfl rfl rfl ?_
     refine PW.store (x := .tmp 61) (r := .kw (KQ (0) (0))) rfl rfl rfl rfl rfl rfl sh_Q ?_
     refine PW.assign rfl rfl rfl rfl rfl ?_
     refine PW.nil ?_
     refine SX.then ?_
     refine SC.ret ?_
     refine SX.thenR ?_
     rw [parseQ_y3 h hl hi hn (fun h9 => h9.elim hp hq) ed0]
     exact SX.done2 (s := 4) (t := 5) (r := .vl (.int .i64 ed)) (.inl rfl) rfl rfl rfl rfl
 ·obtain ⟨en, en0⟩ := parse_err hn
  refine SC.region ?_
  refine PW.move rfl rfl rfl rfl rfl ?_
  refine PW.move rfl rfl rfl rfl rfl ?_
  refine PW.call (r := .kw (K2 (KI (0)) (KV (.int .i64 en)))) rfl rfl rfl rfl rfl rfl (K2.st (KI.st _) (KV.st _)) rfl (callK k_parse (by rw [en0]; rfl)) ?_
  refine PW.move rfl rfl rfl rfl rfl ?_
  refine PW.ext (r := .kw (KI (0))) rfl rfl rfl rfl rfl ex20 (KI.st _) rfl ?_
  refine PW.ext (r := .vl (.int .i64 en)) rfl rfl rfl rfl rfl ex21v (KV.st _) rfl ?_
  refine PW.alloc (BI 31) rfl rfl rfl rfl rfl bI ?_
  refine PW.store (x := .tmp 35) (r := .kw (KI (0))) rfl rfl rfl rfl rfl rfl sh_I ?_
  refine PW.assign rfl rfl rfl rfl rfl ?_
  refine PW.nil ?_
  refine SX.then ?_
  refine SC.seq ?_
  refine SC.seq ?_
  refine SC.region ?_
  refine PW.move rfl rfl rfl rfl rfl ?_
  refine PW.q2 (x := .tmp 37) (y := .const (.int .i64 0)) (.bool true) rfl rfl rfl rfl rfl (fun ρ W h1 h2 => by exact r_neE h1 h2 (parse_ne en0)) ?_
  refine PW.move rfl rfl rfl rfl rfl ?_
  refine PW.skip rfl rfl rfl ?_
  refine PW.skip rfl rfl rfl ?_
  refine PW.pick (t := true) rfl rfl rfl rfl rfl rfl ?_
  refine PW.nil ?_
  refine SX.then ?_
  refine SC.cond (t := true) rfl ?_
  refine SC.seq ?_
  refine SC.region ?_
  refine PW.load rfl rfl rfl rfl rfl rfl ?_
  refine PW.call (r := .kw (KQ (((0 : Int) : Rat)).num (((((0 : Int) : Rat)).den : Int) - 1))) rfl rfl rfl rfl rfl rfl (KQ.st _ _) rfl (k_rof) ?_
  refine PW.move rfl rfl rfl rfl rfl ?_
  refine PW.store (x := .tmp 44) (r := .kw (KQ (((0 : Int) : Rat)).num (((((0 : Int) : Rat)).den : Int) - 1))) rfl rfl rfl rfl rfl rfl sh_Q ?_
  refine PW.assign rfl rfl rfl rfl rfl ?_
  refine PW.nil ?_
  refine SX.then ?_
  refine SC.ret ?_
  refine SX.thenR ?_
  rw [parseQ_y1 h hl hi en0]
  exact SX.done2 (s := 4) (t := 5) (r := .vl (.int .i64 en)) (.inl rfl) rfl rfl rfl rfl
theorem k_qparse {s : ByteArray} {r : Int} : CallOk 29 [KV (.string s), KV (.int .i64 (r))] (KPR (parseQ r s)) := by
 by_cases h : 2 ≤ r ∧ r ≤ 36
 ·by_cases hl : 20000 < s.size
  ·exact k_qparse_long h hl
  ·rcases cut_cases s with hi | ⟨i, hi, hs⟩
   ·exact k_qparse_no h hl hi
   ·exact k_qparse_yes h hl hi hs
 ·exact k_qparse_radix h
theorem ce_qtext : CE 27 := fun args W => by go_simp
set_option maxHeartbeats 3200000 in
set_option maxRecDepth 100000 in
theorem k_qtext_bad {x : Rat} {r : Int} {m : Nat} (X : bq m x) (hm : m ≤ 50000) (h : ¬ (2 ≤ r ∧ r ≤ 36)) : CallOk 27 [KQ (x).num (((x).den : Int) - 1), KV (.int .i64 (r))] (K2 (KV (.string ⟨#[]⟩)) (KV (.int .i64 1))) := by
 refine CallOk.enter (l := [.kw (KQ (x).num (((x).den : Int) - 1)), .vl (.int .i64 (r))]) 36 ce_qtext Tryz.func27 rfl Tryz.ntmps27 (by simp) ⟨(KQ.st _ _), rfl, (KV.st _), rfl, trivial⟩ fun w => ?_
 refine SC.seq ?_
 refine SC.region ?_
 refine PW.box (x := .tmp 0) (r := .kw (KQ (x).num (((x).den : Int) - 1))) (BQ 38) rfl rfl rfl rfl rfl bQ rfl sh_Q ?_
 refine PW.assign rfl rfl rfl rfl rfl ?_
 refine PW.assign rfl rfl rfl rfl rfl ?_
 refine PW.nil ?_
 refine SX.then ?_
 refine SC.seq ?_
 refine SC.region ?_
 refine PW.fld (r := .kw (KI ((x).num))) rfl rfl rfl rfl rfl rfl rfl rfl rfl rfl rfl fldQ0 (KI.st _) ?_
 refine PW.move rfl rfl rfl rfl rfl ?_
 refine PW.call (r := .kw (K2 (KV (.string ⟨#[]⟩)) (KV (.int .i64 1)))) rfl rfl rfl rfl rfl rfl (K2.st (KV.st _) (KV.st _)) rfl (k_text_bad h) ?_
 refine PW.move rfl rfl rfl rfl rfl ?_
 refine PW.ext (r := .vl (.string ⟨#[]⟩)) rfl rfl rfl rfl rfl ex20v (KV.st _) rfl ?_
 refine PW.ext (r := .vl (.int .i64 1)) rfl rfl rfl rfl rfl ex21v (KV.st _) rfl ?_
 refine PW.assign rfl rfl rfl rfl rfl ?_
 refine PW.assign rfl rfl rfl rfl rfl ?_
 refine PW.nil ?_
 refine SX.then ?_
 refine SC.seq ?_
 refine SC.seq ?_
 refine SC.region ?_
 refine PW.move rfl rfl rfl rfl rfl ?_
 refine PW.q2 (x := .tmp 16) (y := .const (.int .i64 0)) (.bool true) rfl rfl rfl rfl rfl (fun ρ W h1 h2 => by go_simp) ?_
 refine PW.move rfl rfl rfl rfl rfl ?_
 refine PW.skip rfl rfl rfl ?_
 refine PW.skip rfl rfl rfl ?_
 refine PW.pick (t := true) rfl rfl rfl rfl rfl rfl ?_
 refine PW.nil ?_
 refine SX.then ?_
 refine SC.cond (t := true) rfl ?_
 refine SC.seq ?_
 refine SC.region ?_
 refine PW.move rfl rfl rfl rfl rfl ?_
 refine PW.move rfl rfl rfl rfl rfl ?_
 refine PW.assign rfl rfl rfl rfl rfl ?_
 refine PW.assign rfl rfl rfl rfl rfl ?_
 refine PW.nil ?_
 refine SX.then ?_
 refine SC.ret ?_
 refine SX.thenR ?_
 exact SX.done2v (s := 4) (t := 5) (.inl rfl) rfl rfl rfl rfl
set_option maxHeartbeats 3200000 in
set_option maxRecDepth 100000 in
theorem k_qtext_w {x : Rat} {r : Int} {m : Nat} (X : bq m x) (hm : m ≤ 50000) (h : 2 ≤ r ∧ r ≤ 36) (hd : x.den = 1) : CallOk 27 [KQ (x).num (((x).den : Int) - 1), KV (.int .i64 (r))] (K2 (KV (.string (txq r x))) (KV (.int .i64 0))) := by
 refine CallOk.enter (l := [.kw (KQ (x).num (((x).den : Int) - 1)), .vl (.int .i64 (r))]) 36 ce_qtext Tryz.func27 rfl Tryz.ntmps27 (by simp) ⟨(KQ.st _ _), rfl, (KV.st _), rfl, trivial⟩ fun w => ?_
 refine SC.seq ?_
 refine SC.region ?_
 refine PW.box (x := .tmp 0) (r := .kw (KQ (x).num (((x).den : Int) - 1))) (BQ 38) rfl rfl rfl rfl rfl bQ rfl sh_Q ?_
 refine PW.assign rfl rfl rfl rfl rfl ?_
 refine PW.assign rfl rfl rfl rfl rfl ?_
 refine PW.nil ?_
 refine SX.then ?_
 refine SC.seq ?_
 refine SC.region ?_
 refine PW.fld (r := .kw (KI ((x).num))) rfl rfl rfl rfl rfl rfl rfl rfl rfl rfl rfl fldQ0 (KI.st _) ?_
 refine PW.move rfl rfl rfl rfl rfl ?_
 refine PW.call (r := .kw (K2 (KV (.string (tstr r ((x).num)))) (KV (.int .i64 0)))) rfl rfl rfl rfl rfl rfl (K2.st (KV.st _) (KV.st _)) rfl (k_text ((X).1) (by first | decide | omega) h) ?_
 refine PW.move rfl rfl rfl rfl rfl ?_
 refine PW.ext (r := .vl (.string (tstr r ((x).num)))) rfl rfl rfl rfl rfl ex20v (KV.st _) rfl ?_
 refine PW.ext (r := .vl (.int .i64 0)) rfl rfl rfl rfl rfl ex21v (KV.st _) rfl ?_
 refine PW.assign rfl rfl rfl rfl rfl ?_
 refine PW.assign rfl rfl rfl rfl rfl ?_
 refine PW.nil ?_
 refine SX.then ?_
 refine SC.seq ?_
 refine SC.seq ?_
 refine SC.region ?_
 refine PW.move rfl rfl rfl rfl rfl ?_
 refine PW.q2 (x := .tmp 16) (y := .const (.int .i64 0)) (.bool false) rfl rfl rfl rfl rfl (fun ρ W h1 h2 => by go_simp) ?_
 refine PW.move rfl rfl rfl rfl rfl ?_
 refine PW.load rfl rfl rfl rfl rfl rfl ?_
 refine PW.call (r := .vl (.bool true)) rfl rfl rfl rfl rfl rfl (KV.st _) rfl (callK k_rwhole (by rw [decide_eq_true hd]; rfl)) ?_
 refine PW.pick (t := false) rfl rfl rfl rfl rfl rfl ?_
 refine PW.nil ?_
 refine SX.then ?_
 refine SC.cond (t := true) rfl ?_
 refine SC.seq ?_
 refine SC.region ?_
 refine PW.move rfl rfl rfl rfl rfl ?_
 refine PW.move rfl rfl rfl rfl rfl ?_
 refine PW.assign rfl rfl rfl rfl rfl ?_
 refine PW.assign rfl rfl rfl rfl rfl ?_
 refine PW.nil ?_
 refine SX.then ?_
 refine SC.ret ?_
 refine SX.thenR ?_
 rw [txq_whole hd]
 exact SX.done2v (s := 4) (t := 5) (.inl rfl) rfl rfl rfl rfl
set_option maxHeartbeats 3200000 in
set_option maxRecDepth 100000 in
theorem k_qtext_f {x : Rat} {r : Int} {m : Nat} (X : bq m x) (hm : m ≤ 50000) (h : 2 ≤ r ∧ r ≤ 36) (hd : ¬ x.den = 1) : CallOk 27 [KQ (x).num (((x).den : Int) - 1), KV (.int .i64 (r))] (K2 (KV (.string (txq r x))) (KV (.int .i64 0))) := by
 refine CallOk.enter (l := [.kw (KQ (x).num (((x).den : Int) - 1)), .vl (.int .i64 (r))]) 36 ce_qtext Tryz.func27 rfl Tryz.ntmps27 (by simp) ⟨(KQ.st _ _), rfl, (KV.st _), rfl, trivial⟩ fun w => ?_
 refine SC.seq ?_
 refine SC.region ?_
 refine PW.box (x := .tmp 0) (r := .kw (KQ (x).num (((x).den : Int) - 1))) (BQ 38) rfl rfl rfl rfl rfl bQ rfl sh_Q ?_
 refine PW.assign rfl rfl rfl rfl rfl ?_
 refine PW.assign rfl rfl rfl rfl rfl ?_
 refine PW.nil ?_
 refine SX.then ?_
 refine SC.seq ?_
 refine SC.region ?_
 refine PW.fld (r := .kw (KI ((x).num))) rfl rfl rfl rfl rfl rfl rfl rfl rfl rfl rfl fldQ0 (KI.st _) ?_
 refine PW.move rfl rfl rfl rfl rfl ?_
 refine PW.call (r := .kw (K2 (KV (.string (tstr r ((x).num)))) (KV (.int .i64 0)))) rfl rfl rfl rfl rfl rfl (K2.st (KV.st _) (KV.st _)) rfl (k_text ((X).1) (by first | decide | omega) h) ?_
 refine PW.move rfl rfl rfl rfl rfl ?_
 refine PW.ext (r := .vl (.string (tstr r ((x).num)))) rfl rfl rfl rfl rfl ex20v (KV.st _) rfl ?_
 refine PW.ext (r := .vl (.int .i64 0)) rfl rfl rfl rfl rfl ex21v (KV.st _) rfl ?_
 refine PW.assign rfl rfl rfl rfl rfl ?_
 refine PW.assign rfl rfl rfl rfl rfl ?_
 refine PW.nil ?_
 refine SX.then ?_
 refine SC.seq ?_
 refine SC.seq ?_
 refine SC.region ?_
 refine PW.move rfl rfl rfl rfl rfl ?_
 refine PW.q2 (x := .tmp 16) (y := .const (.int .i64 0)) (.bool false) rfl rfl rfl rfl rfl (fun ρ W h1 h2 => by go_simp) ?_
 refine PW.move rfl rfl rfl rfl rfl ?_
 refine PW.load rfl rfl rfl rfl rfl rfl ?_
 refine PW.call (r := .vl (.bool false)) rfl rfl rfl rfl rfl rfl (KV.st _) rfl (callK k_rwhole (by rw [decide_eq_false hd]; rfl)) ?_
 refine PW.pick (t := false) rfl rfl rfl rfl rfl rfl ?_
 refine PW.nil ?_
 refine SX.then ?_
 refine SC.cond (t := false) rfl ?_
 refine SC.skip ?_
 refine SX.then ?_
 refine SC.seq ?_
 refine SC.region ?_
 refine PW.load rfl rfl rfl rfl rfl rfl ?_
 refine PW.call (r := .kw (KI ((x.den : Int)))) rfl rfl rfl rfl rfl rfl (KI.st _) rfl (k_rden X (by first | decide | omega)) ?_
 refine PW.move rfl rfl rfl rfl rfl ?_
 refine PW.call (r := .kw (K2 (KV (.string (tstr r ((x.den : Int))))) (KV (.int .i64 0)))) rfl rfl rfl rfl rfl rfl (K2.st (KV.st _) (KV.st _)) rfl (k_text X.2 (by first | decide | omega) h) ?_
 refine PW.move rfl rfl rfl rfl rfl ?_
 refine PW.ext (r := .vl (.string (tstr r ((x.den : Int))))) rfl rfl rfl rfl rfl ex20v (KV.st _) rfl ?_
 refine PW.ext (r := .vl (.int .i64 0)) rfl rfl rfl rfl rfl ex21v (KV.st _) rfl ?_
 refine PW.assign rfl rfl rfl rfl rfl ?_
 refine PW.assign rfl rfl rfl rfl rfl ?_
 refine PW.nil ?_
 refine SX.then ?_
 refine SC.seq ?_
 refine SC.region ?_
 refine PW.move rfl rfl rfl rfl rfl ?_
 refine PW.q2 (x := .tmp 31) (y := .const (.string ⟨#[47]⟩)) (.string (tstr r x.num ++ ⟨#[47]⟩)) rfl rfl rfl rfl rfl (fun ρ W h1 h2 => by exact r_sadd h1 h2 (by have q1 := tstr_size (r := r) h.1 X.1; have q2 := tstr_size (r := r) h.1 X.2; simp only [ByteArray.size_append, bsz1]; omega)) ?_
 refine PW.move rfl rfl rfl rfl rfl ?_
 refine PW.q2 (x := .tmp 32) (y := .tmp 33) (.string (tstr r x.num ++ ⟨#[47]⟩ ++ tstr r (x.den : Int))) rfl rfl rfl rfl rfl (fun ρ W h1 h2 => by exact r_sadd h1 h2 (by have q1 := tstr_size (r := r) h.1 X.1; have q2 := tstr_size (r := r) h.1 X.2; simp only [ByteArray.size_append, bsz1]; omega)) ?_
 refine PW.move rfl rfl rfl rfl rfl ?_
 refine PW.assign rfl rfl rfl rfl rfl ?_
 refine PW.assign rfl rfl rfl rfl rfl ?_
 refine PW.nil ?_
 refine SX.then ?_
 refine SC.ret ?_
 rw [txq_frac hd]
 exact SX.done2v (s := 4) (t := 5) (.inl rfl) rfl rfl rfl rfl
theorem k_qtext {x : Rat} {r : Int} {m : Nat} (X : bq m x) (hm : m ≤ 50000) (h : 2 ≤ r ∧ r ≤ 36) : CallOk 27 [KQ (x).num (((x).den : Int) - 1), KV (.int .i64 (r))] (K2 (KV (.string (txq r x))) (KV (.int .i64 0))) := by
 by_cases hd : x.den = 1
 ·exact k_qtext_w X hm h hd
 ·exact k_qtext_f X hm h hd
end Go.Proofs.YthpjmhhfcechmaaGreat.Sy
/- The awake of chapter 03, by rules. -/
set_option linter.unusedVariables false
set_option linter.unusedSimpArgs false
namespace Go.Proofs.YthpjmhhfcechmaaGreat.Sy
open Go Go.RowKit Ma
theorem aw_b14 : bq 1 (Rat.divInt 6 4) := ⟨bd.lit (by decide +kernel), bd.lit (by decide +kernel)⟩
theorem aw_b23 : bq 1 (Rat.divInt 31 100) := ⟨bd.lit (by decide +kernel), bd.lit (by decide +kernel)⟩
theorem aw_b27 : bq 1 (Rat.divInt 32 100) := ⟨bd.lit (by decide +kernel), bd.lit (by decide +kernel)⟩
theorem aw_b33 : bq 1 (Rat.divInt 5 16) := ⟨bd.lit (by decide +kernel), bd.lit (by decide +kernel)⟩
theorem aw_p14 : parseQ 10 ⟨#[43, 48, 54, 47, 52]⟩ = .ok (Rat.divInt 6 4) := by kernel_rfl
theorem aw_p23 : parseQ 10 ⟨#[51, 49, 47, 49, 48, 48]⟩ = .ok (Rat.divInt 31 100) := by kernel_rfl
theorem aw_p27 : parseQ 10 ⟨#[51, 50, 47, 49, 48, 48]⟩ = .ok (Rat.divInt 32 100) := by kernel_rfl
theorem tstr_of {r x : Int} {s : ByteArray} (hr : 2 ≤ r) (h : Txt r x s) : tstr r x = s := (tstr_eq hr h).symm
theorem aw_t19 : txq 10 (Rat.divInt 6 4) = ⟨#[51, 47, 50]⟩ := by
 rw [txq_frac (by decide +kernel), show (Rat.divInt 6 4).num = 3 by decide +kernel, show (((Rat.divInt 6 4).den : Nat) : Int) = 2 by decide +kernel]
 rw [tstr_of (s := ⟨#[51]⟩) (by decide) ⟨[3], fun x hx => by simp at hx; omega, by rw [top_at (by decide)]; decide, by decide, by decide⟩, tstr_of (s := ⟨#[50]⟩) (by decide) ⟨[2], fun x hx => by simp at hx; omega, by rw [top_at (by decide)]; decide, by decide, by decide⟩]
 rfl
theorem aw_t38 : txq 10 (Rat.divInt 5 16) = ⟨#[53, 47, 49, 54]⟩ := by
 rw [txq_frac (by decide +kernel), show (Rat.divInt 5 16).num = 5 by decide +kernel, show (((Rat.divInt 5 16).den : Nat) : Int) = 16 by decide +kernel]
 rw [tstr_of (s := ⟨#[53]⟩) (by decide) ⟨[5], fun x hx => by simp at hx; omega, by rw [top_at (by decide)]; decide, by decide, by decide⟩, tstr_of (s := ⟨#[49, 54]⟩) (by decide) ⟨[6, 1], fun x hx => by simp at hx; omega, by rw [top_at (by decide)]; decide, by decide, by decide⟩]
 rfl
theorem aw_le : Rat.divInt 31 100 ≤ Rat.divInt 32 100 := by decide +kernel
theorem aw_pos : 0 < sgq (Rat.divInt 31 100) := by decide +kernel
theorem aw_hb : ∀ i, bd (1 + 1) (at0 [0, 3, 5] i) := fun i => bd.mono (k := 1) (bd.lit (by
 match i with
 | 0 => decide
 | 1 => decide
 | 2 => decide
 | n + 3 => exact (by decide : -4294967296 < (0 : Int) ∧ (0 : Int) < 4294967296))) (by decide)
theorem aw_c : ctrR [0, 3, 5] = .ok (Rat.divInt 5 16) := by kernel_rfl
theorem Smp.cast {x y : Rat} {l l' : List Int} (h : Smp x y l) (e : l = l') : Smp x y l' := e ▸ h
theorem aw_s : Smp (Rat.divInt 31 100) (Rat.divInt 32 100) [0, 3, 5] := by
 refine Smp.cast (Smp.step (by decide +kernel) (by decide +kernel) (Smp.step (by decide +kernel) (by decide +kernel) (Smp.next (by decide +kernel) (by decide +kernel)))) ?_
 decide +kernel
set_option maxHeartbeats 3200000 in
theorem k_awake3 : CallOk 13 [] (KV (.bool true)) := by
 refine CallOk.enter (l := []) 57 (fun args W => by go_simp) Tryz.func13 rfl Tryz.ntmps13 (by simp) trivial fun w => ?_
 refine SC.seq ?_
 refine SC.region ?_
 refine PW.assign rfl rfl rfl rfl rfl ?_
 refine PW.nil ?_
 refine SX.then ?_
 refine SC.seq ?_
 refine SC.region ?_
 refine PW.call (r := .kw (K2 (KQ (Rat.divInt 6 4).num (((Rat.divInt 6 4).den : Int) - 1)) (KV (.int .i64 0)))) rfl rfl rfl rfl rfl rfl (K2.st (KQ.st _ _) (KV.st _)) rfl (callK k_qparse (by rw [aw_p14]; rfl)) ?_
 refine PW.move rfl rfl rfl rfl rfl ?_
 refine PW.ext (r := .kw (KQ (Rat.divInt 6 4).num (((Rat.divInt 6 4).den : Int) - 1))) rfl rfl rfl rfl rfl ex20 (KQ.st _ _) rfl ?_
 refine PW.ext (r := .vl (.int .i64 0)) rfl rfl rfl rfl rfl ex21v (KV.st _) rfl ?_
 refine PW.alloc (BQ 38) rfl rfl rfl rfl rfl bQ ?_
 refine PW.store (x := .tmp 15) (r := .kw (KQ (Rat.divInt 6 4).num (((Rat.divInt 6 4).den : Int) - 1))) rfl rfl rfl rfl rfl rfl sh_Q ?_
 refine PW.assign rfl rfl rfl rfl rfl ?_
 refine PW.nil ?_
 refine SX.then ?_
 refine SC.seq ?_
 refine SC.region ?_
 refine PW.load rfl rfl rfl rfl rfl rfl ?_
 refine PW.call (r := .kw (K2 (KV (.string ⟨#[51, 47, 50]⟩)) (KV (.int .i64 0)))) rfl rfl rfl rfl rfl rfl (K2.st (KV.st _) (KV.st _)) rfl (callK (k_qtext aw_b14 (by decide) (by decide)) (by rw [aw_t19]; rfl)) ?_
 refine PW.move rfl rfl rfl rfl rfl ?_
 refine PW.ext (r := .vl (.string ⟨#[51, 47, 50]⟩)) rfl rfl rfl rfl rfl ex20v (KV.st _) rfl ?_
 refine PW.ext (r := .vl (.int .i64 0)) rfl rfl rfl rfl rfl ex21v (KV.st _) rfl ?_
 refine PW.assign rfl rfl rfl rfl rfl ?_
 refine PW.assign rfl rfl rfl rfl rfl ?_
 refine PW.nil ?_
 refine SX.then ?_
 refine SC.seq ?_
 refine SC.region ?_
 refine PW.call (r := .kw (K2 (KQ (Rat.divInt 31 100).num (((Rat.divInt 31 100).den : Int) - 1)) (KV (.int .i64 0)))) rfl rfl rfl rfl rfl rfl (K2.st (KQ.st _ _) (KV.st _)) rfl (callK k_qparse (by rw [aw_p23]; rfl)) ?_
 refine PW.move rfl rfl rfl rfl rfl ?_
 refine PW.ext (r := .kw (KQ (Rat.divInt 31 100).num (((Rat.divInt 31 100).den : Int) - 1))) rfl rfl rfl rfl rfl ex20 (KQ.st _ _) rfl ?_
 refine PW.ext (r := .vl (.int .i64 0)) rfl rfl rfl rfl rfl ex21v (KV.st _) rfl ?_
 refine PW.alloc (BQ 38) rfl rfl rfl rfl rfl bQ ?_
 refine PW.store (x := .tmp 24) (r := .kw (KQ (Rat.divInt 31 100).num (((Rat.divInt 31 100).den : Int) - 1))) rfl rfl rfl rfl rfl rfl sh_Q ?_
 refine PW.assign rfl rfl rfl rfl rfl ?_
 refine PW.nil ?_
 refine SX.then ?_
 refine SC.seq ?_
 refine SC.region ?_
 refine PW.call (r := .kw (K2 (KQ (Rat.divInt 32 100).num (((Rat.divInt 32 100).den : Int) - 1)) (KV (.int .i64 0)))) rfl rfl rfl rfl rfl rfl (K2.st (KQ.st _ _) (KV.st _)) rfl (callK k_qparse (by rw [aw_p27]; rfl)) ?_
 refine PW.move rfl rfl rfl rfl rfl ?_
 refine PW.ext (r := .kw (KQ (Rat.divInt 32 100).num (((Rat.divInt 32 100).den : Int) - 1))) rfl rfl rfl rfl rfl ex20 (KQ.st _ _) rfl ?_
 refine PW.ext (r := .vl (.int .i64 0)) rfl rfl rfl rfl rfl ex21v (KV.st _) rfl ?_
 refine PW.alloc (BQ 38) rfl rfl rfl rfl rfl bQ ?_
 refine PW.store (x := .tmp 28) (r := .kw (KQ (Rat.divInt 32 100).num (((Rat.divInt 32 100).den : Int) - 1))) rfl rfl rfl rfl rfl rfl sh_Q ?_
 refine PW.assign rfl rfl rfl rfl rfl ?_
 refine PW.nil ?_
 refine SX.then ?_
 refine SC.seq ?_
 refine SC.region ?_
 refine PW.load rfl rfl rfl rfl rfl rfl ?_
 refine PW.load rfl rfl rfl rfl rfl rfl ?_
 refine PW.call (r := .kw (K2 (KQ (Rat.divInt 5 16).num (((Rat.divInt 5 16).den : Int) - 1)) (KV (.int .i64 0)))) rfl rfl rfl rfl rfl rfl (K2.st (KQ.st _ _) (KV.st _)) rfl (k_Simplest_pos aw_b23 aw_b27 (by decide) aw_le aw_pos aw_hb (by decide) (by decide) aw_c aw_s) ?_
 refine PW.move rfl rfl rfl rfl rfl ?_
 refine PW.ext (r := .kw (KQ (Rat.divInt 5 16).num (((Rat.divInt 5 16).den : Int) - 1))) rfl rfl rfl rfl rfl ex20 (KQ.st _ _) rfl ?_
 refine PW.ext (r := .vl (.int .i64 0)) rfl rfl rfl rfl rfl ex21v (KV.st _) rfl ?_
 refine PW.alloc (BQ 38) rfl rfl rfl rfl rfl bQ ?_
 refine PW.store (x := .tmp 34) (r := .kw (KQ (Rat.divInt 5 16).num (((Rat.divInt 5 16).den : Int) - 1))) rfl rfl rfl rfl rfl rfl sh_Q ?_
 refine PW.assign rfl rfl rfl rfl rfl ?_
 refine PW.nil ?_
 refine SX.then ?_
 refine SC.seq ?_
 refine SC.region ?_
 refine PW.load rfl rfl rfl rfl rfl rfl ?_
 refine PW.call (r := .kw (K2 (KV (.string ⟨#[53, 47, 49, 54]⟩)) (KV (.int .i64 0)))) rfl rfl rfl rfl rfl rfl (K2.st (KV.st _) (KV.st _)) rfl (callK (k_qtext aw_b33 (by decide) (by decide)) (by rw [aw_t38]; rfl)) ?_
 refine PW.move rfl rfl rfl rfl rfl ?_
 refine PW.ext (r := .vl (.string ⟨#[53, 47, 49, 54]⟩)) rfl rfl rfl rfl rfl ex20v (KV.st _) rfl ?_
 refine PW.ext (r := .vl (.int .i64 0)) rfl rfl rfl rfl rfl ex21v (KV.st _) rfl ?_
 refine PW.assign rfl rfl rfl rfl rfl ?_
 refine PW.assign rfl rfl rfl rfl rfl ?_
 refine PW.nil ?_
 refine SX.then ?_
 refine SC.seq ?_
 refine SC.region ?_
 refine PW.move rfl rfl rfl rfl rfl ?_
 refine PW.move rfl rfl rfl rfl rfl ?_
 refine PW.move rfl rfl rfl rfl rfl ?_
 refine PW.move rfl rfl rfl rfl rfl ?_
 refine PW.move rfl rfl rfl rfl rfl ?_
 refine PW.move rfl rfl rfl rfl rfl ?_
 refine PW.qn [(.tmp 41, .int .i64 0), (.tmp 42, .int .i64 0), (.tmp 43, .int .i64 0), (.tmp 44, .int .i64 0), (.tmp 45, .int .i64 0), (.tmp 46, .int .i64 0)] (.int .i64 0) rfl rfl rfl ⟨rfl, rfl, rfl, rfl, rfl, rfl, trivial⟩ (fun ρ W h => by obtain ⟨h1, h2, h3, h4, h5, h6, _⟩ := h; go_simp; kernel_rfl) ?_
 refine PW.q2 (x := .tmp 47) (y := .const (.int .i64 0)) (.bool true) rfl rfl rfl rfl rfl (fun ρ W h1 h2 => by go_simp) ?_
 refine PW.move rfl rfl rfl rfl rfl ?_
 refine PW.move rfl rfl rfl rfl rfl ?_
 refine PW.q2 (x := .tmp 50) (y := .const (.string ⟨#[51, 47, 50]⟩)) (.bool true) rfl rfl rfl rfl rfl (fun ρ W h1 h2 => by exact r_seq h1 h2 (by simp)) ?_
 refine PW.pick (t := true) rfl rfl rfl rfl rfl rfl ?_
 refine PW.move rfl rfl rfl rfl rfl ?_
 refine PW.move rfl rfl rfl rfl rfl ?_
 refine PW.q2 (x := .tmp 54) (y := .const (.string ⟨#[53, 47, 49, 54]⟩)) (.bool true) rfl rfl rfl rfl rfl (fun ρ W h1 h2 => by exact r_seq h1 h2 (by simp)) ?_
 refine PW.pick (t := true) rfl rfl rfl rfl rfl rfl ?_
 refine PW.assign rfl rfl rfl rfl rfl ?_
 refine PW.nil ?_
 refine SX.then ?_
 refine SC.ret ?_
 exact SX.done (s := 0) (r := .vl (.bool true)) rfl rfl rfl
end Go.Proofs.YthpjmhhfcechmaaGreat.Sy
/- Plain laws: the fraction that a text means, cut at its last slash. -/
set_option linter.unusedVariables false
set_option linter.unusedSimpArgs false
namespace Go.Proofs.YthpjmhhfcechmaaGreat.Sy
open Go Go.RowKit Ma
theorem parse_two {r e : Int} {l : List Int} (h : 2 ≤ r ∧ r ≤ 36) (hl : l.length ≤ 20000) (he : parseR r l = .error e) : e = 2 := by
 unfold parseR at he
 rw [if_neg (fun x => x h), if_neg (by omega)] at he
 dsimp only at he
 generalize (if at0 l 0 = 45 ∨ at0 l 0 = 43 then l.drop 1 else l) = b at he
 split at he
 ·injection he with he; exact he.symm
 split at he
 ·cases he
 ·injection he with he; exact he.symm
theorem parse_slash {r : Int} {l : List Int} (h : 2 ≤ r ∧ r ≤ 36) (hl : l.length ≤ 20000) {i : Nat} (hi : i < l.length) (hs : at0 l i = 47) : parseR r l = .error 2 := by
 cases he : parseR r l with
 | error e => rw [parse_two h hl he]
 | ok z =>
  exfalso
  unfold parseR at he
  rw [if_neg (fun x => x h), if_neg (by omega)] at he
  dsimp only at he
  have hm : 47 ∈ (if at0 l 0 = 45 ∨ at0 l 0 = 43 then l.drop 1 else l) := by
   have h0 : (47 : Int) ∈ l := by rw [← hs, at0_of_lt hi]; exact List.getElem_mem hi
   split
   ·rename_i hsg
    cases l with
    | nil => cases h0
    | cons x l =>
     rcases List.mem_cons.1 h0 with e | e
     ·exfalso
      have : at0 (x :: l) 0 = x := rfl
      omega
     ·simpa using e
   ·exact h0
  generalize (if at0 l 0 = 45 ∨ at0 l 0 = 43 then l.drop 1 else l) = b at he hm
  split at he
  ·cases he
  split at he
  ·rename_i hall
   have := List.all_eq_true.1 hall 47 hm
   have h36 : dv 47 = 36 := by decide
   rw [h36] at this
   have := of_decide_eq_true this
   omega
  ·cases he
theorem parse_nil {r z : Int} : parseR r [] ≠ .ok z := by
 intro h
 unfold parseR at h
 split at h
 ·cases h
 split at h
 ·cases h
 ·have e : (if at0 ([] : List Int) 0 = 45 ∨ at0 ([] : List Int) 0 = 43 then ([] : List Int).drop 1 else []) = [] := by simp
  dsimp only at h
  rw [e, if_pos rfl] at h
  cases h
theorem parse_len {r d : Int} {s : ByteArray} {k : Nat} (h : parseR r (byl (s.extract (k + 1) s.size)) = .ok d) : k + 1 < s.size := by
 apply Classical.byContradiction
 intro hn
 have : byl (s.extract (k + 1) s.size) = [] := by
  rw [byl_drop]
  exact List.drop_eq_nil_of_le (by rw [byl_len]; omega)
 rw [this] at h
 exact parse_nil h
theorem byl_take (s : ByteArray) (k : Nat) : byl (s.extract 0 k) = (byl s).take k := by
 unfold byl
 rw [ByteArray.data_extract, Array.toList_extract]
 simp [List.extract_eq_take_drop, List.map_take]
theorem byl_get {s : ByteArray} {i : Nat} : s.data.toList[i]? = some 47 ↔ i < s.size ∧ at0 (byl s) i = 47 := by
 have hl := byl_len s
 have hs : s.size = s.data.toList.length := by simp
 constructor
 ·intro h
  obtain ⟨h1, h2⟩ := List.getElem?_eq_some_iff.1 h
  have hi : i < (byl s).length := by omega
  refine ⟨by omega, ?_⟩
  rw [at0_of_lt hi]
  simp only [byl, List.getElem_map, h2]
  rfl
 ·rintro ⟨h1, h2⟩
  have hi : i < (byl s).length := by omega
  have hi2 : i < s.data.toList.length := by omega
  rw [at0_of_lt hi] at h2
  simp only [byl, List.getElem_map] at h2
  rw [List.getElem?_eq_getElem hi2]
  congr 1
  exact UInt8.toNat_inj.1 (by have : ((47 : UInt8).toNat : Int) = 47 := rfl; omega)
theorem cut_at {s : ByteArray} {i : Nat} (h : cutI s = (i : Int)) : at0 (byl s) i = 47 ∧ ∀ k, k < i → at0 (byl s) k ≠ 47 := by
 obtain ⟨h1, h2⟩ := Lib.indexByte_some h
 have h3 := byl_get.1 h1
 refine ⟨h3.2, fun k hk e => h2 k hk (byl_get.2 ⟨by omega, e⟩)⟩
theorem cut_none {s : ByteArray} (h : cutI s = -1) (k : Nat) (hk : k < s.size) : at0 (byl s) k ≠ 47 := fun e => Lib.indexByte_none h k (byl_get.2 ⟨hk, e⟩)
structure LsI (s : ByteArray) (j : Nat) (q : Int) : Prop where
 le : j ≤ s.size
 st : (q = -1 ∧ ∀ i, i < j → at0 (byl s) i ≠ 47) ∨ ∃ k : Nat, q = (k : Int) ∧ k < j ∧ at0 (byl s) k = 47 ∧ ∀ i, k < i → i < j → at0 (byl s) i ≠ 47
theorem LsI.start (s : ByteArray) : LsI s 0 (-1) := ⟨Nat.zero_le _, .inl ⟨rfl, fun i h => absurd h (Nat.not_lt_zero i)⟩⟩
theorem LsI.yes {s : ByteArray} {j : Nat} {q : Int} (h : LsI s j q) (hj : j < s.size) (hc : at0 (byl s) j = 47) : LsI s (j + 1) (j : Int) := ⟨hj, .inr ⟨j, rfl, by omega, hc, fun i h1 h2 => absurd h2 (by omega)⟩⟩
theorem LsI.no {s : ByteArray} {j : Nat} {q : Int} (h : LsI s j q) (hj : j < s.size) (hc : ¬ at0 (byl s) j = 47) : LsI s (j + 1) q := by
 refine ⟨hj, ?_⟩
 rcases h.st with ⟨h1, h2⟩ | ⟨k, h1, h2, h3, h4⟩
 ·refine .inl ⟨h1, fun i hi => ?_⟩
  by_cases e : i = j
  ·subst e; exact hc
  ·exact h2 i (by omega)
 ·refine .inr ⟨k, h1, by omega, h3, fun i hi hi2 => ?_⟩
  by_cases e : i = j
  ·subst e; exact hc
  ·exact h4 i hi (by omega)
theorem LsI.none {s : ByteArray} {q : Int} (h : LsI s s.size q) (hq : q < 0) : cutI s = -1 := by
 rcases h.st with ⟨h1, h2⟩ | ⟨k, h1, _⟩
 ·rcases cut_cases s with hi | ⟨i, hi, hs⟩
  ·exact hi
  ·exact absurd (cut_at hi).1 (h2 i hs)
 ·omega
theorem LsI.some {s : ByteArray} {q : Int} (h : LsI s s.size q) (hq : ¬ q < 0) : ∃ k : Nat, q = (k : Int) ∧ k < s.size ∧ at0 (byl s) k = 47 ∧ ∀ i, k < i → i < s.size → at0 (byl s) i ≠ 47 := by
 rcases h.st with ⟨h1, h2⟩ | h1
 ·omega
 ·exact h1
section
variable {r : Int} {s : ByteArray} {k : Nat} {n d e : Int}
theorem cut_first (hk1 : k < s.size) (hk2 : at0 (byl s) k = 47) : ∃ i : Nat, cutI s = (i : Int) ∧ i ≤ k ∧ at0 (byl s) i = 47 := by
 rcases cut_cases s with hi | ⟨i, hi, hs⟩
 ·exact absurd hk2 (cut_none hi k hk1)
 ·obtain ⟨h1, h2⟩ := cut_at hi
  refine ⟨i, hi, ?_, h1⟩
  apply Classical.byContradiction
  intro hn
  exact h2 k (by omega) hk2
theorem cut_top (h : 2 ≤ r ∧ r ≤ 36) (hl : ¬ 20000 < s.size) (hk1 : k < s.size) (hk2 : at0 (byl s) k = 47) (hn : parseR r (byl (s.extract 0 k)) = .ok n) : cutI s = (k : Int) := by
 obtain ⟨i, hi, hik, h47⟩ := cut_first hk1 hk2
 by_cases e : i = k
 ·rw [← e]; exact hi
 ·exfalso
  rw [byl_take] at hn
  have hlen := byl_len s
  have := parse_slash h (l := (byl s).take k) (by rw [List.length_take]; omega) (i := i) (by rw [List.length_take]; omega) (by
   rw [at0_of_lt (by rw [List.length_take]; omega), List.getElem_take, ← at0_of_lt]; exact h47)
  rw [this] at hn
  cases hn
theorem at0_drop (l : List Int) (k : Nat) : at0 (l.drop k) 0 = at0 l k := by simp [at0]
theorem at0_drop' (l : List Int) (k i : Nat) : at0 (l.drop k) i = at0 l (k + i) := by simp [at0]
theorem pq_top (h : 2 ≤ r ∧ r ≤ 36) (hl : ¬ 20000 < s.size) (hk1 : k < s.size) (hk2 : at0 (byl s) k = 47) (hk3 : ∀ i, k < i → i < s.size → at0 (byl s) i ≠ 47) (he : parseR r (byl (s.extract 0 k)) = .error e) : parseQ r s = .error 2 := by
 obtain ⟨i, hi, hik, h47⟩ := cut_first hk1 hk2
 have hlen := byl_len s
 by_cases ei : i = k
 ·subst ei
  have h2 := parse_two h (by rw [byl_take, List.length_take]; omega) he
  rw [parseQ_y1 h hl hi he, h2]
 ·have hb : parseR r (byl (s.extract (i + 1) s.size)) = .error 2 := by
   rw [byl_drop]
   exact parse_slash h (by rw [List.length_drop]; omega) (i := k - (i + 1)) (by rw [List.length_drop]; omega) (by rw [at0_drop', show i + 1 + (k - (i + 1)) = k by omega]; exact hk2)
  cases ht : parseR r (byl (s.extract 0 i)) with
  | error e' =>
   have h2 := parse_two h (by rw [byl_take, List.length_take]; omega) ht
   rw [parseQ_y1 h hl hi ht, h2]
  | ok n' =>
   by_cases hs : (0 < (s.extract (i + 1) s.size).size ∧ at0 (byl (s.extract (i + 1) s.size)) 0 = 43) ∨ (0 < (s.extract (i + 1) s.size).size ∧ at0 (byl (s.extract (i + 1) s.size)) 0 = 45)
   ·exact parseQ_y2 h hl hi ht hs
   ·exact parseQ_y3 h hl hi ht hs hb
theorem pq_bot (h : 2 ≤ r ∧ r ≤ 36) (hl : ¬ 20000 < s.size) (hk1 : k < s.size) (hk2 : at0 (byl s) k = 47) (hk3 : ∀ i, k < i → i < s.size → at0 (byl s) i ≠ 47) (hn : parseR r (byl (s.extract 0 k)) = .ok n) (hd : parseR r (byl (s.extract (k + 1) s.size)) = .error e) : parseQ r s = .error 2 := by
 have hi := cut_top h hl hk1 hk2 hn
 have hlen := byl_len s
 by_cases hs : (0 < (s.extract (k + 1) s.size).size ∧ at0 (byl (s.extract (k + 1) s.size)) 0 = 43) ∨ (0 < (s.extract (k + 1) s.size).size ∧ at0 (byl (s.extract (k + 1) s.size)) 0 = 45)
 ·exact parseQ_y2 h hl hi hn hs
 ·have h2 := parse_two h (by rw [byl_drop, List.length_drop]; omega) hd
  rw [parseQ_y3 h hl hi hn hs hd, h2]
theorem sgn_at : at0 (byl (s.extract (k + 1) s.size)) 0 = at0 (byl s) (k + 1) := by rw [byl_drop, at0_drop]
theorem pq_sgn (h : 2 ≤ r ∧ r ≤ 36) (hl : ¬ 20000 < s.size) (hk1 : k < s.size) (hk2 : at0 (byl s) k = 47) (hk3 : ∀ i, k < i → i < s.size → at0 (byl s) i ≠ 47) (hn : parseR r (byl (s.extract 0 k)) = .ok n) (hd : parseR r (byl (s.extract (k + 1) s.size)) = .ok d) (hs : at0 (byl s) (k + 1) = 43 ∨ at0 (byl s) (k + 1) = 45) : parseQ r s = .error 2 := by
 have hp : 0 < (s.extract (k + 1) s.size).size := by have := parse_len hd; rw [ext_size]; omega
 refine parseQ_y2 h hl (cut_top h hl hk1 hk2 hn) hn ?_
 rw [sgn_at]
 rcases hs with e | e
 ·exact .inl ⟨hp, e⟩
 ·exact .inr ⟨hp, e⟩
theorem pq_zero (h : 2 ≤ r ∧ r ≤ 36) (hl : ¬ 20000 < s.size) (hk1 : k < s.size) (hk2 : at0 (byl s) k = 47) (hk3 : ∀ i, k < i → i < s.size → at0 (byl s) i ≠ 47) (hn : parseR r (byl (s.extract 0 k)) = .ok n) (hd : parseR r (byl (s.extract (k + 1) s.size)) = .ok d) (hp : ¬ at0 (byl s) (k + 1) = 43) (hm : ¬ at0 (byl s) (k + 1) = 45) (h0 : d = 0) : parseQ r s = .error 6 :=
 parseQ_y4 h hl (cut_top h hl hk1 hk2 hn) hn (by rw [sgn_at]; exact fun x => x.elim (fun x => hp x.2) (fun x => hm x.2)) hd h0
theorem pq_ok (h : 2 ≤ r ∧ r ≤ 36) (hl : ¬ 20000 < s.size) (hk1 : k < s.size) (hk2 : at0 (byl s) k = 47) (hk3 : ∀ i, k < i → i < s.size → at0 (byl s) i ≠ 47) (hn : parseR r (byl (s.extract 0 k)) = .ok n) (hd : parseR r (byl (s.extract (k + 1) s.size)) = .ok d) (hp : ¬ at0 (byl s) (k + 1) = 43) (hm : ¬ at0 (byl s) (k + 1) = 45) (h0 : ¬ d = 0) : parseQ r s = .ok (Rat.divInt n d) :=
 parseQ_y5 h hl (cut_top h hl hk1 hk2 hn) hn (by rw [sgn_at]; exact fun x => x.elim (fun x => hp x.2) (fun x => hm x.2)) hd h0
end
end Go.Proofs.YthpjmhhfcechmaaGreat.Sy
