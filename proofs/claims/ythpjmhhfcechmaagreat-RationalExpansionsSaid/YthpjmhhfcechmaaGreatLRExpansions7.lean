/- Parts Lg, Ld, Sd, in one file. -/
import Derived.Test.YthpjmhhfcechmaaGreatLRExpansions3
import Derived.Test.YthpjmhhfcechmaaGreatLRExpansions4
import Derived.Test.YthpjmhhfcechmaaGreatLRExpansions5
import Derived.Test.YthpjmhhfcechmaaGreatLRExpansions6
/- The contract of the program's long (division by at least two limbs), by rules. -/
set_option linter.unusedVariables false
set_option linter.unusedSimpArgs false
namespace Go.Proofs.YthpjmhhfcechmaaGreat.Sy
open Go Go.RowKit Ma
structure Gd (us vs : List Int) (i : Nat) (T : Int) : Prop where
 d0 : 0 ≤ T
 lt : T < 4294967296
 lo : 4294967296 ^ i * ((T - 1) * lv 4294967296 vs) ≤ lv 4294967296 us
 up : lv 4294967296 us < 4294967296 ^ i * ((T + 1) * lv 4294967296 vs)
theorem k_lz {x : Int} {s : Nat} (h0 : 1 ≤ x) (h1 : x < 4294967296) (hs : s = 32 - wid x) : CallOk 161 [KV (.int .u32 x)] (KV (.int .i64 (s : Int))) :=
 call1 ce_lz fun W u e => by
  obtain rfl : u = _ := e
  have hw := (shift_fits h0 h1).1
  exact (Tryz.bits_LeadingZeros32 x W (by omega) (by omega)).mono fun e W' ⟨e1, e2⟩ => ⟨_, e1, by rw [bitLen_wid x (by omega) h1, hs]; show Value.int .i64 _ = .int .i64 _; congr 1; omega, e2 ▸ Nw.refl _⟩
set_option maxHeartbeats 6400000 in
set_option maxRecDepth 100000 in
theorem long_c {A Bd : Option Addr} {c d : Nat} {xs ys : List Int} {w : World} (rA : Rd w .u32 A xs) (rB : Rd w .u32 Bd ys) (dx : dg 4294967296 xs) (dy : dg 4294967296 ys) (hl : xs.length ≤ 500000) (hn : 2 ≤ ys.length) (hle : ys.length ≤ xs.length) (ht : top ys) :
  Calls Tryz.prog 149 #[.slice A xs.length c, .slice Bd ys.length d] w (Ret w (K2 (KL .u32 fun zs => dg 4294967296 zs ∧ lv 4294967296 zs = lv 4294967296 xs / lv 4294967296 ys ∧ zs.length ≤ xs.length) (KL .u32 fun zs => dg 4294967296 zs ∧ lv 4294967296 zs = lv 4294967296 xs % lv 4294967296 ys ∧ zs.length = ys.length))) := by
 obtain ⟨ad, rfl, hcell⟩ := rB.2 (ys.length - 1) (by omega)
 have hy0 : 1 ≤ at0 ys (ys.length - 1) := by have := (top_at (by intro h; rw [h] at hn; simp at hn)).1 ht; have := (dg_at dy BB_pos (ys.length - 1)).1; omega
 have hy1 : at0 ys (ys.length - 1) < 4294967296 := (dg_at dy BB_pos (ys.length - 1)).2
 obtain ⟨s, hs⟩ : ∃ s, s = 32 - wid (at0 ys (ys.length - 1)) := ⟨_, rfl⟩
 have hsw := shift_fits hy0 hy1
 clear ht
 refine calls_sc (l := [.vl (.slice A xs.length c), .vl (.slice (some ad) ys.length d)]) (us := [.slice A xs.length c, .slice (some ad) ys.length d]) 244 Tryz.func149 rfl Tryz.ntmps149 (by simp) ⟨rfl, rfl, rfl, rfl, trivial⟩ ?_
 refine SC.seq (SC.region (PW.assign rfl rfl rfl rfl rfl (PW.assign rfl rfl rfl rfl rfl (PW.nil (SX.then (SC.seq (SC.region (PW.move rfl rfl rfl rfl rfl (PW.move rfl rfl rfl rfl rfl ?_)))))))))
 refine PW.qn [(.tmp 27, .slice (some ad) ys.length d)] (.int .i64 (ys.length : Int)) rfl rfl rfl ⟨rfl, trivial⟩ (fun ρ W h => by obtain ⟨h1, _⟩ := h; exact r_len h1) ?_
 refine PW.q2 (x := .tmp 28) (y := .const (.int .i64 1)) (.int .i64 (((ys.length - 1 : Nat) : Int))) rfl rfl rfl rfl rfl (fun ρ W h1 h2 => by exact r_sub h1 h2 (by omega) (by omega)) ?_
 refine PW.q2 (x := .tmp 26) (y := .tmp 29) (.pointer (some (ad.add (ys.length - 1)))) rfl rfl rfl rfl rfl (fun ρ W h1 h2 => r_idxA h1 h2 (by omega)) ?_
 refine PW.iload rfl rfl rfl rfl rfl rfl (hcell) r_l32 ?_
 refine PW.call (r := .vl (.int .i64 (s : Int))) rfl rfl rfl rfl rfl rfl (KV.st _) rfl (k_lz hy0 hy1 hs) ?_
 refine PW.q1 (x := .tmp 32) (.int .u64 (s : Int)) rfl rfl rfl rfl (fun ρ W h1 => by exact r_u h1 (by omega)) ?_
 refine PW.assign rfl rfl rfl rfl rfl (PW.nil (SX.then (SC.seq (SC.region (PW.move rfl rfl rfl rfl rfl (PW.move rfl rfl rfl rfl rfl ?_))))))
 refine PW.callO 244 ce_shifted rfl rfl rfl rfl rfl (fun a W hf => by have h1 := hf.vl (s := 34) rfl; have h2 := hf.vl (s := 35) rfl; show Calls Tryz.prog _ #[a.tmps.getD 34 undef, a.tmps.getD 35 undef] W _; rw [h1, h2]; exact shifted_o A c xs s W (Rd.below rA hf.be) dx (by omega) (by omega)) fun g1 c1 U0 hU0 => ?_
 refine PW.move rfl rfl rfl rfl rfl (PW.move rfl rfl rfl rfl rfl ?_)
 refine PW.callO 245 ce_shifted rfl rfl rfl rfl rfl (fun a W hf => by have h1 := hf.vl (s := 37) rfl; have h2 := hf.vl (s := 38) rfl; show Calls Tryz.prog _ #[a.tmps.getD 37 undef, a.tmps.getD 38 undef] W _; rw [h1, h2]; exact shifted_o (some ad) d ys s W (Rd.below rB hf.be) dy (by omega) (by omega)) fun g2 c2 V0 hV0 => ?_
 refine PW.callG (r := .vl (.slice (some ⟨g2, 0, none⟩) (trim V0).length c2)) ce_trimmed rfl rfl rfl rfl rfl (KV.st _) rfl (fun a W hf => by have h1 := hf.vl (s := 39) rfl; have h2 := hf.rd (K := 245) rfl; show Calls Tryz.prog _ #[a.tmps.getD 39 undef] W _; rw [h1]; exact (trimmed_c _ _ V0 W h2.1 h2.2).mono fun e W' ⟨e1, e2⟩ => ⟨_, e1, rfl, e2 ▸ Nw.refl _⟩) ?_
 refine PW.more _ (fun a W hf => Fr.trims (K := 245) hf rfl) ?_
 refine PW.assign rfl rfl rfl rfl rfl (PW.assign rfl rfl rfl rfl rfl (PW.nil (SX.then (SC.seq ?_))))
 refine SC.keep [(4, .vl (.slice none 0 0)), (5, .vl (.slice none 0 0)), (6, .vl (.int .u64 (s : Int))), (7, .vl (.slice (some ⟨g1, 0, none⟩) U0.length c1)), (8, .vl (.slice (some ⟨g2, 0, none⟩) (trim V0).length c2)), (244, .ro (.slice (some ⟨g1, 0, none⟩) U0.length c1) 140 (.int .u32) (U0)), (245, .ro (.slice (some ⟨g2, 0, none⟩) (trim V0).length c2) 140 (.int .u32) (trim V0))] ⟨rfl, rfl, rfl, rfl, rfl, rfl, rfl, trivial⟩ ?_
 obtain ⟨dU, eU, lU⟩ := hU0
 have dU : dg 4294967296 U0 := dU
 have eU : lv 4294967296 U0 = lv 4294967296 xs * 2 ^ s := eU
 obtain ⟨dV, eV, lV⟩ := hV0
 have dv : dg 4294967296 (trim V0) := trim_dg dV
 have tv := trim_top V0
 have ev : lv 4294967296 (trim V0) = lv 4294967296 ys * 2 ^ s := (trim_lv 4294967296 V0).trans eV
 generalize trim V0 = vs at dv tv ev ⊢
 clear dV eV lV
 obtain ⟨vl, vt, vlo⟩ := same_len dy (by omega) hy0 hs dv tv ev
 have hv := fun m => dg_at dv BB_pos m
 have hT0 : 0 < at0 vs (vs.length - 1) := by omega
 obtain ⟨L, hL⟩ : ∃ L, L = xs.length + 1 - ys.length := ⟨_, rfl⟩
 have l0 := lft_start dx (by omega) hle dU eU vlo hL
 refine SC.region (PW.move rfl rfl rfl rfl rfl ?_)
 refine PW.qn [(.tmp 41, .slice (some ⟨g2, 0, none⟩) vs.length c2)] (.int .i64 (vs.length : Int)) rfl rfl rfl ⟨rfl, trivial⟩ (fun ρ W h => by obtain ⟨h1, _⟩ := h; exact r_len h1) ?_
 refine PW.assign rfl rfl rfl rfl rfl (PW.nil (SX.then (SC.seq (SC.region (PW.move rfl rfl rfl rfl rfl (PW.move rfl rfl rfl rfl rfl ?_))))))
 refine PW.q2 (x := .tmp 44) (y := .const (.int .i64 1)) (.int .i64 (((vs.length - 1 : Nat) : Int))) rfl rfl rfl rfl rfl (fun ρ W h1 h2 => by exact r_sub h1 h2 (by omega) (by omega)) ?_
 refine PW.q2 (x := .tmp 43) (y := .tmp 45) (.pointer (some ⟨g2, vs.length - 1, none⟩)) rfl rfl rfl rfl rfl (fun ρ W h1 h2 => r_idx h1 h2 (by omega)) ?_
 refine PW.rload (K := 245) (i := vs.length - 1) rfl rfl rfl rfl rfl rfl (by omega) r_l32 ?_
 refine PW.q1 (x := .tmp 47) (.int .u64 (at0 vs (vs.length - 1))) rfl rfl rfl rfl (fun ρ W h1 => by exact r_64 h1 (hv _)) ?_
 refine PW.assign rfl rfl rfl rfl rfl (PW.nil (SX.then (SC.seq (SC.region (PW.move rfl rfl rfl rfl rfl ?_)))))
 refine PW.qn [(.tmp 49, .slice (some ⟨g1, 0, none⟩) U0.length c1)] (.int .i64 (U0.length : Int)) rfl rfl rfl ⟨rfl, trivial⟩ (fun ρ W h => by obtain ⟨h1, _⟩ := h; exact r_len h1) ?_
 refine PW.move rfl rfl rfl rfl rfl ?_
 refine PW.q2 (x := .tmp 50) (y := .tmp 51) (.int .i64 (L : Int)) rfl rfl rfl rfl rfl (fun ρ W h1 h2 => by exact r_sub h1 h2 (by omega) (by omega)) ?_
 refine PW.make (n := L) 246 rfl rfl rfl rfl rfl Tryz.underlying22 info_u32 (by omega) (by unfold maxLen; omega) fun g3 => ?_
 refine PW.assign rfl rfl rfl rfl rfl (PW.nil (SX.then (SC.seq (SC.seq (SC.region (PW.move rfl rfl rfl rfl rfl ?_))))))
 refine PW.qn [(.tmp 54, .slice (some ⟨g3, 0, none⟩) L L)] (.int .i64 (L : Int)) rfl rfl rfl ⟨rfl, trivial⟩ (fun ρ W h => by obtain ⟨h1, _⟩ := h; exact r_len h1) ?_
 refine PW.q2 (x := .tmp 55) (y := .const (.int .i64 1)) (.int .i64 ((L : Int) - 1)) rfl rfl rfl rfl rfl (fun ρ W h1 h2 => by exact r_sub h1 h2 (by omega) (by omega)) ?_
 refine PW.assign rfl rfl rfl rfl rfl (PW.nil (SX.then (SC.block ?_)))
 refine SC.loop (S := Nat × List Int × List Int) (fun ⟨t, us, qs⟩ => [(4, .vl (.slice (some ⟨g3, 0, none⟩) L L)), (6, .vl (.int .u64 (s : Int))), (7, .vl (.slice (some ⟨g1, 0, none⟩) U0.length c1)), (8, .vl (.slice (some ⟨g2, 0, none⟩) vs.length c2)), (9, .vl (.int .i64 (vs.length : Int))), (10, .vl (.int .u64 (at0 vs (vs.length - 1)))), (11, .vl (.int .i64 ((t : Int) - 1))), (244, .ro (.slice (some ⟨g1, 0, none⟩) U0.length c1) 140 (.int .u32) (us)), (245, .ro (.slice (some ⟨g2, 0, none⟩) vs.length c2) 140 (.int .u32) (vs)), (246, .ro (.slice (some ⟨g3, 0, none⟩) L L) 140 (.int .u32) (qs))]) (fun ⟨t, us, qs⟩ => Ro U0 vs L t us qs) (fun ⟨t, us, qs⟩ => t) (L, U0, List.replicate L 0) (Ro.start l0) ⟨rfl, rfl, rfl, rfl, rfl, rfl, rfl, rfl, rfl, rfl, trivial⟩ ?_
 rintro ⟨t, us, qs⟩ hR
 show SC _ _ _ _ [(4, .vl (.slice (some ⟨g3, 0, none⟩) L L)), (6, .vl (.int .u64 (s : Int))), (7, .vl (.slice (some ⟨g1, 0, none⟩) U0.length c1)), (8, .vl (.slice (some ⟨g2, 0, none⟩) vs.length c2)), (9, .vl (.int .i64 (vs.length : Int))), (10, .vl (.int .u64 (at0 vs (vs.length - 1)))), (11, .vl (.int .i64 ((t : Int) - 1))), (244, .ro (.slice (some ⟨g1, 0, none⟩) U0.length c1) 140 (.int .u32) (us)), (245, .ro (.slice (some ⟨g2, 0, none⟩) vs.length c2) 140 (.int .u32) (vs)), (246, .ro (.slice (some ⟨g3, 0, none⟩) L L) 140 (.int .u32) (qs))] _
 refine SC.seq (SC.seq ?_)
 by_cases ht : (0 : Int) ≤ (t : Int) - 1
 ·obtain ⟨i, rfl⟩ : ∃ i, t = i + 1 := ⟨t - 1, by omega⟩
  rw [show ((i + 1 : Nat) : Int) - 1 = (i : Int) by omega]
  rw [show ((i + 1 : Nat) : Int) - 1 = (i : Int) by omega] at ht
  refine SC.region (PW.move rfl rfl rfl rfl rfl ?_)
  refine PW.q2 (x := .tmp 57) (y := .const (.int .i64 0)) (.bool true) rfl rfl rfl rfl rfl (fun ρ W h1 h2 => by exact r_ge h1 h2 (decide_eq_true ht)) ?_
  refine PW.nil (SX.then (SC.cond (t := true) rfl (SC.skip (SX.then (SC.seq (SC.block (SC.seq ?_)))))))
  have hu := fun m => dg_at hR.lf.1 BB_pos m
  have hul := hR.ul
  have hil : i + vs.length < us.length := by rw [hR.ul]; have := hR.tL; omega
  have hql : i < qs.length := by rw [hR.ql]; exact hR.tL
  have hH : 0 ≤ at0 us (i + vs.length) * 4294967296 + at0 us (i + vs.length - 1) ∧ at0 us (i + vs.length) * 4294967296 + at0 us (i + vs.length - 1) < 18446744073709551616 := by have a1 := hu (i + vs.length); have a2 := hu (i + vs.length - 1); omega
  refine SC.dx [.val 61 (.vl (.slice (some ⟨g1, 0, none⟩) U0.length c1)), .val 62 (.vl (.int .i64 (i : Int))), .val 63 (.vl (.int .i64 (vs.length : Int))), .val 64 (.vl (.int .i64 (((i + vs.length : Nat) : Int)))), .val 65 (.vl (.pointer (some ⟨g1, i + vs.length, none⟩))), .val 66 (.vl (.int .u32 (at0 us (i + vs.length)))), .val 67 (.vl (.int .u64 (at0 us (i + vs.length)))), .val 68 (.vl (.int .u64 (at0 us (i + vs.length) * 4294967296))), .val 69 (.vl (.slice (some ⟨g1, 0, none⟩) U0.length c1)), .val 70 (.vl (.int .i64 (i : Int))), .val 71 (.vl (.int .i64 (vs.length : Int))), .val 72 (.vl (.int .i64 (((i + vs.length : Nat) : Int)))), .val 73 (.vl (.int .i64 (((i + vs.length - 1 : Nat) : Int)))), .val 74 (.vl (.pointer (some ⟨g1, i + vs.length - 1, none⟩))), .val 75 (.vl (.int .u32 (at0 us (i + vs.length - 1)))), .val 76 (.vl (.int .u64 (at0 us (i + vs.length - 1)))), .val 77 (.vl (.int .u64 (at0 us (i + vs.length) * 4294967296 + at0 us (i + vs.length - 1)))), .val 12 (.vl (.int .u64 (at0 us (i + vs.length) * 4294967296 + at0 us (i + vs.length - 1))))] [([], [7]), ([], [11]), ([], [9]), ([1, 2], []), ([0, 3], []), ([4], [244]), ([5], []), ([6], []), ([], [7]), ([], [11]), ([], [9]), ([9, 10], []), ([11], []), ([8, 12], []), ([13], [244]), ([14], []), ([7, 15], []), ([16], [])] rfl (by kernel_rfl) (by kernel_rfl) (by kernel_rfl) rfl ⟨?_, ?_, ?_, ?_, ?_, ?_, ?_, ?_, ?_, ?_, ?_, ?_, ?_, ?_, ?_, ?_, ?_, ?_, trivial⟩ ?_
  ·exact DX.move rfl rfl rfl rfl rfl rfl
  ·exact DX.move rfl rfl rfl rfl rfl rfl
  ·exact DX.move rfl rfl rfl rfl rfl rfl
  ·exact DX.q2 (x := .tmp 62) (y := .tmp 63) (.int .i64 (((i + vs.length : Nat) : Int))) rfl rfl rfl rfl rfl (fun ρ W h1 h2 => by exact r_add h1 h2 (by omega) (by omega))
  ·exact DX.q2 (x := .tmp 61) (y := .tmp 64) (.pointer (some ⟨g1, i + vs.length, none⟩)) rfl rfl rfl rfl rfl (fun ρ W h1 h2 => r_idx h1 h2 (by omega))
  ·exact DX.rload (K := 244) (i := i + vs.length) rfl rfl rfl rfl rfl rfl (by omega) r_l32
  ·exact DX.q1 (x := .tmp 66) (.int .u64 (at0 us (i + vs.length))) rfl rfl rfl rfl (fun ρ W h1 => by exact r_64 h1 (hu _))
  ·exact DX.q2 (x := .tmp 67) (y := .const (.int .u64 32)) (.int .u64 (at0 us (i + vs.length) * 4294967296)) rfl rfl rfl rfl rfl (fun ρ W h1 h2 => by exact r_up32 h1 h2 (hu _))
  ·exact DX.move rfl rfl rfl rfl rfl rfl
  ·exact DX.move rfl rfl rfl rfl rfl rfl
  ·exact DX.move rfl rfl rfl rfl rfl rfl
  ·exact DX.q2 (x := .tmp 70) (y := .tmp 71) (.int .i64 (((i + vs.length : Nat) : Int))) rfl rfl rfl rfl rfl (fun ρ W h1 h2 => by exact r_add h1 h2 (by omega) (by omega))
  ·exact DX.q2 (x := .tmp 72) (y := .const (.int .i64 1)) (.int .i64 (((i + vs.length - 1 : Nat) : Int))) rfl rfl rfl rfl rfl (fun ρ W h1 h2 => by exact r_sub h1 h2 (by omega) (by omega))
  ·exact DX.q2 (x := .tmp 69) (y := .tmp 73) (.pointer (some ⟨g1, i + vs.length - 1, none⟩)) rfl rfl rfl rfl rfl (fun ρ W h1 h2 => r_idx h1 h2 (by omega))
  ·exact DX.rload (K := 244) (i := i + vs.length - 1) rfl rfl rfl rfl rfl rfl (by omega) r_l32
  ·exact DX.q1 (x := .tmp 75) (.int .u64 (at0 us (i + vs.length - 1))) rfl rfl rfl rfl (fun ρ W h1 => by exact r_64 h1 (hu _))
  ·exact DX.q2 (x := .tmp 68) (y := .tmp 76) (.int .u64 (at0 us (i + vs.length) * 4294967296 + at0 us (i + vs.length - 1))) rfl rfl rfl rfl rfl (fun ρ W h1 h2 => by exact r_join h1 h2 (hu _) (hu _))
  ·exact DX.assign rfl rfl rfl rfl rfl rfl
  refine SX.then (SC.seq ?_)
  refine SC.dx [.val 78 (.vl (.int .u64 (at0 us (i + vs.length) * 4294967296 + at0 us (i + vs.length - 1)))), .val 79 (.vl (.int .u64 (at0 vs (vs.length - 1)))), .val 80 (.vl (.int .u64 ((at0 us (i + vs.length) * 4294967296 + at0 us (i + vs.length - 1)) / at0 vs (vs.length - 1)))), .val 81 (.vl (.int .u64 (at0 us (i + vs.length) * 4294967296 + at0 us (i + vs.length - 1)))), .val 82 (.vl (.int .u64 (at0 vs (vs.length - 1)))), .val 83 (.vl (.int .u64 ((at0 us (i + vs.length) * 4294967296 + at0 us (i + vs.length - 1)) % at0 vs (vs.length - 1)))), .val 13 (.vl (.int .u64 ((at0 us (i + vs.length) * 4294967296 + at0 us (i + vs.length - 1)) / at0 vs (vs.length - 1)))), .val 14 (.vl (.int .u64 ((at0 us (i + vs.length) * 4294967296 + at0 us (i + vs.length - 1)) % at0 vs (vs.length - 1))))] [([], [12]), ([], [10]), ([0, 1], []), ([], [12]), ([], [10]), ([3, 4], []), ([2], []), ([5], [])] rfl (by kernel_rfl) (by kernel_rfl) (by kernel_rfl) rfl ⟨?_, ?_, ?_, ?_, ?_, ?_, ?_, ?_, trivial⟩ ?_
  ·exact DX.move rfl rfl rfl rfl rfl rfl
  ·exact DX.move rfl rfl rfl rfl rfl rfl
  ·exact DX.q2 (x := .tmp 78) (y := .tmp 79) (.int .u64 ((at0 us (i + vs.length) * 4294967296 + at0 us (i + vs.length - 1)) / at0 vs (vs.length - 1))) rfl rfl rfl rfl rfl (fun ρ W h1 h2 => by exact r_quo6 h1 h2 hH hT0)
  ·exact DX.move rfl rfl rfl rfl rfl rfl
  ·exact DX.move rfl rfl rfl rfl rfl rfl
  ·exact DX.q2 (x := .tmp 81) (y := .tmp 82) (.int .u64 ((at0 us (i + vs.length) * 4294967296 + at0 us (i + vs.length - 1)) % at0 vs (vs.length - 1))) rfl rfl rfl rfl rfl (fun ρ W h1 h2 => by exact r_rem6 h1 h2 hH hT0 (by have := hv (vs.length - 1); omega))
  ·exact DX.assign rfl rfl rfl rfl rfl rfl
  ·exact DX.assign rfl rfl rfl rfl rfl rfl
  refine SX.then (SC.seq (SC.block ?_))
  refine SC.loop (S := Int × Int) (fun ⟨D, r⟩ => [(4, .vl (.slice (some ⟨g3, 0, none⟩) L L)), (6, .vl (.int .u64 (s : Int))), (7, .vl (.slice (some ⟨g1, 0, none⟩) U0.length c1)), (8, .vl (.slice (some ⟨g2, 0, none⟩) vs.length c2)), (9, .vl (.int .i64 (vs.length : Int))), (10, .vl (.int .u64 (at0 vs (vs.length - 1)))), (11, .vl (.int .i64 (i : Int))), (13, .vl (.int .u64 (D))), (14, .vl (.int .u64 (r))), (244, .ro (.slice (some ⟨g1, 0, none⟩) U0.length c1) 140 (.int .u32) (us)), (245, .ro (.slice (some ⟨g2, 0, none⟩) vs.length c2) 140 (.int .u32) (vs)), (246, .ro (.slice (some ⟨g3, 0, none⟩) L L) 140 (.int .u32) (qs))]) (fun ⟨D, r⟩ => Es us vs i D r ∧ r < 4294967296 ∧ D < 18446744073709551616) (fun ⟨D, r⟩ => D.toNat) (((at0 us (i + vs.length) * 4294967296 + at0 us (i + vs.length - 1)) / at0 vs (vs.length - 1)), ((at0 us (i + vs.length) * 4294967296 + at0 us (i + vs.length - 1)) % at0 vs (vs.length - 1))) ⟨Es.start hR.lf dv (by omega) hil (by omega) rfl, by have := hv (vs.length - 1); have := Int.emod_lt_of_pos (at0 us (i + vs.length) * 4294967296 + at0 us (i + vs.length - 1)) hT0; omega, by have := Int.ediv_le_self (at0 vs (vs.length - 1)) hH.1; have := hH.2; exact Int.lt_of_le_of_lt ‹_› ‹_›⟩ ⟨rfl, rfl, rfl, rfl, rfl, rfl, rfl, rfl, rfl, rfl, rfl, rfl, trivial⟩ ?_
  rintro ⟨D, r⟩ ⟨he, hrB, hDM⟩
  show SC _ _ _ _ [(4, .vl (.slice (some ⟨g3, 0, none⟩) L L)), (6, .vl (.int .u64 (s : Int))), (7, .vl (.slice (some ⟨g1, 0, none⟩) U0.length c1)), (8, .vl (.slice (some ⟨g2, 0, none⟩) vs.length c2)), (9, .vl (.int .i64 (vs.length : Int))), (10, .vl (.int .u64 (at0 vs (vs.length - 1)))), (11, .vl (.int .i64 (i : Int))), (13, .vl (.int .u64 (D))), (14, .vl (.int .u64 (r))), (244, .ro (.slice (some ⟨g1, 0, none⟩) U0.length c1) 140 (.int .u32) (us)), (245, .ro (.slice (some ⟨g2, 0, none⟩) vs.length c2) 140 (.int .u32) (vs)), (246, .ro (.slice (some ⟨g3, 0, none⟩) L L) 140 (.int .u32) (qs))] _
  refine SC.seq (SC.seq ?_)
  by_cases hg : 4294967296 ≤ D
  ·obtain ⟨he2, h1D⟩ := he.down hR.lf dv (by omega) hil (by omega) (.inl hg)
   refine SC.dx [.val 84 (.vl (.int .u64 (D))), .val 85 (.vl (.bool true)), .val 86 (.vl (.bool true)), .val 87 (.vl (undef)), .val 88 (.vl (undef)), .val 89 (.vl (undef)), .val 90 (.vl (undef)), .val 91 (.vl (undef)), .val 92 (.vl (undef)), .val 93 (.vl (undef)), .val 94 (.vl (undef)), .val 95 (.vl (undef)), .val 96 (.vl (undef)), .val 97 (.vl (undef)), .val 98 (.vl (undef)), .val 99 (.vl (undef)), .val 100 (.vl (undef)), .val 101 (.vl (undef)), .val 102 (.vl (undef)), .val 103 (.vl (undef)), .val 104 (.vl (undef)), .val 105 (.vl (undef)), .val 106 (.vl (undef)), .val 107 (.vl (.bool true))] [([], [13]), ([0], []), ([1], []), ([2], []), ([2], []), ([2], []), ([2], []), ([2], []), ([2], []), ([2], []), ([2], []), ([2], []), ([2], []), ([2], []), ([2], []), ([2], []), ([2], []), ([2], []), ([2], []), ([2], []), ([2], []), ([2], []), ([2], []), ([2], [])] rfl (by kernel_rfl) (by kernel_rfl) (by kernel_rfl) rfl ⟨?_, ?_, ?_, ?_, ?_, ?_, ?_, ?_, ?_, ?_, ?_, ?_, ?_, ?_, ?_, ?_, ?_, ?_, ?_, ?_, ?_, ?_, ?_, ?_, trivial⟩ ?_
   ·exact DX.move rfl rfl rfl rfl rfl rfl
   ·exact DX.q2 (x := .tmp 84) (y := .const (.int .u64 4294967296)) (.bool true) rfl rfl rfl rfl rfl (fun ρ W h1 h2 => by exact r_ge6 h1 h2 (decide_eq_true hg))
   ·exact DX.move rfl rfl rfl rfl rfl rfl
   ·exact DX.skip rfl rfl rfl
   ·exact DX.skip rfl rfl rfl
   ·exact DX.skip rfl rfl rfl
   ·exact DX.skip rfl rfl rfl
   ·exact DX.skip rfl rfl rfl
   ·exact DX.skip rfl rfl rfl
   ·exact DX.skip rfl rfl rfl
   ·exact DX.skip rfl rfl rfl
   ·exact DX.skip rfl rfl rfl
   ·exact DX.skip rfl rfl rfl
   ·exact DX.skip rfl rfl rfl
   ·exact DX.skip rfl rfl rfl
   ·exact DX.skip rfl rfl rfl
   ·exact DX.skip rfl rfl rfl
   ·exact DX.skip rfl rfl rfl
   ·exact DX.skip rfl rfl rfl
   ·exact DX.skip rfl rfl rfl
   ·exact DX.skip rfl rfl rfl
   ·exact DX.skip rfl rfl rfl
   ·exact DX.skip rfl rfl rfl
   ·exact DX.pick (t := true) rfl rfl rfl rfl rfl rfl rfl
   refine SX.then (SC.cond (t := true) rfl (SC.skip (SX.then (SC.block (SC.seq (SC.region (PW.move rfl rfl rfl rfl rfl ?_)))))))
   refine PW.q2 (x := .tmp 108) (y := .const (.int .u64 1)) (.int .u64 (D - 1)) rfl rfl rfl rfl rfl (fun ρ W h1 h2 => by exact r_sub6 h1 h2 rfl (by omega)) ?_
   refine PW.assign rfl rfl rfl rfl rfl (PW.nil (SX.then (SC.seq (SC.region (PW.move rfl rfl rfl rfl rfl (PW.move rfl rfl rfl rfl rfl ?_))))))
   refine PW.q2 (x := .tmp 110) (y := .tmp 111) (.int .u64 (r + at0 vs (vs.length - 1))) rfl rfl rfl rfl rfl (fun ρ W h1 h2 => by exact r_add6 h1 h2 rfl (by have := hv (vs.length - 1); have := he.r0; omega)) ?_
   refine PW.assign rfl rfl rfl rfl rfl (PW.nil (SX.then (SC.seq ?_)))
   by_cases hr : 4294967296 ≤ r + at0 vs (vs.length - 1)
   ·obtain ⟨hD, hc⟩ := he2.brk hR.lf dv (by omega) hil (by omega) hr
    have hF : Gd us vs i (D - 1) := ⟨he2.d0, hD, he2.near hR.lf dv (by omega) hil (by omega) hD hc, he2.lt⟩
    refine SC.region (PW.move rfl rfl rfl rfl rfl ?_)
    refine PW.q2 (x := .tmp 113) (y := .const (.int .u64 4294967296)) (.bool true) rfl rfl rfl rfl rfl (fun ρ W h1 h2 => by exact r_ge6 h1 h2 (decide_eq_true hr)) ?_
    refine PW.nil (SX.then (SC.cond (t := true) rfl (SC.exit ?_)))
    refine SX.blockX rfl ?_
    refine SX.thenE (SX.blockE (SX.then (SC.seq ?_)))
    refine SC.keep [(4, .vl (.slice (some ⟨g3, 0, none⟩) L L)), (6, .vl (.int .u64 (s : Int))), (7, .vl (.slice (some ⟨g1, 0, none⟩) U0.length c1)), (8, .vl (.slice (some ⟨g2, 0, none⟩) vs.length c2)), (9, .vl (.int .i64 (vs.length : Int))), (10, .vl (.int .u64 (at0 vs (vs.length - 1)))), (11, .vl (.int .i64 (i : Int))), (13, .vl (.int .u64 (D - 1))), (244, .ro (.slice (some ⟨g1, 0, none⟩) U0.length c1) 140 (.int .u32) (us)), (245, .ro (.slice (some ⟨g2, 0, none⟩) vs.length c2) 140 (.int .u32) (vs)), (246, .ro (.slice (some ⟨g3, 0, none⟩) L L) 140 (.int .u32) (qs))] ⟨rfl, rfl, rfl, rfl, rfl, rfl, rfl, rfl, rfl, rfl, rfl, trivial⟩ ?_
    generalize (D - 1 : Int) = G at hF ⊢
    refine SC.region (PW.assign rfl rfl rfl rfl rfl (PW.assign rfl rfl rfl rfl rfl (PW.nil (SX.then (SC.seq (SC.seq (SC.region (PW.move rfl rfl rfl rfl rfl ?_))))))))
    refine PW.qn [(.tmp 115, .slice (some ⟨g2, 0, none⟩) vs.length c2)] (.int .i64 (vs.length : Int)) rfl rfl rfl ⟨rfl, trivial⟩ (fun ρ W h => by obtain ⟨h1, _⟩ := h; exact r_len h1) ?_
    refine PW.move rfl rfl rfl rfl rfl (PW.nil (SX.then (SC.block ?_)))
    refine SC.loop (S := Nat × List Int × Int × Int) (fun ⟨j, u1, cc, bb⟩ => [(4, .vl (.slice (some ⟨g3, 0, none⟩) L L)), (6, .vl (.int .u64 (s : Int))), (7, .vl (.slice (some ⟨g1, 0, none⟩) U0.length c1)), (8, .vl (.slice (some ⟨g2, 0, none⟩) vs.length c2)), (9, .vl (.int .i64 (vs.length : Int))), (10, .vl (.int .u64 (at0 vs (vs.length - 1)))), (11, .vl (.int .i64 (i : Int))), (13, .vl (.int .u64 (G))), (15, .vl (.int .u64 (cc))), (16, .vl (.int .u64 (bb))), (115, .vl (.slice (some ⟨g2, 0, none⟩) vs.length c2)), (116, .vl (.int .i64 (vs.length : Int))), (117, .vl (.int .i64 (j : Int))), (244, .ro (.slice (some ⟨g1, 0, none⟩) U0.length c1) 140 (.int .u32) (u1)), (245, .ro (.slice (some ⟨g2, 0, none⟩) vs.length c2) 140 (.int .u32) (vs)), (246, .ro (.slice (some ⟨g3, 0, none⟩) L L) 140 (.int .u32) (qs))]) (fun ⟨j, u1, cc, bb⟩ => MS us vs i G j u1 cc bb) (fun ⟨j, u1, cc, bb⟩ => vs.length - j) (0, us, 0, 0) (MS.start hR.lf.1) ⟨rfl, rfl, rfl, rfl, rfl, rfl, rfl, rfl, rfl, rfl, rfl, rfl, rfl, rfl, rfl, rfl, trivial⟩ ?_
    rintro ⟨j, u1, cc, bb⟩ hM
    show SC _ _ _ _ [(4, .vl (.slice (some ⟨g3, 0, none⟩) L L)), (6, .vl (.int .u64 (s : Int))), (7, .vl (.slice (some ⟨g1, 0, none⟩) U0.length c1)), (8, .vl (.slice (some ⟨g2, 0, none⟩) vs.length c2)), (9, .vl (.int .i64 (vs.length : Int))), (10, .vl (.int .u64 (at0 vs (vs.length - 1)))), (11, .vl (.int .i64 (i : Int))), (13, .vl (.int .u64 (G))), (15, .vl (.int .u64 (cc))), (16, .vl (.int .u64 (bb))), (115, .vl (.slice (some ⟨g2, 0, none⟩) vs.length c2)), (116, .vl (.int .i64 (vs.length : Int))), (117, .vl (.int .i64 (j : Int))), (244, .ro (.slice (some ⟨g1, 0, none⟩) U0.length c1) 140 (.int .u32) (u1)), (245, .ro (.slice (some ⟨g2, 0, none⟩) vs.length c2) 140 (.int .u32) (vs)), (246, .ro (.slice (some ⟨g3, 0, none⟩) L L) 140 (.int .u32) (qs))] _
    refine SC.seq ?_
    by_cases hj : (j : Int) < (vs.length : Int)
    ·refine SC.region ?_
     refine PW.q2 (x := .tmp 117) (y := .tmp 116) (.bool true) rfl rfl rfl rfl rfl (fun ρ W h1 h2 => by exact r_lt h1 h2 (decide_eq_true hj)) ?_
     refine PW.nil (SX.then (SC.seq (SC.cond (t := true) rfl (SC.skip (SX.then (SC.seq (SC.block (SC.seq ?_))))))))
     have hu1 := fun m => dg_at hM.2.1 BB_pos m
     have hb := hM.bound dv hF.d0 hF.lt
     have hl1 := hM.1
     refine SC.region (PW.move rfl rfl rfl rfl rfl ?_)
     refine PW.q2 (x := .tmp 115) (y := .tmp 117) (.pointer (some ⟨g2, j, none⟩)) rfl rfl rfl rfl rfl (fun ρ W h1 h2 => r_idx h1 h2 (by omega)) ?_
     refine PW.rload (K := 245) (i := j) rfl rfl rfl rfl rfl rfl (by omega) r_l32 ?_
     refine PW.assign rfl rfl rfl rfl rfl (PW.assign rfl rfl rfl rfl rfl (PW.nil (SX.then (SC.seq (SC.region (PW.move rfl rfl rfl rfl rfl (PW.move rfl rfl rfl rfl rfl ?_)))))))
     refine PW.q1 (x := .tmp 123) (.int .u64 (at0 vs j)) rfl rfl rfl rfl (fun ρ W h1 => by exact r_64 h1 (hv _)) ?_
     refine PW.q2 (x := .tmp 122) (y := .tmp 124) (.int .u64 (G * at0 vs j)) rfl rfl rfl rfl rfl (fun ρ W h1 h2 => by exact r_mul6 h1 h2 rfl (mulb ⟨hF.d0, hF.lt⟩ (hv _))) ?_
     refine PW.move rfl rfl rfl rfl rfl ?_
     refine PW.q2 (x := .tmp 125) (y := .tmp 126) (.int .u64 (G * at0 vs j + cc)) rfl rfl rfl rfl rfl (fun ρ W h1 h2 => by exact r_add6 h1 h2 rfl ⟨hb.1, hb.2.1⟩) ?_
     refine PW.assign rfl rfl rfl rfl rfl (PW.nil (SX.then (SC.seq (SC.region (PW.move rfl rfl rfl rfl rfl ?_)))))
     refine PW.q2 (x := .tmp 128) (y := .const (.int .u64 32)) (.int .u64 ((G * at0 vs j + cc) / 4294967296)) rfl rfl rfl rfl rfl (fun ρ W h1 h2 => by exact r_dn32 h1 h2) ?_
     refine PW.assign rfl rfl rfl rfl rfl (PW.nil (SX.then (SC.seq (SC.region (PW.move rfl rfl rfl rfl rfl (PW.move rfl rfl rfl rfl rfl (PW.move rfl rfl rfl rfl rfl ?_)))))))
     refine PW.q2 (x := .tmp 131) (y := .tmp 132) (.int .i64 (((i + j : Nat) : Int))) rfl rfl rfl rfl rfl (fun ρ W h1 h2 => by exact r_add h1 h2 (by omega) (by omega)) ?_
     refine PW.q2 (x := .tmp 130) (y := .tmp 133) (.pointer (some ⟨g1, i + j, none⟩)) rfl rfl rfl rfl rfl (fun ρ W h1 h2 => r_idx h1 h2 (by omega)) ?_
     refine PW.rload (K := 244) (i := i + j) rfl rfl rfl rfl rfl rfl (by omega) r_l32 ?_
     refine PW.q1 (x := .tmp 135) (.int .u64 (at0 u1 (i + j))) rfl rfl rfl rfl (fun ρ W h1 => by exact r_64 h1 (hu1 _)) ?_
     refine PW.move rfl rfl rfl rfl rfl ?_
     refine PW.q1 (x := .tmp 137) (.int .u32 ((G * at0 vs j + cc) % 4294967296)) rfl rfl rfl rfl (fun ρ W h1 => by exact r_32 h1) ?_
     refine PW.q1 (x := .tmp 138) (.int .u64 ((G * at0 vs j + cc) % 4294967296)) rfl rfl rfl rfl (fun ρ W h1 => by exact r_64 h1 (by omega)) ?_
     refine PW.q2 (x := .tmp 136) (y := .tmp 139) (.int .u64 ((at0 u1 (i + j) - (G * at0 vs j + cc) % 4294967296) % 18446744073709551616)) rfl rfl rfl rfl rfl (fun ρ W h1 h2 => by exact r_subw h1 h2) ?_
     refine PW.move rfl rfl rfl rfl rfl ?_
     refine PW.q2 (x := .tmp 140) (y := .tmp 141) (.int .u64 ((at0 u1 (i + j) - (G * at0 vs j + cc) % 4294967296 - bb) % 18446744073709551616)) rfl rfl rfl rfl rfl (fun ρ W h1 h2 => by exact r_subz h1 h2 (by omega)) ?_
     refine PW.assign rfl rfl rfl rfl rfl (PW.nil (SX.then (SC.region (PW.move rfl rfl rfl rfl rfl (PW.move rfl rfl rfl rfl rfl (PW.move rfl rfl rfl rfl rfl ?_))))))
     refine PW.q2 (x := .tmp 144) (y := .tmp 145) (.int .i64 (((i + j : Nat) : Int))) rfl rfl rfl rfl rfl (fun ρ W h1 h2 => by exact r_add h1 h2 (by omega) (by omega)) ?_
     refine PW.move rfl rfl rfl rfl rfl ?_
     refine PW.q1 (x := .tmp 147) (.int .u32 ((at0 u1 (i + j) - (G * at0 vs j + cc) % 4294967296 - bb) % 18446744073709551616 % 4294967296)) rfl rfl rfl rfl (fun ρ W h1 => by exact r_32 h1) ?_
     refine PW.move rfl rfl rfl rfl rfl ?_
     refine PW.q2 (x := .tmp 149) (y := .const (.int .u64 63)) (.int .u64 ((at0 u1 (i + j) - (G * at0 vs j + cc) % 4294967296 - bb) % 18446744073709551616 / 9223372036854775808)) rfl rfl rfl rfl rfl (fun ρ W h1 h2 => by exact r_dn63 h1 h2) ?_
     refine PW.q2 (x := .tmp 143) (y := .tmp 146) (.pointer (some ⟨g1, i + j, none⟩)) rfl rfl rfl rfl rfl (fun ρ W h1 h2 => r_idx h1 h2 (by omega)) ?_
     refine PW.rstore (K := 244) (x := .tmp 148) (i := i + j) (y := ((at0 u1 (i + j) - (G * at0 vs j + cc) % 4294967296 - bb) % 18446744073709551616 % 4294967296)) rfl rfl rfl rfl rfl (by omega) rfl rfl r_s32 ?_
     refine PW.assign rfl rfl rfl rfl rfl (PW.nil ?_)
     refine SX.blockN ?_
     refine SX.then (SC.region ?_)
     refine PW.q2 (x := .tmp 117) (y := .const (.int .i64 1)) (.int .i64 (((j + 1 : Nat) : Int))) rfl rfl rfl rfl rfl (fun ρ W h1 h2 => by exact r_add h1 h2 (by omega) (by omega)) ?_
     refine PW.move rfl rfl rfl rfl rfl (PW.nil ?_)
     refine SX.back (j + 1, u1.set (i + j) ((at0 u1 (i + j) - (G * at0 vs j + cc) % 4294967296 - bb) % 18446744073709551616 % 4294967296), ((G * at0 vs j + cc) / 4294967296), ((at0 u1 (i + j) - (G * at0 vs j + cc) % 4294967296 - bb) % 18446744073709551616 / 9223372036854775808)) ?_ ?_ ?_
     ·exact (hM.step dv hF.d0 hF.lt (by omega) hil)
     ·exact (show vs.length - (j + 1) < vs.length - j by omega)
     ·exact ⟨rfl, rfl, rfl, rfl, rfl, rfl, rfl, rfl, rfl, rfl, rfl, rfl, rfl, rfl, rfl, rfl, trivial⟩
    ·obtain rfl : j = vs.length := by have := hM.2.2.2.2.2.2.2.2; omega
     refine SC.region ?_
     refine PW.q2 (x := .tmp 117) (y := .tmp 116) (.bool false) rfl rfl rfl rfl rfl (fun ρ W h1 h2 => by exact r_lt h1 h2 (decide_eq_false hj)) ?_
     refine PW.nil (SX.then (SC.seq (SC.cond (t := false) rfl (SC.exit (SX.thenE (SX.thenE (SX.blockE (SX.then (SC.seq ?_)))))))))
     refine SC.keep [(4, .vl (.slice (some ⟨g3, 0, none⟩) L L)), (6, .vl (.int .u64 (s : Int))), (7, .vl (.slice (some ⟨g1, 0, none⟩) U0.length c1)), (8, .vl (.slice (some ⟨g2, 0, none⟩) vs.length c2)), (9, .vl (.int .i64 (vs.length : Int))), (10, .vl (.int .u64 (at0 vs (vs.length - 1)))), (11, .vl (.int .i64 (i : Int))), (13, .vl (.int .u64 (G))), (15, .vl (.int .u64 (cc))), (16, .vl (.int .u64 (bb))), (244, .ro (.slice (some ⟨g1, 0, none⟩) U0.length c1) 140 (.int .u32) (u1)), (245, .ro (.slice (some ⟨g2, 0, none⟩) vs.length c2) 140 (.int .u32) (vs)), (246, .ro (.slice (some ⟨g3, 0, none⟩) L L) 140 (.int .u32) (qs))] ⟨rfl, rfl, rfl, rfl, rfl, rfl, rfl, rfl, rfl, rfl, rfl, rfl, rfl, trivial⟩ ?_
     have hu1 := fun m => dg_at hM.2.1 BB_pos m
     have hl1 := hM.1
     refine SC.region (PW.move rfl rfl rfl rfl rfl (PW.move rfl rfl rfl rfl rfl (PW.move rfl rfl rfl rfl rfl ?_)))
     refine PW.q2 (x := .tmp 154) (y := .tmp 155) (.int .i64 (((i + vs.length : Nat) : Int))) rfl rfl rfl rfl rfl (fun ρ W h1 h2 => by exact r_add h1 h2 (by omega) (by omega)) ?_
     refine PW.q2 (x := .tmp 153) (y := .tmp 156) (.pointer (some ⟨g1, i + vs.length, none⟩)) rfl rfl rfl rfl rfl (fun ρ W h1 h2 => r_idx h1 h2 (by omega)) ?_
     refine PW.rload (K := 244) (i := i + vs.length) rfl rfl rfl rfl rfl rfl (by omega) r_l32 ?_
     refine PW.q1 (x := .tmp 158) (.int .u64 (at0 u1 (i + vs.length))) rfl rfl rfl rfl (fun ρ W h1 => by exact r_64 h1 (hu1 _)) ?_
     refine PW.move rfl rfl rfl rfl rfl ?_
     refine PW.q2 (x := .tmp 159) (y := .tmp 160) (.int .u64 ((at0 u1 (i + vs.length) - cc) % 18446744073709551616)) rfl rfl rfl rfl rfl (fun ρ W h1 h2 => by exact r_subw h1 h2) ?_
     refine PW.move rfl rfl rfl rfl rfl ?_
     refine PW.q2 (x := .tmp 161) (y := .tmp 162) (.int .u64 ((at0 u1 (i + vs.length) - cc - bb) % 18446744073709551616)) rfl rfl rfl rfl rfl (fun ρ W h1 h2 => by exact r_subz h1 h2 (by omega)) ?_
     refine PW.assign rfl rfl rfl rfl rfl (PW.nil (SX.then (SC.seq (SC.region (PW.move rfl rfl rfl rfl rfl (PW.move rfl rfl rfl rfl rfl (PW.move rfl rfl rfl rfl rfl ?_)))))))
     refine PW.q2 (x := .tmp 165) (y := .tmp 166) (.int .i64 (((i + vs.length : Nat) : Int))) rfl rfl rfl rfl rfl (fun ρ W h1 h2 => by exact r_add h1 h2 (by omega) (by omega)) ?_
     refine PW.move rfl rfl rfl rfl rfl ?_
     refine PW.q1 (x := .tmp 168) (.int .u32 ((at0 u1 (i + vs.length) - cc - bb) % 18446744073709551616 % 4294967296)) rfl rfl rfl rfl (fun ρ W h1 => by exact r_32 h1) ?_
     refine PW.q2 (x := .tmp 164) (y := .tmp 167) (.pointer (some ⟨g1, i + vs.length, none⟩)) rfl rfl rfl rfl rfl (fun ρ W h1 h2 => r_idx h1 h2 (by omega)) ?_
     refine PW.rstore (K := 244) (x := .tmp 169) (i := i + vs.length) (y := ((at0 u1 (i + vs.length) - cc - bb) % 18446744073709551616 % 4294967296)) rfl rfl rfl rfl rfl (by omega) rfl rfl r_s32 ?_
     refine PW.nil (SX.then (SC.seq (SC.seq ?_)))
     refine SC.keep [(4, .vl (.slice (some ⟨g3, 0, none⟩) L L)), (6, .vl (.int .u64 (s : Int))), (7, .vl (.slice (some ⟨g1, 0, none⟩) U0.length c1)), (8, .vl (.slice (some ⟨g2, 0, none⟩) vs.length c2)), (9, .vl (.int .i64 (vs.length : Int))), (10, .vl (.int .u64 (at0 vs (vs.length - 1)))), (11, .vl (.int .i64 (i : Int))), (13, .vl (.int .u64 (G))), (21, .vl (.int .u64 ((at0 u1 (i + vs.length) - cc - bb) % 18446744073709551616))), (244, .ro (.slice (some ⟨g1, 0, none⟩) U0.length c1) 140 (.int .u32) (u1.set (i + vs.length) ((at0 u1 (i + vs.length) - cc - bb) % 18446744073709551616 % 4294967296))), (245, .ro (.slice (some ⟨g2, 0, none⟩) vs.length c2) 140 (.int .u32) (vs)), (246, .ro (.slice (some ⟨g3, 0, none⟩) L L) 140 (.int .u32) (qs))] ⟨rfl, rfl, rfl, rfl, rfl, rfl, rfl, rfl, rfl, rfl, rfl, rfl, trivial⟩ ?_
     obtain ⟨l2, d2, v2, z2, g2e⟩ := hM.fin hil rfl rfl
     generalize u1.set (i + vs.length) ((at0 u1 (i + vs.length) - cc - bb) % 18446744073709551616 % 4294967296) = u2 at l2 d2 v2 z2 ⊢
     by_cases hg1 : (at0 u1 (i + vs.length) - cc - bb) % 18446744073709551616 / 9223372036854775808 = 1
     ·refine SC.region ?_
      refine PW.move rfl rfl rfl rfl rfl ?_
      refine PW.q2 (x := .tmp 171) (y := .const (.int .u64 63)) (.int .u64 ((at0 u1 (i + vs.length) - cc - bb) % 18446744073709551616 / 9223372036854775808)) rfl rfl rfl rfl rfl (fun ρ W h1 h2 => by exact r_dn63 h1 h2) ?_
      refine PW.q2 (x := .tmp 172) (y := .const (.int .u64 1)) (.bool true) rfl rfl rfl rfl rfl (fun ρ W h1 h2 => by exact r_eq6 h1 h2 (decide_eq_true hg1)) ?_
      refine PW.nil (SX.then (SC.cond (t := true) rfl (SC.seq (SC.region (PW.move rfl rfl rfl rfl rfl ?_)))))
      refine PW.q2 (x := .tmp 174) (y := .const (.int .u64 1)) (.int .u64 ((G - 1) % 18446744073709551616)) rfl rfl rfl rfl rfl (fun ρ W h1 h2 => by exact r_subw h1 h2) ?_
      refine PW.assign rfl rfl rfl rfl rfl (PW.nil (SX.then (SC.seq (SC.region (PW.assign rfl rfl rfl rfl rfl (PW.nil (SX.then (SC.seq (SC.seq (SC.region (PW.move rfl rfl rfl rfl rfl ?_)))))))))))
      refine PW.qn [(.tmp 176, .slice (some ⟨g2, 0, none⟩) vs.length c2)] (.int .i64 (vs.length : Int)) rfl rfl rfl ⟨rfl, trivial⟩ (fun ρ W h => by obtain ⟨h1, _⟩ := h; exact r_len h1) ?_
      refine PW.move rfl rfl rfl rfl rfl (PW.nil (SX.then (SC.block ?_)))
      refine SC.loop (S := Nat × List Int × Int) (fun ⟨k, u3, c⟩ => [(4, .vl (.slice (some ⟨g3, 0, none⟩) L L)), (6, .vl (.int .u64 (s : Int))), (7, .vl (.slice (some ⟨g1, 0, none⟩) U0.length c1)), (8, .vl (.slice (some ⟨g2, 0, none⟩) vs.length c2)), (9, .vl (.int .i64 (vs.length : Int))), (10, .vl (.int .u64 (at0 vs (vs.length - 1)))), (11, .vl (.int .i64 (i : Int))), (13, .vl (.int .u64 ((G - 1) % 18446744073709551616))), (22, .vl (.int .u32 (c))), (176, .vl (.slice (some ⟨g2, 0, none⟩) vs.length c2)), (177, .vl (.int .i64 (vs.length : Int))), (178, .vl (.int .i64 (k : Int))), (244, .ro (.slice (some ⟨g1, 0, none⟩) U0.length c1) 140 (.int .u32) (u3)), (245, .ro (.slice (some ⟨g2, 0, none⟩) vs.length c2) 140 (.int .u32) (vs)), (246, .ro (.slice (some ⟨g3, 0, none⟩) L L) 140 (.int .u32) (qs))]) (fun ⟨k, u3, c⟩ => AB u2 vs i k u3 c) (fun ⟨k, u3, c⟩ => vs.length - k) (0, u2, 0) (AB.start d2) ⟨rfl, rfl, rfl, rfl, rfl, rfl, rfl, rfl, rfl, rfl, rfl, rfl, rfl, rfl, rfl, trivial⟩ ?_
      rintro ⟨k, u3, c⟩ hA
      show SC _ _ _ _ [(4, .vl (.slice (some ⟨g3, 0, none⟩) L L)), (6, .vl (.int .u64 (s : Int))), (7, .vl (.slice (some ⟨g1, 0, none⟩) U0.length c1)), (8, .vl (.slice (some ⟨g2, 0, none⟩) vs.length c2)), (9, .vl (.int .i64 (vs.length : Int))), (10, .vl (.int .u64 (at0 vs (vs.length - 1)))), (11, .vl (.int .i64 (i : Int))), (13, .vl (.int .u64 ((G - 1) % 18446744073709551616))), (22, .vl (.int .u32 (c))), (176, .vl (.slice (some ⟨g2, 0, none⟩) vs.length c2)), (177, .vl (.int .i64 (vs.length : Int))), (178, .vl (.int .i64 (k : Int))), (244, .ro (.slice (some ⟨g1, 0, none⟩) U0.length c1) 140 (.int .u32) (u3)), (245, .ro (.slice (some ⟨g2, 0, none⟩) vs.length c2) 140 (.int .u32) (vs)), (246, .ro (.slice (some ⟨g3, 0, none⟩) L L) 140 (.int .u32) (qs))] _
      refine SC.seq ?_
      by_cases hk : (k : Int) < (vs.length : Int)
      ·refine SC.region ?_
       refine PW.q2 (x := .tmp 178) (y := .tmp 177) (.bool true) rfl rfl rfl rfl rfl (fun ρ W h1 h2 => by exact r_lt h1 h2 (decide_eq_true hk)) ?_
       refine PW.nil (SX.then (SC.seq (SC.cond (t := true) rfl (SC.skip (SX.then (SC.seq (SC.block (SC.seq ?_))))))))
       have hu3 := fun m => dg_at hA.2.1 BB_pos m
       have hl3 := hA.1
       refine SC.region (PW.move rfl rfl rfl rfl rfl ?_)
       refine PW.q2 (x := .tmp 176) (y := .tmp 178) (.pointer (some ⟨g2, k, none⟩)) rfl rfl rfl rfl rfl (fun ρ W h1 h2 => r_idx h1 h2 (by omega)) ?_
       refine PW.rload (K := 245) (i := k) rfl rfl rfl rfl rfl rfl (by omega) r_l32 ?_
       refine PW.assign rfl rfl rfl rfl rfl (PW.assign rfl rfl rfl rfl rfl (PW.nil (SX.then (SC.region (PW.move rfl rfl rfl rfl rfl (PW.move rfl rfl rfl rfl rfl (PW.move rfl rfl rfl rfl rfl ?_)))))))
       refine PW.q2 (x := .tmp 185) (y := .tmp 186) (.int .i64 (((i + k : Nat) : Int))) rfl rfl rfl rfl rfl (fun ρ W h1 h2 => by exact r_add h1 h2 (by omega) (by omega)) ?_
       refine PW.move rfl rfl rfl rfl rfl (PW.move rfl rfl rfl rfl rfl (PW.move rfl rfl rfl rfl rfl ?_))
       refine PW.q2 (x := .tmp 189) (y := .tmp 190) (.int .i64 (((i + k : Nat) : Int))) rfl rfl rfl rfl rfl (fun ρ W h1 h2 => by exact r_add h1 h2 (by omega) (by omega)) ?_
       refine PW.q2 (x := .tmp 188) (y := .tmp 191) (.pointer (some ⟨g1, i + k, none⟩)) rfl rfl rfl rfl rfl (fun ρ W h1 h2 => r_idx h1 h2 (by omega)) ?_
       refine PW.rload (K := 244) (i := i + k) rfl rfl rfl rfl rfl rfl (by omega) r_l32 ?_
       refine PW.move rfl rfl rfl rfl rfl (PW.move rfl rfl rfl rfl rfl ?_)
       refine PW.call (r := .vl (.tuple #[.int .u32 ((at0 u3 (i + k) + at0 vs k + c) % 4294967296), .int .u32 ((at0 u3 (i + k) + at0 vs k + c) / 4294967296)])) rfl rfl rfl rfl rfl rfl (KV.st _) rfl (k_add32 (hu3 _) (hv _) ⟨hA.2.2.2.2.1, hA.2.2.2.2.2.1⟩) ?_
       refine PW.move rfl rfl rfl rfl rfl ?_
       refine PW.q1 (x := .tmp 183) (.int .u32 ((at0 u3 (i + k) + at0 vs k + c) % 4294967296)) rfl rfl rfl rfl (fun ρ W h1 => by go_simp) ?_
       refine PW.q1 (x := .tmp 183) (.int .u32 ((at0 u3 (i + k) + at0 vs k + c) / 4294967296)) rfl rfl rfl rfl (fun ρ W h1 => by go_simp) ?_
       refine PW.q2 (x := .tmp 184) (y := .tmp 187) (.pointer (some ⟨g1, i + k, none⟩)) rfl rfl rfl rfl rfl (fun ρ W h1 h2 => r_idx h1 h2 (by omega)) ?_
       refine PW.rstore (K := 244) (x := .tmp 197) (i := i + k) (y := ((at0 u3 (i + k) + at0 vs k + c) % 4294967296)) rfl rfl rfl rfl rfl (by omega) rfl rfl r_s32 ?_
       refine PW.assign rfl rfl rfl rfl rfl (PW.nil ?_)
       refine SX.blockN ?_
       refine SX.then (SC.region ?_)
       refine PW.q2 (x := .tmp 178) (y := .const (.int .i64 1)) (.int .i64 (((k + 1 : Nat) : Int))) rfl rfl rfl rfl rfl (fun ρ W h1 h2 => by exact r_add h1 h2 (by omega) (by omega)) ?_
       refine PW.move rfl rfl rfl rfl rfl (PW.nil ?_)
       refine SX.back (k + 1, u3.set (i + k) ((at0 u3 (i + k) + at0 vs k + c) % 4294967296), ((at0 u3 (i + k) + at0 vs k + c) / 4294967296)) ?_ ?_ ?_
       ·exact (hA.step dv (by omega) (by omega))
       ·exact (show vs.length - (k + 1) < vs.length - k by omega)
       ·exact ⟨rfl, rfl, rfl, rfl, rfl, rfl, rfl, rfl, rfl, rfl, rfl, rfl, rfl, rfl, rfl, trivial⟩
      ·obtain rfl : k = vs.length := by have := hA.2.2.2.2.2.2; omega
       refine SC.region ?_
       refine PW.q2 (x := .tmp 178) (y := .tmp 177) (.bool false) rfl rfl rfl rfl rfl (fun ρ W h1 h2 => by exact r_lt h1 h2 (decide_eq_false hk)) ?_
       refine PW.nil (SX.then (SC.seq (SC.cond (t := false) rfl (SC.exit (SX.thenE (SX.thenE (SX.blockE (SX.then ?_))))))))
       have hu3 := fun m => dg_at hA.2.1 BB_pos m
       have hl3 := hA.1
       refine SC.region (PW.move rfl rfl rfl rfl rfl (PW.move rfl rfl rfl rfl rfl (PW.move rfl rfl rfl rfl rfl ?_)))
       refine PW.q2 (x := .tmp 202) (y := .tmp 203) (.int .i64 (((i + vs.length : Nat) : Int))) rfl rfl rfl rfl rfl (fun ρ W h1 h2 => by exact r_add h1 h2 (by omega) (by omega)) ?_
       refine PW.q2 (x := .tmp 201) (y := .tmp 204) (.pointer (some ⟨g1, i + vs.length, none⟩)) rfl rfl rfl rfl rfl (fun ρ W h1 h2 => r_idx h1 h2 (by omega)) ?_
       refine PW.rload (K := 244) (i := i + vs.length) rfl rfl rfl rfl rfl rfl (by omega) r_l32 ?_
       refine PW.move rfl rfl rfl rfl rfl ?_
       refine PW.q2 (x := .tmp 206) (y := .tmp 207) (.int .u32 ((at0 u3 (i + vs.length) + c) % 4294967296)) rfl rfl rfl rfl rfl (fun ρ W h1 h2 => by exact r_addw h1 h2) ?_
       refine PW.q2 (x := .tmp 201) (y := .tmp 204) (.pointer (some ⟨g1, i + vs.length, none⟩)) rfl rfl rfl rfl rfl (fun ρ W h1 h2 => r_idx h1 h2 (by omega)) ?_
       refine PW.rstore (K := 244) (x := .tmp 208) (i := i + vs.length) (y := ((at0 u3 (i + vs.length) + c) % 4294967296)) rfl rfl rfl rfl rfl (by omega) rfl rfl r_s32 ?_
       refine PW.nil (SX.then ?_)
       refine SC.keep [(4, .vl (.slice (some ⟨g3, 0, none⟩) L L)), (6, .vl (.int .u64 (s : Int))), (7, .vl (.slice (some ⟨g1, 0, none⟩) U0.length c1)), (8, .vl (.slice (some ⟨g2, 0, none⟩) vs.length c2)), (9, .vl (.int .i64 (vs.length : Int))), (10, .vl (.int .u64 (at0 vs (vs.length - 1)))), (11, .vl (.int .i64 (i : Int))), (13, .vl (.int .u64 ((G - 1) % 18446744073709551616))), (244, .ro (.slice (some ⟨g1, 0, none⟩) U0.length c1) 140 (.int .u32) (u3.set (i + vs.length) ((at0 u3 (i + vs.length) + c) % 4294967296))), (245, .ro (.slice (some ⟨g2, 0, none⟩) vs.length c2) 140 (.int .u32) (vs)), (246, .ro (.slice (some ⟨g3, 0, none⟩) L L) 140 (.int .u32) (qs))] ⟨rfl, rfl, rfl, rfl, rfl, rfl, rfl, rfl, rfl, rfl, rfl, trivial⟩ ?_
       obtain ⟨l3, d3, ⟨c2e, hc2, v3⟩, z3⟩ := hA.fin (by omega) rfl
       obtain ⟨lf3, e3⟩ := round_neg hR.lf dv d2 d3 hF.lo v2 hg1 z2 z3 v3 hc2
       have hG1 := down_pos hR.lf.1 lf3 e3 hF.d0
       have hG2 := hF.lt
       refine SC.region (PW.move rfl rfl rfl rfl rfl (PW.move rfl rfl rfl rfl rfl (PW.move rfl rfl rfl rfl rfl ?_)))
       refine PW.q1 (x := .tmp 212) (.int .u32 (G - 1)) rfl rfl rfl rfl (fun ρ W h1 => by exact r_32z h1 (by have := hF.lt; omega)) ?_
       refine PW.q2 (x := .tmp 210) (y := .tmp 211) (.pointer (some ⟨g3, i, none⟩)) rfl rfl rfl rfl rfl (fun ρ W h1 h2 => r_idx h1 h2 (by omega)) ?_
       refine PW.rstore (K := 246) (x := .tmp 213) (i := i) (y := (G - 1)) rfl rfl rfl rfl rfl (by omega) rfl rfl r_s32 ?_
       refine PW.nil ?_
       refine SX.blockN ?_
       refine SX.then (SC.region (PW.move rfl rfl rfl rfl rfl ?_))
       refine PW.q2 (x := .tmp 59) (y := .const (.int .i64 1)) (.int .i64 ((i : Int) - 1)) rfl rfl rfl rfl rfl (fun ρ W h1 h2 => by exact r_sub h1 h2 (by omega) (by omega)) ?_
       refine PW.assign rfl rfl rfl rfl rfl (PW.nil ?_)
       refine SX.back (i, u3.set (i + vs.length) ((at0 u3 (i + vs.length) + c) % 4294967296), qs.set i (G - 1)) ?_ ?_ ?_
       ·exact (hR.step (by omega) lf3 e3 (by omega) (by omega))
       ·exact (Nat.lt_succ_self i)
       ·exact ⟨rfl, rfl, rfl, rfl, rfl, rfl, rfl, rfl, rfl, rfl, trivial⟩
     ·refine SC.region ?_
      refine PW.move rfl rfl rfl rfl rfl ?_
      refine PW.q2 (x := .tmp 171) (y := .const (.int .u64 63)) (.int .u64 ((at0 u1 (i + vs.length) - cc - bb) % 18446744073709551616 / 9223372036854775808)) rfl rfl rfl rfl rfl (fun ρ W h1 h2 => by exact r_dn63 h1 h2) ?_
      refine PW.q2 (x := .tmp 172) (y := .const (.int .u64 1)) (.bool false) rfl rfl rfl rfl rfl (fun ρ W h1 h2 => by exact r_eq6 h1 h2 (decide_eq_false hg1)) ?_
      refine PW.nil (SX.then (SC.cond (t := false) rfl (SC.skip (SX.then ?_))))
      refine SC.keep [(4, .vl (.slice (some ⟨g3, 0, none⟩) L L)), (6, .vl (.int .u64 (s : Int))), (7, .vl (.slice (some ⟨g1, 0, none⟩) U0.length c1)), (8, .vl (.slice (some ⟨g2, 0, none⟩) vs.length c2)), (9, .vl (.int .i64 (vs.length : Int))), (10, .vl (.int .u64 (at0 vs (vs.length - 1)))), (11, .vl (.int .i64 (i : Int))), (13, .vl (.int .u64 (G))), (244, .ro (.slice (some ⟨g1, 0, none⟩) U0.length c1) 140 (.int .u32) (u2)), (245, .ro (.slice (some ⟨g2, 0, none⟩) vs.length c2) 140 (.int .u32) (vs)), (246, .ro (.slice (some ⟨g3, 0, none⟩) L L) 140 (.int .u32) (qs))] ⟨rfl, rfl, rfl, rfl, rfl, rfl, rfl, rfl, rfl, rfl, rfl, trivial⟩ ?_
      obtain ⟨lf3, e3⟩ := round_pos hR.lf d2 hF.up v2 (by omega)
      refine SC.region (PW.move rfl rfl rfl rfl rfl (PW.move rfl rfl rfl rfl rfl (PW.move rfl rfl rfl rfl rfl ?_)))
      refine PW.q1 (x := .tmp 212) (.int .u32 (G)) rfl rfl rfl rfl (fun ρ W h1 => by exact r_32z h1 (by have := hF.lt; have := hF.d0; omega)) ?_
      refine PW.q2 (x := .tmp 210) (y := .tmp 211) (.pointer (some ⟨g3, i, none⟩)) rfl rfl rfl rfl rfl (fun ρ W h1 h2 => r_idx h1 h2 (by omega)) ?_
      refine PW.rstore (K := 246) (x := .tmp 213) (i := i) (y := (G)) rfl rfl rfl rfl rfl (by omega) rfl rfl r_s32 ?_
      refine PW.nil ?_
      refine SX.blockN ?_
      refine SX.then (SC.region (PW.move rfl rfl rfl rfl rfl ?_))
      refine PW.q2 (x := .tmp 59) (y := .const (.int .i64 1)) (.int .i64 ((i : Int) - 1)) rfl rfl rfl rfl rfl (fun ρ W h1 h2 => by exact r_sub h1 h2 (by omega) (by omega)) ?_
      refine PW.assign rfl rfl rfl rfl rfl (PW.nil ?_)
      refine SX.back (i, u2, qs.set i (G)) ?_ ?_ ?_
      ·exact (hR.step (by omega) lf3 e3 hF.d0 hF.lt)
      ·exact (Nat.lt_succ_self i)
      ·exact ⟨rfl, rfl, rfl, rfl, rfl, rfl, rfl, rfl, rfl, rfl, trivial⟩
   ·refine SC.region ?_
    refine PW.move rfl rfl rfl rfl rfl ?_
    refine PW.q2 (x := .tmp 113) (y := .const (.int .u64 4294967296)) (.bool false) rfl rfl rfl rfl rfl (fun ρ W h1 h2 => by exact r_ge6 h1 h2 (decide_eq_false hr)) ?_
    refine PW.nil (SX.then (SC.cond (t := false) rfl (SC.skip ?_)))
    refine SX.blockN ?_
    refine SX.back (D - 1, r + at0 vs (vs.length - 1)) ?_ ?_ ?_
    ·exact ⟨he2, by omega, by omega⟩
    ·exact (show (D - 1).toNat < D.toNat by omega)
    ·exact ⟨rfl, rfl, rfl, rfl, rfl, rfl, rfl, rfl, rfl, rfl, rfl, rfl, trivial⟩
  ·by_cases hx : r * 4294967296 + at0 us (i + vs.length - 2) < D * at0 vs (vs.length - 2)
   ·obtain ⟨he2, h1D⟩ := he.down hR.lf dv (by omega) hil (by omega) (.inr hx)
    refine SC.dx [.val 84 (.vl (.int .u64 (D))), .val 85 (.vl (.bool false)), .val 86 (.vl (.bool false)), .val 87 (.vl (.int .u64 (D))), .val 88 (.vl (.slice (some ⟨g2, 0, none⟩) vs.length c2)), .val 89 (.vl (.int .i64 (vs.length : Int))), .val 90 (.vl (.int .i64 (((vs.length - 2 : Nat) : Int)))), .val 91 (.vl (.pointer (some ⟨g2, vs.length - 2, none⟩))), .val 92 (.vl (.int .u32 (at0 vs (vs.length - 2)))), .val 93 (.vl (.int .u64 (at0 vs (vs.length - 2)))), .val 94 (.vl (.int .u64 (D * at0 vs (vs.length - 2)))), .val 95 (.vl (.int .u64 (r))), .val 96 (.vl (.int .u64 (r * 4294967296))), .val 97 (.vl (.slice (some ⟨g1, 0, none⟩) U0.length c1)), .val 98 (.vl (.int .i64 (i : Int))), .val 99 (.vl (.int .i64 (vs.length : Int))), .val 100 (.vl (.int .i64 (((i + vs.length : Nat) : Int)))), .val 101 (.vl (.int .i64 (((i + vs.length - 2 : Nat) : Int)))), .val 102 (.vl (.pointer (some ⟨g1, i + vs.length - 2, none⟩))), .val 103 (.vl (.int .u32 (at0 us (i + vs.length - 2)))), .val 104 (.vl (.int .u64 (at0 us (i + vs.length - 2)))), .val 105 (.vl (.int .u64 (r * 4294967296 + at0 us (i + vs.length - 2)))), .val 106 (.vl (.bool true)), .val 107 (.vl (.bool true))] [([], [13]), ([0], []), ([1], []), ([2], [13]), ([2], [8]), ([2], [9]), ([5, 2], []), ([4, 6, 2], []), ([7, 2], [245]), ([8, 2], []), ([3, 9, 2], []), ([2], [14]), ([11, 2], []), ([2], [7]), ([2], [11]), ([2], [9]), ([14, 15, 2], []), ([16, 2], []), ([13, 17, 2], []), ([18, 2], [244]), ([19, 2], []), ([12, 20, 2], []), ([10, 21, 2], []), ([2, 22], [])] rfl (by kernel_rfl) (by kernel_rfl) (by kernel_rfl) rfl ⟨?_, ?_, ?_, ?_, ?_, ?_, ?_, ?_, ?_, ?_, ?_, ?_, ?_, ?_, ?_, ?_, ?_, ?_, ?_, ?_, ?_, ?_, ?_, ?_, trivial⟩ ?_
    ·exact DX.move rfl rfl rfl rfl rfl rfl
    ·exact DX.q2 (x := .tmp 84) (y := .const (.int .u64 4294967296)) (.bool false) rfl rfl rfl rfl rfl (fun ρ W h1 h2 => by exact r_ge6 h1 h2 (decide_eq_false hg))
    ·exact DX.move rfl rfl rfl rfl rfl rfl
    ·exact DX.move rfl rfl rfl rfl rfl rfl
    ·exact DX.move rfl rfl rfl rfl rfl rfl
    ·exact DX.move rfl rfl rfl rfl rfl rfl
    ·exact DX.q2 (x := .tmp 89) (y := .const (.int .i64 2)) (.int .i64 (((vs.length - 2 : Nat) : Int))) rfl rfl rfl rfl rfl (fun ρ W h1 h2 => by exact r_sub h1 h2 (by omega) (by omega))
    ·exact DX.q2 (x := .tmp 88) (y := .tmp 90) (.pointer (some ⟨g2, vs.length - 2, none⟩)) rfl rfl rfl rfl rfl (fun ρ W h1 h2 => r_idx h1 h2 (by omega))
    ·exact DX.rload (K := 245) (i := vs.length - 2) rfl rfl rfl rfl rfl rfl (by omega) r_l32
    ·exact DX.q1 (x := .tmp 92) (.int .u64 (at0 vs (vs.length - 2))) rfl rfl rfl rfl (fun ρ W h1 => by exact r_64 h1 (hv _))
    ·exact DX.q2 (x := .tmp 87) (y := .tmp 93) (.int .u64 (D * at0 vs (vs.length - 2))) rfl rfl rfl rfl rfl (fun ρ W h1 h2 => by exact r_mul6 h1 h2 rfl (mulb ⟨he.d0, by omega⟩ (hv _)))
    ·exact DX.move rfl rfl rfl rfl rfl rfl
    ·exact DX.q2 (x := .tmp 95) (y := .const (.int .u64 32)) (.int .u64 (r * 4294967296)) rfl rfl rfl rfl rfl (fun ρ W h1 h2 => by exact r_up32 h1 h2 ⟨he.r0, hrB⟩)
    ·exact DX.move rfl rfl rfl rfl rfl rfl
    ·exact DX.move rfl rfl rfl rfl rfl rfl
    ·exact DX.move rfl rfl rfl rfl rfl rfl
    ·exact DX.q2 (x := .tmp 98) (y := .tmp 99) (.int .i64 (((i + vs.length : Nat) : Int))) rfl rfl rfl rfl rfl (fun ρ W h1 h2 => by exact r_add h1 h2 (by omega) (by omega))
    ·exact DX.q2 (x := .tmp 100) (y := .const (.int .i64 2)) (.int .i64 (((i + vs.length - 2 : Nat) : Int))) rfl rfl rfl rfl rfl (fun ρ W h1 h2 => by exact r_sub h1 h2 (by omega) (by omega))
    ·exact DX.q2 (x := .tmp 97) (y := .tmp 101) (.pointer (some ⟨g1, i + vs.length - 2, none⟩)) rfl rfl rfl rfl rfl (fun ρ W h1 h2 => r_idx h1 h2 (by omega))
    ·exact DX.rload (K := 244) (i := i + vs.length - 2) rfl rfl rfl rfl rfl rfl (by omega) r_l32
    ·exact DX.q1 (x := .tmp 103) (.int .u64 (at0 us (i + vs.length - 2))) rfl rfl rfl rfl (fun ρ W h1 => by exact r_64 h1 (hu _))
    ·exact DX.q2 (x := .tmp 96) (y := .tmp 104) (.int .u64 (r * 4294967296 + at0 us (i + vs.length - 2))) rfl rfl rfl rfl rfl (fun ρ W h1 h2 => by exact r_join h1 h2 ⟨he.r0, hrB⟩ (hu _))
    ·exact DX.q2 (x := .tmp 94) (y := .tmp 105) (.bool true) rfl rfl rfl rfl rfl (fun ρ W h1 h2 => by exact r_gt6 h1 h2 (decide_eq_true hx))
    ·exact DX.pick (t := false) rfl rfl rfl rfl rfl rfl rfl
    refine SX.then (SC.cond (t := true) rfl (SC.skip (SX.then (SC.block (SC.seq (SC.region (PW.move rfl rfl rfl rfl rfl ?_)))))))
    refine PW.q2 (x := .tmp 108) (y := .const (.int .u64 1)) (.int .u64 (D - 1)) rfl rfl rfl rfl rfl (fun ρ W h1 h2 => by exact r_sub6 h1 h2 rfl (by omega)) ?_
    refine PW.assign rfl rfl rfl rfl rfl (PW.nil (SX.then (SC.seq (SC.region (PW.move rfl rfl rfl rfl rfl (PW.move rfl rfl rfl rfl rfl ?_))))))
    refine PW.q2 (x := .tmp 110) (y := .tmp 111) (.int .u64 (r + at0 vs (vs.length - 1))) rfl rfl rfl rfl rfl (fun ρ W h1 h2 => by exact r_add6 h1 h2 rfl (by have := hv (vs.length - 1); have := he.r0; omega)) ?_
    refine PW.assign rfl rfl rfl rfl rfl (PW.nil (SX.then (SC.seq ?_)))
    by_cases hr : 4294967296 ≤ r + at0 vs (vs.length - 1)
    ·obtain ⟨hD, hc⟩ := he2.brk hR.lf dv (by omega) hil (by omega) hr
     have hF : Gd us vs i (D - 1) := ⟨he2.d0, hD, he2.near hR.lf dv (by omega) hil (by omega) hD hc, he2.lt⟩
     refine SC.region (PW.move rfl rfl rfl rfl rfl ?_)
     refine PW.q2 (x := .tmp 113) (y := .const (.int .u64 4294967296)) (.bool true) rfl rfl rfl rfl rfl (fun ρ W h1 h2 => by exact r_ge6 h1 h2 (decide_eq_true hr)) ?_
     refine PW.nil (SX.then (SC.cond (t := true) rfl (SC.exit ?_)))
     refine SX.blockX rfl ?_
     refine SX.thenE (SX.blockE (SX.then (SC.seq ?_)))
     refine SC.keep [(4, .vl (.slice (some ⟨g3, 0, none⟩) L L)), (6, .vl (.int .u64 (s : Int))), (7, .vl (.slice (some ⟨g1, 0, none⟩) U0.length c1)), (8, .vl (.slice (some ⟨g2, 0, none⟩) vs.length c2)), (9, .vl (.int .i64 (vs.length : Int))), (10, .vl (.int .u64 (at0 vs (vs.length - 1)))), (11, .vl (.int .i64 (i : Int))), (13, .vl (.int .u64 (D - 1))), (244, .ro (.slice (some ⟨g1, 0, none⟩) U0.length c1) 140 (.int .u32) (us)), (245, .ro (.slice (some ⟨g2, 0, none⟩) vs.length c2) 140 (.int .u32) (vs)), (246, .ro (.slice (some ⟨g3, 0, none⟩) L L) 140 (.int .u32) (qs))] ⟨rfl, rfl, rfl, rfl, rfl, rfl, rfl, rfl, rfl, rfl, rfl, trivial⟩ ?_
     generalize (D - 1 : Int) = G at hF ⊢
     refine SC.region (PW.assign rfl rfl rfl rfl rfl (PW.assign rfl rfl rfl rfl rfl (PW.nil (SX.then (SC.seq (SC.seq (SC.region (PW.move rfl rfl rfl rfl rfl ?_))))))))
     refine PW.qn [(.tmp 115, .slice (some ⟨g2, 0, none⟩) vs.length c2)] (.int .i64 (vs.length : Int)) rfl rfl rfl ⟨rfl, trivial⟩ (fun ρ W h => by obtain ⟨h1, _⟩ := h; exact r_len h1) ?_
     refine PW.move rfl rfl rfl rfl rfl (PW.nil (SX.then (SC.block ?_)))
     refine SC.loop (S := Nat × List Int × Int × Int) (fun ⟨j, u1, cc, bb⟩ => [(4, .vl (.slice (some ⟨g3, 0, none⟩) L L)), (6, .vl (.int .u64 (s : Int))), (7, .vl (.slice (some ⟨g1, 0, none⟩) U0.length c1)), (8, .vl (.slice (some ⟨g2, 0, none⟩) vs.length c2)), (9, .vl (.int .i64 (vs.length : Int))), (10, .vl (.int .u64 (at0 vs (vs.length - 1)))), (11, .vl (.int .i64 (i : Int))), (13, .vl (.int .u64 (G))), (15, .vl (.int .u64 (cc))), (16, .vl (.int .u64 (bb))), (115, .vl (.slice (some ⟨g2, 0, none⟩) vs.length c2)), (116, .vl (.int .i64 (vs.length : Int))), (117, .vl (.int .i64 (j : Int))), (244, .ro (.slice (some ⟨g1, 0, none⟩) U0.length c1) 140 (.int .u32) (u1)), (245, .ro (.slice (some ⟨g2, 0, none⟩) vs.length c2) 140 (.int .u32) (vs)), (246, .ro (.slice (some ⟨g3, 0, none⟩) L L) 140 (.int .u32) (qs))]) (fun ⟨j, u1, cc, bb⟩ => MS us vs i G j u1 cc bb) (fun ⟨j, u1, cc, bb⟩ => vs.length - j) (0, us, 0, 0) (MS.start hR.lf.1) ⟨rfl, rfl, rfl, rfl, rfl, rfl, rfl, rfl, rfl, rfl, rfl, rfl, rfl, rfl, rfl, rfl, trivial⟩ ?_
     rintro ⟨j, u1, cc, bb⟩ hM
     show SC _ _ _ _ [(4, .vl (.slice (some ⟨g3, 0, none⟩) L L)), (6, .vl (.int .u64 (s : Int))), (7, .vl (.slice (some ⟨g1, 0, none⟩) U0.length c1)), (8, .vl (.slice (some ⟨g2, 0, none⟩) vs.length c2)), (9, .vl (.int .i64 (vs.length : Int))), (10, .vl (.int .u64 (at0 vs (vs.length - 1)))), (11, .vl (.int .i64 (i : Int))), (13, .vl (.int .u64 (G))), (15, .vl (.int .u64 (cc))), (16, .vl (.int .u64 (bb))), (115, .vl (.slice (some ⟨g2, 0, none⟩) vs.length c2)), (116, .vl (.int .i64 (vs.length : Int))), (117, .vl (.int .i64 (j : Int))), (244, .ro (.slice (some ⟨g1, 0, none⟩) U0.length c1) 140 (.int .u32) (u1)), (245, .ro (.slice (some ⟨g2, 0, none⟩) vs.length c2) 140 (.int .u32) (vs)), (246, .ro (.slice (some ⟨g3, 0, none⟩) L L) 140 (.int .u32) (qs))] _
     refine SC.seq ?_
     by_cases hj : (j : Int) < (vs.length : Int)
     ·refine SC.region ?_
      refine PW.q2 (x := .tmp 117) (y := .tmp 116) (.bool true) rfl rfl rfl rfl rfl (fun ρ W h1 h2 => by exact r_lt h1 h2 (decide_eq_true hj)) ?_
      refine PW.nil (SX.then (SC.seq (SC.cond (t := true) rfl (SC.skip (SX.then (SC.seq (SC.block (SC.seq ?_))))))))
      have hu1 := fun m => dg_at hM.2.1 BB_pos m
      have hb := hM.bound dv hF.d0 hF.lt
      have hl1 := hM.1
      refine SC.region (PW.move rfl rfl rfl rfl rfl ?_)
      refine PW.q2 (x := .tmp 115) (y := .tmp 117) (.pointer (some ⟨g2, j, none⟩)) rfl rfl rfl rfl rfl (fun ρ W h1 h2 => r_idx h1 h2 (by omega)) ?_
      refine PW.rload (K := 245) (i := j) rfl rfl rfl rfl rfl rfl (by omega) r_l32 ?_
      refine PW.assign rfl rfl rfl rfl rfl (PW.assign rfl rfl rfl rfl rfl (PW.nil (SX.then (SC.seq (SC.region (PW.move rfl rfl rfl rfl rfl (PW.move rfl rfl rfl rfl rfl ?_)))))))
      refine PW.q1 (x := .tmp 123) (.int .u64 (at0 vs j)) rfl rfl rfl rfl (fun ρ W h1 => by exact r_64 h1 (hv _)) ?_
      refine PW.q2 (x := .tmp 122) (y := .tmp 124) (.int .u64 (G * at0 vs j)) rfl rfl rfl rfl rfl (fun ρ W h1 h2 => by exact r_mul6 h1 h2 rfl (mulb ⟨hF.d0, hF.lt⟩ (hv _))) ?_
      refine PW.move rfl rfl rfl rfl rfl ?_
      refine PW.q2 (x := .tmp 125) (y := .tmp 126) (.int .u64 (G * at0 vs j + cc)) rfl rfl rfl rfl rfl (fun ρ W h1 h2 => by exact r_add6 h1 h2 rfl ⟨hb.1, hb.2.1⟩) ?_
      refine PW.assign rfl rfl rfl rfl rfl (PW.nil (SX.then (SC.seq (SC.region (PW.move rfl rfl rfl rfl rfl ?_)))))
      refine PW.q2 (x := .tmp 128) (y := .const (.int .u64 32)) (.int .u64 ((G * at0 vs j + cc) / 4294967296)) rfl rfl rfl rfl rfl (fun ρ W h1 h2 => by exact r_dn32 h1 h2) ?_
      refine PW.assign rfl rfl rfl rfl rfl (PW.nil (SX.then (SC.seq (SC.region (PW.move rfl rfl rfl rfl rfl (PW.move rfl rfl rfl rfl rfl (PW.move rfl rfl rfl rfl rfl ?_)))))))
      refine PW.q2 (x := .tmp 131) (y := .tmp 132) (.int .i64 (((i + j : Nat) : Int))) rfl rfl rfl rfl rfl (fun ρ W h1 h2 => by exact r_add h1 h2 (by omega) (by omega)) ?_
      refine PW.q2 (x := .tmp 130) (y := .tmp 133) (.pointer (some ⟨g1, i + j, none⟩)) rfl rfl rfl rfl rfl (fun ρ W h1 h2 => r_idx h1 h2 (by omega)) ?_
      refine PW.rload (K := 244) (i := i + j) rfl rfl rfl rfl rfl rfl (by omega) r_l32 ?_
      refine PW.q1 (x := .tmp 135) (.int .u64 (at0 u1 (i + j))) rfl rfl rfl rfl (fun ρ W h1 => by exact r_64 h1 (hu1 _)) ?_
      refine PW.move rfl rfl rfl rfl rfl ?_
      refine PW.q1 (x := .tmp 137) (.int .u32 ((G * at0 vs j + cc) % 4294967296)) rfl rfl rfl rfl (fun ρ W h1 => by exact r_32 h1) ?_
      refine PW.q1 (x := .tmp 138) (.int .u64 ((G * at0 vs j + cc) % 4294967296)) rfl rfl rfl rfl (fun ρ W h1 => by exact r_64 h1 (by omega)) ?_
      refine PW.q2 (x := .tmp 136) (y := .tmp 139) (.int .u64 ((at0 u1 (i + j) - (G * at0 vs j + cc) % 4294967296) % 18446744073709551616)) rfl rfl rfl rfl rfl (fun ρ W h1 h2 => by exact r_subw h1 h2) ?_
      refine PW.move rfl rfl rfl rfl rfl ?_
      refine PW.q2 (x := .tmp 140) (y := .tmp 141) (.int .u64 ((at0 u1 (i + j) - (G * at0 vs j + cc) % 4294967296 - bb) % 18446744073709551616)) rfl rfl rfl rfl rfl (fun ρ W h1 h2 => by exact r_subz h1 h2 (by omega)) ?_
      refine PW.assign rfl rfl rfl rfl rfl (PW.nil (SX.then (SC.region (PW.move rfl rfl rfl rfl rfl (PW.move rfl rfl rfl rfl rfl (PW.move rfl rfl rfl rfl rfl ?_))))))
      refine PW.q2 (x := .tmp 144) (y := .tmp 145) (.int .i64 (((i + j : Nat) : Int))) rfl rfl rfl rfl rfl (fun ρ W h1 h2 => by exact r_add h1 h2 (by omega) (by omega)) ?_
      refine PW.move rfl rfl rfl rfl rfl ?_
      refine PW.q1 (x := .tmp 147) (.int .u32 ((at0 u1 (i + j) - (G * at0 vs j + cc) % 4294967296 - bb) % 18446744073709551616 % 4294967296)) rfl rfl rfl rfl (fun ρ W h1 => by exact r_32 h1) ?_
      refine PW.move rfl rfl rfl rfl rfl ?_
      refine PW.q2 (x := .tmp 149) (y := .const (.int .u64 63)) (.int .u64 ((at0 u1 (i + j) - (G * at0 vs j + cc) % 4294967296 - bb) % 18446744073709551616 / 9223372036854775808)) rfl rfl rfl rfl rfl (fun ρ W h1 h2 => by exact r_dn63 h1 h2) ?_
      refine PW.q2 (x := .tmp 143) (y := .tmp 146) (.pointer (some ⟨g1, i + j, none⟩)) rfl rfl rfl rfl rfl (fun ρ W h1 h2 => r_idx h1 h2 (by omega)) ?_
      refine PW.rstore (K := 244) (x := .tmp 148) (i := i + j) (y := ((at0 u1 (i + j) - (G * at0 vs j + cc) % 4294967296 - bb) % 18446744073709551616 % 4294967296)) rfl rfl rfl rfl rfl (by omega) rfl rfl r_s32 ?_
      refine PW.assign rfl rfl rfl rfl rfl (PW.nil ?_)
      refine SX.blockN ?_
      refine SX.then (SC.region ?_)
      refine PW.q2 (x := .tmp 117) (y := .const (.int .i64 1)) (.int .i64 (((j + 1 : Nat) : Int))) rfl rfl rfl rfl rfl (fun ρ W h1 h2 => by exact r_add h1 h2 (by omega) (by omega)) ?_
      refine PW.move rfl rfl rfl rfl rfl (PW.nil ?_)
      refine SX.back (j + 1, u1.set (i + j) ((at0 u1 (i + j) - (G * at0 vs j + cc) % 4294967296 - bb) % 18446744073709551616 % 4294967296), ((G * at0 vs j + cc) / 4294967296), ((at0 u1 (i + j) - (G * at0 vs j + cc) % 4294967296 - bb) % 18446744073709551616 / 9223372036854775808)) ?_ ?_ ?_
      ·exact (hM.step dv hF.d0 hF.lt (by omega) hil)
      ·exact (show vs.length - (j + 1) < vs.length - j by omega)
      ·exact ⟨rfl, rfl, rfl, rfl, rfl, rfl, rfl, rfl, rfl, rfl, rfl, rfl, rfl, rfl, rfl, rfl, trivial⟩
     ·obtain rfl : j = vs.length := by have := hM.2.2.2.2.2.2.2.2; omega
      refine SC.region ?_
      refine PW.q2 (x := .tmp 117) (y := .tmp 116) (.bool false) rfl rfl rfl rfl rfl (fun ρ W h1 h2 => by exact r_lt h1 h2 (decide_eq_false hj)) ?_
      refine PW.nil (SX.then (SC.seq (SC.cond (t := false) rfl (SC.exit (SX.thenE (SX.thenE (SX.blockE (SX.then (SC.seq ?_)))))))))
      refine SC.keep [(4, .vl (.slice (some ⟨g3, 0, none⟩) L L)), (6, .vl (.int .u64 (s : Int))), (7, .vl (.slice (some ⟨g1, 0, none⟩) U0.length c1)), (8, .vl (.slice (some ⟨g2, 0, none⟩) vs.length c2)), (9, .vl (.int .i64 (vs.length : Int))), (10, .vl (.int .u64 (at0 vs (vs.length - 1)))), (11, .vl (.int .i64 (i : Int))), (13, .vl (.int .u64 (G))), (15, .vl (.int .u64 (cc))), (16, .vl (.int .u64 (bb))), (244, .ro (.slice (some ⟨g1, 0, none⟩) U0.length c1) 140 (.int .u32) (u1)), (245, .ro (.slice (some ⟨g2, 0, none⟩) vs.length c2) 140 (.int .u32) (vs)), (246, .ro (.slice (some ⟨g3, 0, none⟩) L L) 140 (.int .u32) (qs))] ⟨rfl, rfl, rfl, rfl, rfl, rfl, rfl, rfl, rfl, rfl, rfl, rfl, rfl, trivial⟩ ?_
      have hu1 := fun m => dg_at hM.2.1 BB_pos m
      have hl1 := hM.1
      refine SC.region (PW.move rfl rfl rfl rfl rfl (PW.move rfl rfl rfl rfl rfl (PW.move rfl rfl rfl rfl rfl ?_)))
      refine PW.q2 (x := .tmp 154) (y := .tmp 155) (.int .i64 (((i + vs.length : Nat) : Int))) rfl rfl rfl rfl rfl (fun ρ W h1 h2 => by exact r_add h1 h2 (by omega) (by omega)) ?_
      refine PW.q2 (x := .tmp 153) (y := .tmp 156) (.pointer (some ⟨g1, i + vs.length, none⟩)) rfl rfl rfl rfl rfl (fun ρ W h1 h2 => r_idx h1 h2 (by omega)) ?_
      refine PW.rload (K := 244) (i := i + vs.length) rfl rfl rfl rfl rfl rfl (by omega) r_l32 ?_
      refine PW.q1 (x := .tmp 158) (.int .u64 (at0 u1 (i + vs.length))) rfl rfl rfl rfl (fun ρ W h1 => by exact r_64 h1 (hu1 _)) ?_
      refine PW.move rfl rfl rfl rfl rfl ?_
      refine PW.q2 (x := .tmp 159) (y := .tmp 160) (.int .u64 ((at0 u1 (i + vs.length) - cc) % 18446744073709551616)) rfl rfl rfl rfl rfl (fun ρ W h1 h2 => by exact r_subw h1 h2) ?_
      refine PW.move rfl rfl rfl rfl rfl ?_
      refine PW.q2 (x := .tmp 161) (y := .tmp 162) (.int .u64 ((at0 u1 (i + vs.length) - cc - bb) % 18446744073709551616)) rfl rfl rfl rfl rfl (fun ρ W h1 h2 => by exact r_subz h1 h2 (by omega)) ?_
      refine PW.assign rfl rfl rfl rfl rfl (PW.nil (SX.then (SC.seq (SC.region (PW.move rfl rfl rfl rfl rfl (PW.move rfl rfl rfl rfl rfl (PW.move rfl rfl rfl rfl rfl ?_)))))))
      refine PW.q2 (x := .tmp 165) (y := .tmp 166) (.int .i64 (((i + vs.length : Nat) : Int))) rfl rfl rfl rfl rfl (fun ρ W h1 h2 => by exact r_add h1 h2 (by omega) (by omega)) ?_
      refine PW.move rfl rfl rfl rfl rfl ?_
      refine PW.q1 (x := .tmp 168) (.int .u32 ((at0 u1 (i + vs.length) - cc - bb) % 18446744073709551616 % 4294967296)) rfl rfl rfl rfl (fun ρ W h1 => by exact r_32 h1) ?_
      refine PW.q2 (x := .tmp 164) (y := .tmp 167) (.pointer (some ⟨g1, i + vs.length, none⟩)) rfl rfl rfl rfl rfl (fun ρ W h1 h2 => r_idx h1 h2 (by omega)) ?_
      refine PW.rstore (K := 244) (x := .tmp 169) (i := i + vs.length) (y := ((at0 u1 (i + vs.length) - cc - bb) % 18446744073709551616 % 4294967296)) rfl rfl rfl rfl rfl (by omega) rfl rfl r_s32 ?_
      refine PW.nil (SX.then (SC.seq (SC.seq ?_)))
      refine SC.keep [(4, .vl (.slice (some ⟨g3, 0, none⟩) L L)), (6, .vl (.int .u64 (s : Int))), (7, .vl (.slice (some ⟨g1, 0, none⟩) U0.length c1)), (8, .vl (.slice (some ⟨g2, 0, none⟩) vs.length c2)), (9, .vl (.int .i64 (vs.length : Int))), (10, .vl (.int .u64 (at0 vs (vs.length - 1)))), (11, .vl (.int .i64 (i : Int))), (13, .vl (.int .u64 (G))), (21, .vl (.int .u64 ((at0 u1 (i + vs.length) - cc - bb) % 18446744073709551616))), (244, .ro (.slice (some ⟨g1, 0, none⟩) U0.length c1) 140 (.int .u32) (u1.set (i + vs.length) ((at0 u1 (i + vs.length) - cc - bb) % 18446744073709551616 % 4294967296))), (245, .ro (.slice (some ⟨g2, 0, none⟩) vs.length c2) 140 (.int .u32) (vs)), (246, .ro (.slice (some ⟨g3, 0, none⟩) L L) 140 (.int .u32) (qs))] ⟨rfl, rfl, rfl, rfl, rfl, rfl, rfl, rfl, rfl, rfl, rfl, rfl, trivial⟩ ?_
      obtain ⟨l2, d2, v2, z2, g2e⟩ := hM.fin hil rfl rfl
      generalize u1.set (i + vs.length) ((at0 u1 (i + vs.length) - cc - bb) % 18446744073709551616 % 4294967296) = u2 at l2 d2 v2 z2 ⊢
      by_cases hg1 : (at0 u1 (i + vs.length) - cc - bb) % 18446744073709551616 / 9223372036854775808 = 1
      ·refine SC.region ?_
       refine PW.move rfl rfl rfl rfl rfl ?_
       refine PW.q2 (x := .tmp 171) (y := .const (.int .u64 63)) (.int .u64 ((at0 u1 (i + vs.length) - cc - bb) % 18446744073709551616 / 9223372036854775808)) rfl rfl rfl rfl rfl (fun ρ W h1 h2 => by exact r_dn63 h1 h2) ?_
       refine PW.q2 (x := .tmp 172) (y := .const (.int .u64 1)) (.bool true) rfl rfl rfl rfl rfl (fun ρ W h1 h2 => by exact r_eq6 h1 h2 (decide_eq_true hg1)) ?_
       refine PW.nil (SX.then (SC.cond (t := true) rfl (SC.seq (SC.region (PW.move rfl rfl rfl rfl rfl ?_)))))
       refine PW.q2 (x := .tmp 174) (y := .const (.int .u64 1)) (.int .u64 ((G - 1) % 18446744073709551616)) rfl rfl rfl rfl rfl (fun ρ W h1 h2 => by exact r_subw h1 h2) ?_
       refine PW.assign rfl rfl rfl rfl rfl (PW.nil (SX.then (SC.seq (SC.region (PW.assign rfl rfl rfl rfl rfl (PW.nil (SX.then (SC.seq (SC.seq (SC.region (PW.move rfl rfl rfl rfl rfl ?_)))))))))))
       refine PW.qn [(.tmp 176, .slice (some ⟨g2, 0, none⟩) vs.length c2)] (.int .i64 (vs.length : Int)) rfl rfl rfl ⟨rfl, trivial⟩ (fun ρ W h => by obtain ⟨h1, _⟩ := h; exact r_len h1) ?_
       refine PW.move rfl rfl rfl rfl rfl (PW.nil (SX.then (SC.block ?_)))
       refine SC.loop (S := Nat × List Int × Int) (fun ⟨k, u3, c⟩ => [(4, .vl (.slice (some ⟨g3, 0, none⟩) L L)), (6, .vl (.int .u64 (s : Int))), (7, .vl (.slice (some ⟨g1, 0, none⟩) U0.length c1)), (8, .vl (.slice (some ⟨g2, 0, none⟩) vs.length c2)), (9, .vl (.int .i64 (vs.length : Int))), (10, .vl (.int .u64 (at0 vs (vs.length - 1)))), (11, .vl (.int .i64 (i : Int))), (13, .vl (.int .u64 ((G - 1) % 18446744073709551616))), (22, .vl (.int .u32 (c))), (176, .vl (.slice (some ⟨g2, 0, none⟩) vs.length c2)), (177, .vl (.int .i64 (vs.length : Int))), (178, .vl (.int .i64 (k : Int))), (244, .ro (.slice (some ⟨g1, 0, none⟩) U0.length c1) 140 (.int .u32) (u3)), (245, .ro (.slice (some ⟨g2, 0, none⟩) vs.length c2) 140 (.int .u32) (vs)), (246, .ro (.slice (some ⟨g3, 0, none⟩) L L) 140 (.int .u32) (qs))]) (fun ⟨k, u3, c⟩ => AB u2 vs i k u3 c) (fun ⟨k, u3, c⟩ => vs.length - k) (0, u2, 0) (AB.start d2) ⟨rfl, rfl, rfl, rfl, rfl, rfl, rfl, rfl, rfl, rfl, rfl, rfl, rfl, rfl, rfl, trivial⟩ ?_
       rintro ⟨k, u3, c⟩ hA
       show SC _ _ _ _ [(4, .vl (.slice (some ⟨g3, 0, none⟩) L L)), (6, .vl (.int .u64 (s : Int))), (7, .vl (.slice (some ⟨g1, 0, none⟩) U0.length c1)), (8, .vl (.slice (some ⟨g2, 0, none⟩) vs.length c2)), (9, .vl (.int .i64 (vs.length : Int))), (10, .vl (.int .u64 (at0 vs (vs.length - 1)))), (11, .vl (.int .i64 (i : Int))), (13, .vl (.int .u64 ((G - 1) % 18446744073709551616))), (22, .vl (.int .u32 (c))), (176, .vl (.slice (some ⟨g2, 0, none⟩) vs.length c2)), (177, .vl (.int .i64 (vs.length : Int))), (178, .vl (.int .i64 (k : Int))), (244, .ro (.slice (some ⟨g1, 0, none⟩) U0.length c1) 140 (.int .u32) (u3)), (245, .ro (.slice (some ⟨g2, 0, none⟩) vs.length c2) 140 (.int .u32) (vs)), (246, .ro (.slice (some ⟨g3, 0, none⟩) L L) 140 (.int .u32) (qs))] _
       refine SC.seq ?_
       by_cases hk : (k : Int) < (vs.length : Int)
       ·refine SC.region ?_
        refine PW.q2 (x := .tmp 178) (y := .tmp 177) (.bool true) rfl rfl rfl rfl rfl (fun ρ W h1 h2 => by exact r_lt h1 h2 (decide_eq_true hk)) ?_
        refine PW.nil (SX.then (SC.seq (SC.cond (t := true) rfl (SC.skip (SX.then (SC.seq (SC.block (SC.seq ?_))))))))
        have hu3 := fun m => dg_at hA.2.1 BB_pos m
        have hl3 := hA.1
        refine SC.region (PW.move rfl rfl rfl rfl rfl ?_)
        refine PW.q2 (x := .tmp 176) (y := .tmp 178) (.pointer (some ⟨g2, k, none⟩)) rfl rfl rfl rfl rfl (fun ρ W h1 h2 => r_idx h1 h2 (by omega)) ?_
        refine PW.rload (K := 245) (i := k) rfl rfl rfl rfl rfl rfl (by omega) r_l32 ?_
        refine PW.assign rfl rfl rfl rfl rfl (PW.assign rfl rfl rfl rfl rfl (PW.nil (SX.then (SC.region (PW.move rfl rfl rfl rfl rfl (PW.move rfl rfl rfl rfl rfl (PW.move rfl rfl rfl rfl rfl ?_)))))))
        refine PW.q2 (x := .tmp 185) (y := .tmp 186) (.int .i64 (((i + k : Nat) : Int))) rfl rfl rfl rfl rfl (fun ρ W h1 h2 => by exact r_add h1 h2 (by omega) (by omega)) ?_
        refine PW.move rfl rfl rfl rfl rfl (PW.move rfl rfl rfl rfl rfl (PW.move rfl rfl rfl rfl rfl ?_))
        refine PW.q2 (x := .tmp 189) (y := .tmp 190) (.int .i64 (((i + k : Nat) : Int))) rfl rfl rfl rfl rfl (fun ρ W h1 h2 => by exact r_add h1 h2 (by omega) (by omega)) ?_
        refine PW.q2 (x := .tmp 188) (y := .tmp 191) (.pointer (some ⟨g1, i + k, none⟩)) rfl rfl rfl rfl rfl (fun ρ W h1 h2 => r_idx h1 h2 (by omega)) ?_
        refine PW.rload (K := 244) (i := i + k) rfl rfl rfl rfl rfl rfl (by omega) r_l32 ?_
        refine PW.move rfl rfl rfl rfl rfl (PW.move rfl rfl rfl rfl rfl ?_)
        refine PW.call (r := .vl (.tuple #[.int .u32 ((at0 u3 (i + k) + at0 vs k + c) % 4294967296), .int .u32 ((at0 u3 (i + k) + at0 vs k + c) / 4294967296)])) rfl rfl rfl rfl rfl rfl (KV.st _) rfl (k_add32 (hu3 _) (hv _) ⟨hA.2.2.2.2.1, hA.2.2.2.2.2.1⟩) ?_
        refine PW.move rfl rfl rfl rfl rfl ?_
        refine PW.q1 (x := .tmp 183) (.int .u32 ((at0 u3 (i + k) + at0 vs k + c) % 4294967296)) rfl rfl rfl rfl (fun ρ W h1 => by go_simp) ?_
        refine PW.q1 (x := .tmp 183) (.int .u32 ((at0 u3 (i + k) + at0 vs k + c) / 4294967296)) rfl rfl rfl rfl (fun ρ W h1 => by go_simp) ?_
        refine PW.q2 (x := .tmp 184) (y := .tmp 187) (.pointer (some ⟨g1, i + k, none⟩)) rfl rfl rfl rfl rfl (fun ρ W h1 h2 => r_idx h1 h2 (by omega)) ?_
        refine PW.rstore (K := 244) (x := .tmp 197) (i := i + k) (y := ((at0 u3 (i + k) + at0 vs k + c) % 4294967296)) rfl rfl rfl rfl rfl (by omega) rfl rfl r_s32 ?_
        refine PW.assign rfl rfl rfl rfl rfl (PW.nil ?_)
        refine SX.blockN ?_
        refine SX.then (SC.region ?_)
        refine PW.q2 (x := .tmp 178) (y := .const (.int .i64 1)) (.int .i64 (((k + 1 : Nat) : Int))) rfl rfl rfl rfl rfl (fun ρ W h1 h2 => by exact r_add h1 h2 (by omega) (by omega)) ?_
        refine PW.move rfl rfl rfl rfl rfl (PW.nil ?_)
        refine SX.back (k + 1, u3.set (i + k) ((at0 u3 (i + k) + at0 vs k + c) % 4294967296), ((at0 u3 (i + k) + at0 vs k + c) / 4294967296)) ?_ ?_ ?_
        ·exact (hA.step dv (by omega) (by omega))
        ·exact (show vs.length - (k + 1) < vs.length - k by omega)
        ·exact ⟨rfl, rfl, rfl, rfl, rfl, rfl, rfl, rfl, rfl, rfl, rfl, rfl, rfl, rfl, rfl, trivial⟩
       ·obtain rfl : k = vs.length := by have := hA.2.2.2.2.2.2; omega
        refine SC.region ?_
        refine PW.q2 (x := .tmp 178) (y := .tmp 177) (.bool false) rfl rfl rfl rfl rfl (fun ρ W h1 h2 => by exact r_lt h1 h2 (decide_eq_false hk)) ?_
        refine PW.nil (SX.then (SC.seq (SC.cond (t := false) rfl (SC.exit (SX.thenE (SX.thenE (SX.blockE (SX.then ?_))))))))
        have hu3 := fun m => dg_at hA.2.1 BB_pos m
        have hl3 := hA.1
        refine SC.region (PW.move rfl rfl rfl rfl rfl (PW.move rfl rfl rfl rfl rfl (PW.move rfl rfl rfl rfl rfl ?_)))
        refine PW.q2 (x := .tmp 202) (y := .tmp 203) (.int .i64 (((i + vs.length : Nat) : Int))) rfl rfl rfl rfl rfl (fun ρ W h1 h2 => by exact r_add h1 h2 (by omega) (by omega)) ?_
        refine PW.q2 (x := .tmp 201) (y := .tmp 204) (.pointer (some ⟨g1, i + vs.length, none⟩)) rfl rfl rfl rfl rfl (fun ρ W h1 h2 => r_idx h1 h2 (by omega)) ?_
        refine PW.rload (K := 244) (i := i + vs.length) rfl rfl rfl rfl rfl rfl (by omega) r_l32 ?_
        refine PW.move rfl rfl rfl rfl rfl ?_
        refine PW.q2 (x := .tmp 206) (y := .tmp 207) (.int .u32 ((at0 u3 (i + vs.length) + c) % 4294967296)) rfl rfl rfl rfl rfl (fun ρ W h1 h2 => by exact r_addw h1 h2) ?_
        refine PW.q2 (x := .tmp 201) (y := .tmp 204) (.pointer (some ⟨g1, i + vs.length, none⟩)) rfl rfl rfl rfl rfl (fun ρ W h1 h2 => r_idx h1 h2 (by omega)) ?_
        refine PW.rstore (K := 244) (x := .tmp 208) (i := i + vs.length) (y := ((at0 u3 (i + vs.length) + c) % 4294967296)) rfl rfl rfl rfl rfl (by omega) rfl rfl r_s32 ?_
        refine PW.nil (SX.then ?_)
        refine SC.keep [(4, .vl (.slice (some ⟨g3, 0, none⟩) L L)), (6, .vl (.int .u64 (s : Int))), (7, .vl (.slice (some ⟨g1, 0, none⟩) U0.length c1)), (8, .vl (.slice (some ⟨g2, 0, none⟩) vs.length c2)), (9, .vl (.int .i64 (vs.length : Int))), (10, .vl (.int .u64 (at0 vs (vs.length - 1)))), (11, .vl (.int .i64 (i : Int))), (13, .vl (.int .u64 ((G - 1) % 18446744073709551616))), (244, .ro (.slice (some ⟨g1, 0, none⟩) U0.length c1) 140 (.int .u32) (u3.set (i + vs.length) ((at0 u3 (i + vs.length) + c) % 4294967296))), (245, .ro (.slice (some ⟨g2, 0, none⟩) vs.length c2) 140 (.int .u32) (vs)), (246, .ro (.slice (some ⟨g3, 0, none⟩) L L) 140 (.int .u32) (qs))] ⟨rfl, rfl, rfl, rfl, rfl, rfl, rfl, rfl, rfl, rfl, rfl, trivial⟩ ?_
        obtain ⟨l3, d3, ⟨c2e, hc2, v3⟩, z3⟩ := hA.fin (by omega) rfl
        obtain ⟨lf3, e3⟩ := round_neg hR.lf dv d2 d3 hF.lo v2 hg1 z2 z3 v3 hc2
        have hG1 := down_pos hR.lf.1 lf3 e3 hF.d0
        have hG2 := hF.lt
        refine SC.region (PW.move rfl rfl rfl rfl rfl (PW.move rfl rfl rfl rfl rfl (PW.move rfl rfl rfl rfl rfl ?_)))
        refine PW.q1 (x := .tmp 212) (.int .u32 (G - 1)) rfl rfl rfl rfl (fun ρ W h1 => by exact r_32z h1 (by have := hF.lt; omega)) ?_
        refine PW.q2 (x := .tmp 210) (y := .tmp 211) (.pointer (some ⟨g3, i, none⟩)) rfl rfl rfl rfl rfl (fun ρ W h1 h2 => r_idx h1 h2 (by omega)) ?_
        refine PW.rstore (K := 246) (x := .tmp 213) (i := i) (y := (G - 1)) rfl rfl rfl rfl rfl (by omega) rfl rfl r_s32 ?_
        refine PW.nil ?_
        refine SX.blockN ?_
        refine SX.then (SC.region (PW.move rfl rfl rfl rfl rfl ?_))
        refine PW.q2 (x := .tmp 59) (y := .const (.int .i64 1)) (.int .i64 ((i : Int) - 1)) rfl rfl rfl rfl rfl (fun ρ W h1 h2 => by exact r_sub h1 h2 (by omega) (by omega)) ?_
        refine PW.assign rfl rfl rfl rfl rfl (PW.nil ?_)
        refine SX.back (i, u3.set (i + vs.length) ((at0 u3 (i + vs.length) + c) % 4294967296), qs.set i (G - 1)) ?_ ?_ ?_
        ·exact (hR.step (by omega) lf3 e3 (by omega) (by omega))
        ·exact (Nat.lt_succ_self i)
        ·exact ⟨rfl, rfl, rfl, rfl, rfl, rfl, rfl, rfl, rfl, rfl, trivial⟩
      ·refine SC.region ?_
       refine PW.move rfl rfl rfl rfl rfl ?_
       refine PW.q2 (x := .tmp 171) (y := .const (.int .u64 63)) (.int .u64 ((at0 u1 (i + vs.length) - cc - bb) % 18446744073709551616 / 9223372036854775808)) rfl rfl rfl rfl rfl (fun ρ W h1 h2 => by exact r_dn63 h1 h2) ?_
       refine PW.q2 (x := .tmp 172) (y := .const (.int .u64 1)) (.bool false) rfl rfl rfl rfl rfl (fun ρ W h1 h2 => by exact r_eq6 h1 h2 (decide_eq_false hg1)) ?_
       refine PW.nil (SX.then (SC.cond (t := false) rfl (SC.skip (SX.then ?_))))
       refine SC.keep [(4, .vl (.slice (some ⟨g3, 0, none⟩) L L)), (6, .vl (.int .u64 (s : Int))), (7, .vl (.slice (some ⟨g1, 0, none⟩) U0.length c1)), (8, .vl (.slice (some ⟨g2, 0, none⟩) vs.length c2)), (9, .vl (.int .i64 (vs.length : Int))), (10, .vl (.int .u64 (at0 vs (vs.length - 1)))), (11, .vl (.int .i64 (i : Int))), (13, .vl (.int .u64 (G))), (244, .ro (.slice (some ⟨g1, 0, none⟩) U0.length c1) 140 (.int .u32) (u2)), (245, .ro (.slice (some ⟨g2, 0, none⟩) vs.length c2) 140 (.int .u32) (vs)), (246, .ro (.slice (some ⟨g3, 0, none⟩) L L) 140 (.int .u32) (qs))] ⟨rfl, rfl, rfl, rfl, rfl, rfl, rfl, rfl, rfl, rfl, rfl, trivial⟩ ?_
       obtain ⟨lf3, e3⟩ := round_pos hR.lf d2 hF.up v2 (by omega)
       refine SC.region (PW.move rfl rfl rfl rfl rfl (PW.move rfl rfl rfl rfl rfl (PW.move rfl rfl rfl rfl rfl ?_)))
       refine PW.q1 (x := .tmp 212) (.int .u32 (G)) rfl rfl rfl rfl (fun ρ W h1 => by exact r_32z h1 (by have := hF.lt; have := hF.d0; omega)) ?_
       refine PW.q2 (x := .tmp 210) (y := .tmp 211) (.pointer (some ⟨g3, i, none⟩)) rfl rfl rfl rfl rfl (fun ρ W h1 h2 => r_idx h1 h2 (by omega)) ?_
       refine PW.rstore (K := 246) (x := .tmp 213) (i := i) (y := (G)) rfl rfl rfl rfl rfl (by omega) rfl rfl r_s32 ?_
       refine PW.nil ?_
       refine SX.blockN ?_
       refine SX.then (SC.region (PW.move rfl rfl rfl rfl rfl ?_))
       refine PW.q2 (x := .tmp 59) (y := .const (.int .i64 1)) (.int .i64 ((i : Int) - 1)) rfl rfl rfl rfl rfl (fun ρ W h1 h2 => by exact r_sub h1 h2 (by omega) (by omega)) ?_
       refine PW.assign rfl rfl rfl rfl rfl (PW.nil ?_)
       refine SX.back (i, u2, qs.set i (G)) ?_ ?_ ?_
       ·exact (hR.step (by omega) lf3 e3 hF.d0 hF.lt)
       ·exact (Nat.lt_succ_self i)
       ·exact ⟨rfl, rfl, rfl, rfl, rfl, rfl, rfl, rfl, rfl, rfl, trivial⟩
    ·refine SC.region ?_
     refine PW.move rfl rfl rfl rfl rfl ?_
     refine PW.q2 (x := .tmp 113) (y := .const (.int .u64 4294967296)) (.bool false) rfl rfl rfl rfl rfl (fun ρ W h1 h2 => by exact r_ge6 h1 h2 (decide_eq_false hr)) ?_
     refine PW.nil (SX.then (SC.cond (t := false) rfl (SC.skip ?_)))
     refine SX.blockN ?_
     refine SX.back (D - 1, r + at0 vs (vs.length - 1)) ?_ ?_ ?_
     ·exact ⟨he2, by omega, by omega⟩
     ·exact (show (D - 1).toNat < D.toNat by omega)
     ·exact ⟨rfl, rfl, rfl, rfl, rfl, rfl, rfl, rfl, rfl, rfl, rfl, rfl, trivial⟩
   ·have hF : Gd us vs i D := ⟨he.d0, by omega, he.near hR.lf dv (by omega) hil (by omega) (by omega) (by omega), he.lt⟩
    refine SC.dx [.val 84 (.vl (.int .u64 (D))), .val 85 (.vl (.bool false)), .val 86 (.vl (.bool false)), .val 87 (.vl (.int .u64 (D))), .val 88 (.vl (.slice (some ⟨g2, 0, none⟩) vs.length c2)), .val 89 (.vl (.int .i64 (vs.length : Int))), .val 90 (.vl (.int .i64 (((vs.length - 2 : Nat) : Int)))), .val 91 (.vl (.pointer (some ⟨g2, vs.length - 2, none⟩))), .val 92 (.vl (.int .u32 (at0 vs (vs.length - 2)))), .val 93 (.vl (.int .u64 (at0 vs (vs.length - 2)))), .val 94 (.vl (.int .u64 (D * at0 vs (vs.length - 2)))), .val 95 (.vl (.int .u64 (r))), .val 96 (.vl (.int .u64 (r * 4294967296))), .val 97 (.vl (.slice (some ⟨g1, 0, none⟩) U0.length c1)), .val 98 (.vl (.int .i64 (i : Int))), .val 99 (.vl (.int .i64 (vs.length : Int))), .val 100 (.vl (.int .i64 (((i + vs.length : Nat) : Int)))), .val 101 (.vl (.int .i64 (((i + vs.length - 2 : Nat) : Int)))), .val 102 (.vl (.pointer (some ⟨g1, i + vs.length - 2, none⟩))), .val 103 (.vl (.int .u32 (at0 us (i + vs.length - 2)))), .val 104 (.vl (.int .u64 (at0 us (i + vs.length - 2)))), .val 105 (.vl (.int .u64 (r * 4294967296 + at0 us (i + vs.length - 2)))), .val 106 (.vl (.bool false)), .val 107 (.vl (.bool false))] [([], [13]), ([0], []), ([1], []), ([2], [13]), ([2], [8]), ([2], [9]), ([5, 2], []), ([4, 6, 2], []), ([7, 2], [245]), ([8, 2], []), ([3, 9, 2], []), ([2], [14]), ([11, 2], []), ([2], [7]), ([2], [11]), ([2], [9]), ([14, 15, 2], []), ([16, 2], []), ([13, 17, 2], []), ([18, 2], [244]), ([19, 2], []), ([12, 20, 2], []), ([10, 21, 2], []), ([2, 22], [])] rfl (by kernel_rfl) (by kernel_rfl) (by kernel_rfl) rfl ⟨?_, ?_, ?_, ?_, ?_, ?_, ?_, ?_, ?_, ?_, ?_, ?_, ?_, ?_, ?_, ?_, ?_, ?_, ?_, ?_, ?_, ?_, ?_, ?_, trivial⟩ ?_
    ·exact DX.move rfl rfl rfl rfl rfl rfl
    ·exact DX.q2 (x := .tmp 84) (y := .const (.int .u64 4294967296)) (.bool false) rfl rfl rfl rfl rfl (fun ρ W h1 h2 => by exact r_ge6 h1 h2 (decide_eq_false hg))
    ·exact DX.move rfl rfl rfl rfl rfl rfl
    ·exact DX.move rfl rfl rfl rfl rfl rfl
    ·exact DX.move rfl rfl rfl rfl rfl rfl
    ·exact DX.move rfl rfl rfl rfl rfl rfl
    ·exact DX.q2 (x := .tmp 89) (y := .const (.int .i64 2)) (.int .i64 (((vs.length - 2 : Nat) : Int))) rfl rfl rfl rfl rfl (fun ρ W h1 h2 => by exact r_sub h1 h2 (by omega) (by omega))
    ·exact DX.q2 (x := .tmp 88) (y := .tmp 90) (.pointer (some ⟨g2, vs.length - 2, none⟩)) rfl rfl rfl rfl rfl (fun ρ W h1 h2 => r_idx h1 h2 (by omega))
    ·exact DX.rload (K := 245) (i := vs.length - 2) rfl rfl rfl rfl rfl rfl (by omega) r_l32
    ·exact DX.q1 (x := .tmp 92) (.int .u64 (at0 vs (vs.length - 2))) rfl rfl rfl rfl (fun ρ W h1 => by exact r_64 h1 (hv _))
    ·exact DX.q2 (x := .tmp 87) (y := .tmp 93) (.int .u64 (D * at0 vs (vs.length - 2))) rfl rfl rfl rfl rfl (fun ρ W h1 h2 => by exact r_mul6 h1 h2 rfl (mulb ⟨he.d0, by omega⟩ (hv _)))
    ·exact DX.move rfl rfl rfl rfl rfl rfl
    ·exact DX.q2 (x := .tmp 95) (y := .const (.int .u64 32)) (.int .u64 (r * 4294967296)) rfl rfl rfl rfl rfl (fun ρ W h1 h2 => by exact r_up32 h1 h2 ⟨he.r0, hrB⟩)
    ·exact DX.move rfl rfl rfl rfl rfl rfl
    ·exact DX.move rfl rfl rfl rfl rfl rfl
    ·exact DX.move rfl rfl rfl rfl rfl rfl
    ·exact DX.q2 (x := .tmp 98) (y := .tmp 99) (.int .i64 (((i + vs.length : Nat) : Int))) rfl rfl rfl rfl rfl (fun ρ W h1 h2 => by exact r_add h1 h2 (by omega) (by omega))
    ·exact DX.q2 (x := .tmp 100) (y := .const (.int .i64 2)) (.int .i64 (((i + vs.length - 2 : Nat) : Int))) rfl rfl rfl rfl rfl (fun ρ W h1 h2 => by exact r_sub h1 h2 (by omega) (by omega))
    ·exact DX.q2 (x := .tmp 97) (y := .tmp 101) (.pointer (some ⟨g1, i + vs.length - 2, none⟩)) rfl rfl rfl rfl rfl (fun ρ W h1 h2 => r_idx h1 h2 (by omega))
    ·exact DX.rload (K := 244) (i := i + vs.length - 2) rfl rfl rfl rfl rfl rfl (by omega) r_l32
    ·exact DX.q1 (x := .tmp 103) (.int .u64 (at0 us (i + vs.length - 2))) rfl rfl rfl rfl (fun ρ W h1 => by exact r_64 h1 (hu _))
    ·exact DX.q2 (x := .tmp 96) (y := .tmp 104) (.int .u64 (r * 4294967296 + at0 us (i + vs.length - 2))) rfl rfl rfl rfl rfl (fun ρ W h1 h2 => by exact r_join h1 h2 ⟨he.r0, hrB⟩ (hu _))
    ·exact DX.q2 (x := .tmp 94) (y := .tmp 105) (.bool false) rfl rfl rfl rfl rfl (fun ρ W h1 h2 => by exact r_gt6 h1 h2 (decide_eq_false hx))
    ·exact DX.pick (t := false) rfl rfl rfl rfl rfl rfl rfl
    refine SX.then (SC.cond (t := false) rfl (SC.exit (SX.thenE (SX.thenE (SX.blockE (SX.then (SC.seq ?_)))))))
    refine SC.keep [(4, .vl (.slice (some ⟨g3, 0, none⟩) L L)), (6, .vl (.int .u64 (s : Int))), (7, .vl (.slice (some ⟨g1, 0, none⟩) U0.length c1)), (8, .vl (.slice (some ⟨g2, 0, none⟩) vs.length c2)), (9, .vl (.int .i64 (vs.length : Int))), (10, .vl (.int .u64 (at0 vs (vs.length - 1)))), (11, .vl (.int .i64 (i : Int))), (13, .vl (.int .u64 (D))), (244, .ro (.slice (some ⟨g1, 0, none⟩) U0.length c1) 140 (.int .u32) (us)), (245, .ro (.slice (some ⟨g2, 0, none⟩) vs.length c2) 140 (.int .u32) (vs)), (246, .ro (.slice (some ⟨g3, 0, none⟩) L L) 140 (.int .u32) (qs))] ⟨rfl, rfl, rfl, rfl, rfl, rfl, rfl, rfl, rfl, rfl, rfl, trivial⟩ ?_
    generalize (D : Int) = G at hF ⊢
    refine SC.region (PW.assign rfl rfl rfl rfl rfl (PW.assign rfl rfl rfl rfl rfl (PW.nil (SX.then (SC.seq (SC.seq (SC.region (PW.move rfl rfl rfl rfl rfl ?_))))))))
    refine PW.qn [(.tmp 115, .slice (some ⟨g2, 0, none⟩) vs.length c2)] (.int .i64 (vs.length : Int)) rfl rfl rfl ⟨rfl, trivial⟩ (fun ρ W h => by obtain ⟨h1, _⟩ := h; exact r_len h1) ?_
    refine PW.move rfl rfl rfl rfl rfl (PW.nil (SX.then (SC.block ?_)))
    refine SC.loop (S := Nat × List Int × Int × Int) (fun ⟨j, u1, cc, bb⟩ => [(4, .vl (.slice (some ⟨g3, 0, none⟩) L L)), (6, .vl (.int .u64 (s : Int))), (7, .vl (.slice (some ⟨g1, 0, none⟩) U0.length c1)), (8, .vl (.slice (some ⟨g2, 0, none⟩) vs.length c2)), (9, .vl (.int .i64 (vs.length : Int))), (10, .vl (.int .u64 (at0 vs (vs.length - 1)))), (11, .vl (.int .i64 (i : Int))), (13, .vl (.int .u64 (G))), (15, .vl (.int .u64 (cc))), (16, .vl (.int .u64 (bb))), (115, .vl (.slice (some ⟨g2, 0, none⟩) vs.length c2)), (116, .vl (.int .i64 (vs.length : Int))), (117, .vl (.int .i64 (j : Int))), (244, .ro (.slice (some ⟨g1, 0, none⟩) U0.length c1) 140 (.int .u32) (u1)), (245, .ro (.slice (some ⟨g2, 0, none⟩) vs.length c2) 140 (.int .u32) (vs)), (246, .ro (.slice (some ⟨g3, 0, none⟩) L L) 140 (.int .u32) (qs))]) (fun ⟨j, u1, cc, bb⟩ => MS us vs i G j u1 cc bb) (fun ⟨j, u1, cc, bb⟩ => vs.length - j) (0, us, 0, 0) (MS.start hR.lf.1) ⟨rfl, rfl, rfl, rfl, rfl, rfl, rfl, rfl, rfl, rfl, rfl, rfl, rfl, rfl, rfl, rfl, trivial⟩ ?_
    rintro ⟨j, u1, cc, bb⟩ hM
    show SC _ _ _ _ [(4, .vl (.slice (some ⟨g3, 0, none⟩) L L)), (6, .vl (.int .u64 (s : Int))), (7, .vl (.slice (some ⟨g1, 0, none⟩) U0.length c1)), (8, .vl (.slice (some ⟨g2, 0, none⟩) vs.length c2)), (9, .vl (.int .i64 (vs.length : Int))), (10, .vl (.int .u64 (at0 vs (vs.length - 1)))), (11, .vl (.int .i64 (i : Int))), (13, .vl (.int .u64 (G))), (15, .vl (.int .u64 (cc))), (16, .vl (.int .u64 (bb))), (115, .vl (.slice (some ⟨g2, 0, none⟩) vs.length c2)), (116, .vl (.int .i64 (vs.length : Int))), (117, .vl (.int .i64 (j : Int))), (244, .ro (.slice (some ⟨g1, 0, none⟩) U0.length c1) 140 (.int .u32) (u1)), (245, .ro (.slice (some ⟨g2, 0, none⟩) vs.length c2) 140 (.int .u32) (vs)), (246, .ro (.slice (some ⟨g3, 0, none⟩) L L) 140 (.int .u32) (qs))] _
    refine SC.seq ?_
    by_cases hj : (j : Int) < (vs.length : Int)
    ·refine SC.region ?_
     refine PW.q2 (x := .tmp 117) (y := .tmp 116) (.bool true) rfl rfl rfl rfl rfl (fun ρ W h1 h2 => by exact r_lt h1 h2 (decide_eq_true hj)) ?_
     refine PW.nil (SX.then (SC.seq (SC.cond (t := true) rfl (SC.skip (SX.then (SC.seq (SC.block (SC.seq ?_))))))))
     have hu1 := fun m => dg_at hM.2.1 BB_pos m
     have hb := hM.bound dv hF.d0 hF.lt
     have hl1 := hM.1
     refine SC.region (PW.move rfl rfl rfl rfl rfl ?_)
     refine PW.q2 (x := .tmp 115) (y := .tmp 117) (.pointer (some ⟨g2, j, none⟩)) rfl rfl rfl rfl rfl (fun ρ W h1 h2 => r_idx h1 h2 (by omega)) ?_
     refine PW.rload (K := 245) (i := j) rfl rfl rfl rfl rfl rfl (by omega) r_l32 ?_
     refine PW.assign rfl rfl rfl rfl rfl (PW.assign rfl rfl rfl rfl rfl (PW.nil (SX.then (SC.seq (SC.region (PW.move rfl rfl rfl rfl rfl (PW.move rfl rfl rfl rfl rfl ?_)))))))
     refine PW.q1 (x := .tmp 123) (.int .u64 (at0 vs j)) rfl rfl rfl rfl (fun ρ W h1 => by exact r_64 h1 (hv _)) ?_
     refine PW.q2 (x := .tmp 122) (y := .tmp 124) (.int .u64 (G * at0 vs j)) rfl rfl rfl rfl rfl (fun ρ W h1 h2 => by exact r_mul6 h1 h2 rfl (mulb ⟨hF.d0, hF.lt⟩ (hv _))) ?_
     refine PW.move rfl rfl rfl rfl rfl ?_
     refine PW.q2 (x := .tmp 125) (y := .tmp 126) (.int .u64 (G * at0 vs j + cc)) rfl rfl rfl rfl rfl (fun ρ W h1 h2 => by exact r_add6 h1 h2 rfl ⟨hb.1, hb.2.1⟩) ?_
     refine PW.assign rfl rfl rfl rfl rfl (PW.nil (SX.then (SC.seq (SC.region (PW.move rfl rfl rfl rfl rfl ?_)))))
     refine PW.q2 (x := .tmp 128) (y := .const (.int .u64 32)) (.int .u64 ((G * at0 vs j + cc) / 4294967296)) rfl rfl rfl rfl rfl (fun ρ W h1 h2 => by exact r_dn32 h1 h2) ?_
     refine PW.assign rfl rfl rfl rfl rfl (PW.nil (SX.then (SC.seq (SC.region (PW.move rfl rfl rfl rfl rfl (PW.move rfl rfl rfl rfl rfl (PW.move rfl rfl rfl rfl rfl ?_)))))))
     refine PW.q2 (x := .tmp 131) (y := .tmp 132) (.int .i64 (((i + j : Nat) : Int))) rfl rfl rfl rfl rfl (fun ρ W h1 h2 => by exact r_add h1 h2 (by omega) (by omega)) ?_
     refine PW.q2 (x := .tmp 130) (y := .tmp 133) (.pointer (some ⟨g1, i + j, none⟩)) rfl rfl rfl rfl rfl (fun ρ W h1 h2 => r_idx h1 h2 (by omega)) ?_
     refine PW.rload (K := 244) (i := i + j) rfl rfl rfl rfl rfl rfl (by omega) r_l32 ?_
     refine PW.q1 (x := .tmp 135) (.int .u64 (at0 u1 (i + j))) rfl rfl rfl rfl (fun ρ W h1 => by exact r_64 h1 (hu1 _)) ?_
     refine PW.move rfl rfl rfl rfl rfl ?_
     refine PW.q1 (x := .tmp 137) (.int .u32 ((G * at0 vs j + cc) % 4294967296)) rfl rfl rfl rfl (fun ρ W h1 => by exact r_32 h1) ?_
     refine PW.q1 (x := .tmp 138) (.int .u64 ((G * at0 vs j + cc) % 4294967296)) rfl rfl rfl rfl (fun ρ W h1 => by exact r_64 h1 (by omega)) ?_
     refine PW.q2 (x := .tmp 136) (y := .tmp 139) (.int .u64 ((at0 u1 (i + j) - (G * at0 vs j + cc) % 4294967296) % 18446744073709551616)) rfl rfl rfl rfl rfl (fun ρ W h1 h2 => by exact r_subw h1 h2) ?_
     refine PW.move rfl rfl rfl rfl rfl ?_
     refine PW.q2 (x := .tmp 140) (y := .tmp 141) (.int .u64 ((at0 u1 (i + j) - (G * at0 vs j + cc) % 4294967296 - bb) % 18446744073709551616)) rfl rfl rfl rfl rfl (fun ρ W h1 h2 => by exact r_subz h1 h2 (by omega)) ?_
     refine PW.assign rfl rfl rfl rfl rfl (PW.nil (SX.then (SC.region (PW.move rfl rfl rfl rfl rfl (PW.move rfl rfl rfl rfl rfl (PW.move rfl rfl rfl rfl rfl ?_))))))
     refine PW.q2 (x := .tmp 144) (y := .tmp 145) (.int .i64 (((i + j : Nat) : Int))) rfl rfl rfl rfl rfl (fun ρ W h1 h2 => by exact r_add h1 h2 (by omega) (by omega)) ?_
     refine PW.move rfl rfl rfl rfl rfl ?_
     refine PW.q1 (x := .tmp 147) (.int .u32 ((at0 u1 (i + j) - (G * at0 vs j + cc) % 4294967296 - bb) % 18446744073709551616 % 4294967296)) rfl rfl rfl rfl (fun ρ W h1 => by exact r_32 h1) ?_
     refine PW.move rfl rfl rfl rfl rfl ?_
     refine PW.q2 (x := .tmp 149) (y := .const (.int .u64 63)) (.int .u64 ((at0 u1 (i + j) - (G * at0 vs j + cc) % 4294967296 - bb) % 18446744073709551616 / 9223372036854775808)) rfl rfl rfl rfl rfl (fun ρ W h1 h2 => by exact r_dn63 h1 h2) ?_
     refine PW.q2 (x := .tmp 143) (y := .tmp 146) (.pointer (some ⟨g1, i + j, none⟩)) rfl rfl rfl rfl rfl (fun ρ W h1 h2 => r_idx h1 h2 (by omega)) ?_
     refine PW.rstore (K := 244) (x := .tmp 148) (i := i + j) (y := ((at0 u1 (i + j) - (G * at0 vs j + cc) % 4294967296 - bb) % 18446744073709551616 % 4294967296)) rfl rfl rfl rfl rfl (by omega) rfl rfl r_s32 ?_
     refine PW.assign rfl rfl rfl rfl rfl (PW.nil ?_)
     refine SX.blockN ?_
     refine SX.then (SC.region ?_)
     refine PW.q2 (x := .tmp 117) (y := .const (.int .i64 1)) (.int .i64 (((j + 1 : Nat) : Int))) rfl rfl rfl rfl rfl (fun ρ W h1 h2 => by exact r_add h1 h2 (by omega) (by omega)) ?_
     refine PW.move rfl rfl rfl rfl rfl (PW.nil ?_)
     refine SX.back (j + 1, u1.set (i + j) ((at0 u1 (i + j) - (G * at0 vs j + cc) % 4294967296 - bb) % 18446744073709551616 % 4294967296), ((G * at0 vs j + cc) / 4294967296), ((at0 u1 (i + j) - (G * at0 vs j + cc) % 4294967296 - bb) % 18446744073709551616 / 9223372036854775808)) ?_ ?_ ?_
     ·exact (hM.step dv hF.d0 hF.lt (by omega) hil)
     ·exact (show vs.length - (j + 1) < vs.length - j by omega)
     ·exact ⟨rfl, rfl, rfl, rfl, rfl, rfl, rfl, rfl, rfl, rfl, rfl, rfl, rfl, rfl, rfl, rfl, trivial⟩
    ·obtain rfl : j = vs.length := by have := hM.2.2.2.2.2.2.2.2; omega
     refine SC.region ?_
     refine PW.q2 (x := .tmp 117) (y := .tmp 116) (.bool false) rfl rfl rfl rfl rfl (fun ρ W h1 h2 => by exact r_lt h1 h2 (decide_eq_false hj)) ?_
     refine PW.nil (SX.then (SC.seq (SC.cond (t := false) rfl (SC.exit (SX.thenE (SX.thenE (SX.blockE (SX.then (SC.seq ?_)))))))))
     refine SC.keep [(4, .vl (.slice (some ⟨g3, 0, none⟩) L L)), (6, .vl (.int .u64 (s : Int))), (7, .vl (.slice (some ⟨g1, 0, none⟩) U0.length c1)), (8, .vl (.slice (some ⟨g2, 0, none⟩) vs.length c2)), (9, .vl (.int .i64 (vs.length : Int))), (10, .vl (.int .u64 (at0 vs (vs.length - 1)))), (11, .vl (.int .i64 (i : Int))), (13, .vl (.int .u64 (G))), (15, .vl (.int .u64 (cc))), (16, .vl (.int .u64 (bb))), (244, .ro (.slice (some ⟨g1, 0, none⟩) U0.length c1) 140 (.int .u32) (u1)), (245, .ro (.slice (some ⟨g2, 0, none⟩) vs.length c2) 140 (.int .u32) (vs)), (246, .ro (.slice (some ⟨g3, 0, none⟩) L L) 140 (.int .u32) (qs))] ⟨rfl, rfl, rfl, rfl, rfl, rfl, rfl, rfl, rfl, rfl, rfl, rfl, rfl, trivial⟩ ?_
     have hu1 := fun m => dg_at hM.2.1 BB_pos m
     have hl1 := hM.1
     refine SC.region (PW.move rfl rfl rfl rfl rfl (PW.move rfl rfl rfl rfl rfl (PW.move rfl rfl rfl rfl rfl ?_)))
     refine PW.q2 (x := .tmp 154) (y := .tmp 155) (.int .i64 (((i + vs.length : Nat) : Int))) rfl rfl rfl rfl rfl (fun ρ W h1 h2 => by exact r_add h1 h2 (by omega) (by omega)) ?_
     refine PW.q2 (x := .tmp 153) (y := .tmp 156) (.pointer (some ⟨g1, i + vs.length, none⟩)) rfl rfl rfl rfl rfl (fun ρ W h1 h2 => r_idx h1 h2 (by omega)) ?_
     refine PW.rload (K := 244) (i := i + vs.length) rfl rfl rfl rfl rfl rfl (by omega) r_l32 ?_
     refine PW.q1 (x := .tmp 158) (.int .u64 (at0 u1 (i + vs.length))) rfl rfl rfl rfl (fun ρ W h1 => by exact r_64 h1 (hu1 _)) ?_
     refine PW.move rfl rfl rfl rfl rfl ?_
     refine PW.q2 (x := .tmp 159) (y := .tmp 160) (.int .u64 ((at0 u1 (i + vs.length) - cc) % 18446744073709551616)) rfl rfl rfl rfl rfl (fun ρ W h1 h2 => by exact r_subw h1 h2) ?_
     refine PW.move rfl rfl rfl rfl rfl ?_
     refine PW.q2 (x := .tmp 161) (y := .tmp 162) (.int .u64 ((at0 u1 (i + vs.length) - cc - bb) % 18446744073709551616)) rfl rfl rfl rfl rfl (fun ρ W h1 h2 => by exact r_subz h1 h2 (by omega)) ?_
     refine PW.assign rfl rfl rfl rfl rfl (PW.nil (SX.then (SC.seq (SC.region (PW.move rfl rfl rfl rfl rfl (PW.move rfl rfl rfl rfl rfl (PW.move rfl rfl rfl rfl rfl ?_)))))))
     refine PW.q2 (x := .tmp 165) (y := .tmp 166) (.int .i64 (((i + vs.length : Nat) : Int))) rfl rfl rfl rfl rfl (fun ρ W h1 h2 => by exact r_add h1 h2 (by omega) (by omega)) ?_
     refine PW.move rfl rfl rfl rfl rfl ?_
     refine PW.q1 (x := .tmp 168) (.int .u32 ((at0 u1 (i + vs.length) - cc - bb) % 18446744073709551616 % 4294967296)) rfl rfl rfl rfl (fun ρ W h1 => by exact r_32 h1) ?_
     refine PW.q2 (x := .tmp 164) (y := .tmp 167) (.pointer (some ⟨g1, i + vs.length, none⟩)) rfl rfl rfl rfl rfl (fun ρ W h1 h2 => r_idx h1 h2 (by omega)) ?_
     refine PW.rstore (K := 244) (x := .tmp 169) (i := i + vs.length) (y := ((at0 u1 (i + vs.length) - cc - bb) % 18446744073709551616 % 4294967296)) rfl rfl rfl rfl rfl (by omega) rfl rfl r_s32 ?_
     refine PW.nil (SX.then (SC.seq (SC.seq ?_)))
     refine SC.keep [(4, .vl (.slice (some ⟨g3, 0, none⟩) L L)), (6, .vl (.int .u64 (s : Int))), (7, .vl (.slice (some ⟨g1, 0, none⟩) U0.length c1)), (8, .vl (.slice (some ⟨g2, 0, none⟩) vs.length c2)), (9, .vl (.int .i64 (vs.length : Int))), (10, .vl (.int .u64 (at0 vs (vs.length - 1)))), (11, .vl (.int .i64 (i : Int))), (13, .vl (.int .u64 (G))), (21, .vl (.int .u64 ((at0 u1 (i + vs.length) - cc - bb) % 18446744073709551616))), (244, .ro (.slice (some ⟨g1, 0, none⟩) U0.length c1) 140 (.int .u32) (u1.set (i + vs.length) ((at0 u1 (i + vs.length) - cc - bb) % 18446744073709551616 % 4294967296))), (245, .ro (.slice (some ⟨g2, 0, none⟩) vs.length c2) 140 (.int .u32) (vs)), (246, .ro (.slice (some ⟨g3, 0, none⟩) L L) 140 (.int .u32) (qs))] ⟨rfl, rfl, rfl, rfl, rfl, rfl, rfl, rfl, rfl, rfl, rfl, rfl, trivial⟩ ?_
     obtain ⟨l2, d2, v2, z2, g2e⟩ := hM.fin hil rfl rfl
     generalize u1.set (i + vs.length) ((at0 u1 (i + vs.length) - cc - bb) % 18446744073709551616 % 4294967296) = u2 at l2 d2 v2 z2 ⊢
     by_cases hg1 : (at0 u1 (i + vs.length) - cc - bb) % 18446744073709551616 / 9223372036854775808 = 1
     ·refine SC.region ?_
      refine PW.move rfl rfl rfl rfl rfl ?_
      refine PW.q2 (x := .tmp 171) (y := .const (.int .u64 63)) (.int .u64 ((at0 u1 (i + vs.length) - cc - bb) % 18446744073709551616 / 9223372036854775808)) rfl rfl rfl rfl rfl (fun ρ W h1 h2 => by exact r_dn63 h1 h2) ?_
      refine PW.q2 (x := .tmp 172) (y := .const (.int .u64 1)) (.bool true) rfl rfl rfl rfl rfl (fun ρ W h1 h2 => by exact r_eq6 h1 h2 (decide_eq_true hg1)) ?_
      refine PW.nil (SX.then (SC.cond (t := true) rfl (SC.seq (SC.region (PW.move rfl rfl rfl rfl rfl ?_)))))
      refine PW.q2 (x := .tmp 174) (y := .const (.int .u64 1)) (.int .u64 ((G - 1) % 18446744073709551616)) rfl rfl rfl rfl rfl (fun ρ W h1 h2 => by exact r_subw h1 h2) ?_
      refine PW.assign rfl rfl rfl rfl rfl (PW.nil (SX.then (SC.seq (SC.region (PW.assign rfl rfl rfl rfl rfl (PW.nil (SX.then (SC.seq (SC.seq (SC.region (PW.move rfl rfl rfl rfl rfl ?_)))))))))))
      refine PW.qn [(.tmp 176, .slice (some ⟨g2, 0, none⟩) vs.length c2)] (.int .i64 (vs.length : Int)) rfl rfl rfl ⟨rfl, trivial⟩ (fun ρ W h => by obtain ⟨h1, _⟩ := h; exact r_len h1) ?_
      refine PW.move rfl rfl rfl rfl rfl (PW.nil (SX.then (SC.block ?_)))
      refine SC.loop (S := Nat × List Int × Int) (fun ⟨k, u3, c⟩ => [(4, .vl (.slice (some ⟨g3, 0, none⟩) L L)), (6, .vl (.int .u64 (s : Int))), (7, .vl (.slice (some ⟨g1, 0, none⟩) U0.length c1)), (8, .vl (.slice (some ⟨g2, 0, none⟩) vs.length c2)), (9, .vl (.int .i64 (vs.length : Int))), (10, .vl (.int .u64 (at0 vs (vs.length - 1)))), (11, .vl (.int .i64 (i : Int))), (13, .vl (.int .u64 ((G - 1) % 18446744073709551616))), (22, .vl (.int .u32 (c))), (176, .vl (.slice (some ⟨g2, 0, none⟩) vs.length c2)), (177, .vl (.int .i64 (vs.length : Int))), (178, .vl (.int .i64 (k : Int))), (244, .ro (.slice (some ⟨g1, 0, none⟩) U0.length c1) 140 (.int .u32) (u3)), (245, .ro (.slice (some ⟨g2, 0, none⟩) vs.length c2) 140 (.int .u32) (vs)), (246, .ro (.slice (some ⟨g3, 0, none⟩) L L) 140 (.int .u32) (qs))]) (fun ⟨k, u3, c⟩ => AB u2 vs i k u3 c) (fun ⟨k, u3, c⟩ => vs.length - k) (0, u2, 0) (AB.start d2) ⟨rfl, rfl, rfl, rfl, rfl, rfl, rfl, rfl, rfl, rfl, rfl, rfl, rfl, rfl, rfl, trivial⟩ ?_
      rintro ⟨k, u3, c⟩ hA
      show SC _ _ _ _ [(4, .vl (.slice (some ⟨g3, 0, none⟩) L L)), (6, .vl (.int .u64 (s : Int))), (7, .vl (.slice (some ⟨g1, 0, none⟩) U0.length c1)), (8, .vl (.slice (some ⟨g2, 0, none⟩) vs.length c2)), (9, .vl (.int .i64 (vs.length : Int))), (10, .vl (.int .u64 (at0 vs (vs.length - 1)))), (11, .vl (.int .i64 (i : Int))), (13, .vl (.int .u64 ((G - 1) % 18446744073709551616))), (22, .vl (.int .u32 (c))), (176, .vl (.slice (some ⟨g2, 0, none⟩) vs.length c2)), (177, .vl (.int .i64 (vs.length : Int))), (178, .vl (.int .i64 (k : Int))), (244, .ro (.slice (some ⟨g1, 0, none⟩) U0.length c1) 140 (.int .u32) (u3)), (245, .ro (.slice (some ⟨g2, 0, none⟩) vs.length c2) 140 (.int .u32) (vs)), (246, .ro (.slice (some ⟨g3, 0, none⟩) L L) 140 (.int .u32) (qs))] _
      refine SC.seq ?_
      by_cases hk : (k : Int) < (vs.length : Int)
      ·refine SC.region ?_
       refine PW.q2 (x := .tmp 178) (y := .tmp 177) (.bool true) rfl rfl rfl rfl rfl (fun ρ W h1 h2 => by exact r_lt h1 h2 (decide_eq_true hk)) ?_
       refine PW.nil (SX.then (SC.seq (SC.cond (t := true) rfl (SC.skip (SX.then (SC.seq (SC.block (SC.seq ?_))))))))
       have hu3 := fun m => dg_at hA.2.1 BB_pos m
       have hl3 := hA.1
       refine SC.region (PW.move rfl rfl rfl rfl rfl ?_)
       refine PW.q2 (x := .tmp 176) (y := .tmp 178) (.pointer (some ⟨g2, k, none⟩)) rfl rfl rfl rfl rfl (fun ρ W h1 h2 => r_idx h1 h2 (by omega)) ?_
       refine PW.rload (K := 245) (i := k) rfl rfl rfl rfl rfl rfl (by omega) r_l32 ?_
       refine PW.assign rfl rfl rfl rfl rfl (PW.assign rfl rfl rfl rfl rfl (PW.nil (SX.then (SC.region (PW.move rfl rfl rfl rfl rfl (PW.move rfl rfl rfl rfl rfl (PW.move rfl rfl rfl rfl rfl ?_)))))))
       refine PW.q2 (x := .tmp 185) (y := .tmp 186) (.int .i64 (((i + k : Nat) : Int))) rfl rfl rfl rfl rfl (fun ρ W h1 h2 => by exact r_add h1 h2 (by omega) (by omega)) ?_
       refine PW.move rfl rfl rfl rfl rfl (PW.move rfl rfl rfl rfl rfl (PW.move rfl rfl rfl rfl rfl ?_))
       refine PW.q2 (x := .tmp 189) (y := .tmp 190) (.int .i64 (((i + k : Nat) : Int))) rfl rfl rfl rfl rfl (fun ρ W h1 h2 => by exact r_add h1 h2 (by omega) (by omega)) ?_
       refine PW.q2 (x := .tmp 188) (y := .tmp 191) (.pointer (some ⟨g1, i + k, none⟩)) rfl rfl rfl rfl rfl (fun ρ W h1 h2 => r_idx h1 h2 (by omega)) ?_
       refine PW.rload (K := 244) (i := i + k) rfl rfl rfl rfl rfl rfl (by omega) r_l32 ?_
       refine PW.move rfl rfl rfl rfl rfl (PW.move rfl rfl rfl rfl rfl ?_)
       refine PW.call (r := .vl (.tuple #[.int .u32 ((at0 u3 (i + k) + at0 vs k + c) % 4294967296), .int .u32 ((at0 u3 (i + k) + at0 vs k + c) / 4294967296)])) rfl rfl rfl rfl rfl rfl (KV.st _) rfl (k_add32 (hu3 _) (hv _) ⟨hA.2.2.2.2.1, hA.2.2.2.2.2.1⟩) ?_
       refine PW.move rfl rfl rfl rfl rfl ?_
       refine PW.q1 (x := .tmp 183) (.int .u32 ((at0 u3 (i + k) + at0 vs k + c) % 4294967296)) rfl rfl rfl rfl (fun ρ W h1 => by go_simp) ?_
       refine PW.q1 (x := .tmp 183) (.int .u32 ((at0 u3 (i + k) + at0 vs k + c) / 4294967296)) rfl rfl rfl rfl (fun ρ W h1 => by go_simp) ?_
       refine PW.q2 (x := .tmp 184) (y := .tmp 187) (.pointer (some ⟨g1, i + k, none⟩)) rfl rfl rfl rfl rfl (fun ρ W h1 h2 => r_idx h1 h2 (by omega)) ?_
       refine PW.rstore (K := 244) (x := .tmp 197) (i := i + k) (y := ((at0 u3 (i + k) + at0 vs k + c) % 4294967296)) rfl rfl rfl rfl rfl (by omega) rfl rfl r_s32 ?_
       refine PW.assign rfl rfl rfl rfl rfl (PW.nil ?_)
       refine SX.blockN ?_
       refine SX.then (SC.region ?_)
       refine PW.q2 (x := .tmp 178) (y := .const (.int .i64 1)) (.int .i64 (((k + 1 : Nat) : Int))) rfl rfl rfl rfl rfl (fun ρ W h1 h2 => by exact r_add h1 h2 (by omega) (by omega)) ?_
       refine PW.move rfl rfl rfl rfl rfl (PW.nil ?_)
       refine SX.back (k + 1, u3.set (i + k) ((at0 u3 (i + k) + at0 vs k + c) % 4294967296), ((at0 u3 (i + k) + at0 vs k + c) / 4294967296)) ?_ ?_ ?_
       ·exact (hA.step dv (by omega) (by omega))
       ·exact (show vs.length - (k + 1) < vs.length - k by omega)
       ·exact ⟨rfl, rfl, rfl, rfl, rfl, rfl, rfl, rfl, rfl, rfl, rfl, rfl, rfl, rfl, rfl, trivial⟩
      ·obtain rfl : k = vs.length := by have := hA.2.2.2.2.2.2; omega
       refine SC.region ?_
       refine PW.q2 (x := .tmp 178) (y := .tmp 177) (.bool false) rfl rfl rfl rfl rfl (fun ρ W h1 h2 => by exact r_lt h1 h2 (decide_eq_false hk)) ?_
       refine PW.nil (SX.then (SC.seq (SC.cond (t := false) rfl (SC.exit (SX.thenE (SX.thenE (SX.blockE (SX.then ?_))))))))
       have hu3 := fun m => dg_at hA.2.1 BB_pos m
       have hl3 := hA.1
       refine SC.region (PW.move rfl rfl rfl rfl rfl (PW.move rfl rfl rfl rfl rfl (PW.move rfl rfl rfl rfl rfl ?_)))
       refine PW.q2 (x := .tmp 202) (y := .tmp 203) (.int .i64 (((i + vs.length : Nat) : Int))) rfl rfl rfl rfl rfl (fun ρ W h1 h2 => by exact r_add h1 h2 (by omega) (by omega)) ?_
       refine PW.q2 (x := .tmp 201) (y := .tmp 204) (.pointer (some ⟨g1, i + vs.length, none⟩)) rfl rfl rfl rfl rfl (fun ρ W h1 h2 => r_idx h1 h2 (by omega)) ?_
       refine PW.rload (K := 244) (i := i + vs.length) rfl rfl rfl rfl rfl rfl (by omega) r_l32 ?_
       refine PW.move rfl rfl rfl rfl rfl ?_
       refine PW.q2 (x := .tmp 206) (y := .tmp 207) (.int .u32 ((at0 u3 (i + vs.length) + c) % 4294967296)) rfl rfl rfl rfl rfl (fun ρ W h1 h2 => by exact r_addw h1 h2) ?_
       refine PW.q2 (x := .tmp 201) (y := .tmp 204) (.pointer (some ⟨g1, i + vs.length, none⟩)) rfl rfl rfl rfl rfl (fun ρ W h1 h2 => r_idx h1 h2 (by omega)) ?_
       refine PW.rstore (K := 244) (x := .tmp 208) (i := i + vs.length) (y := ((at0 u3 (i + vs.length) + c) % 4294967296)) rfl rfl rfl rfl rfl (by omega) rfl rfl r_s32 ?_
       refine PW.nil (SX.then ?_)
       refine SC.keep [(4, .vl (.slice (some ⟨g3, 0, none⟩) L L)), (6, .vl (.int .u64 (s : Int))), (7, .vl (.slice (some ⟨g1, 0, none⟩) U0.length c1)), (8, .vl (.slice (some ⟨g2, 0, none⟩) vs.length c2)), (9, .vl (.int .i64 (vs.length : Int))), (10, .vl (.int .u64 (at0 vs (vs.length - 1)))), (11, .vl (.int .i64 (i : Int))), (13, .vl (.int .u64 ((G - 1) % 18446744073709551616))), (244, .ro (.slice (some ⟨g1, 0, none⟩) U0.length c1) 140 (.int .u32) (u3.set (i + vs.length) ((at0 u3 (i + vs.length) + c) % 4294967296))), (245, .ro (.slice (some ⟨g2, 0, none⟩) vs.length c2) 140 (.int .u32) (vs)), (246, .ro (.slice (some ⟨g3, 0, none⟩) L L) 140 (.int .u32) (qs))] ⟨rfl, rfl, rfl, rfl, rfl, rfl, rfl, rfl, rfl, rfl, rfl, trivial⟩ ?_
       obtain ⟨l3, d3, ⟨c2e, hc2, v3⟩, z3⟩ := hA.fin (by omega) rfl
       obtain ⟨lf3, e3⟩ := round_neg hR.lf dv d2 d3 hF.lo v2 hg1 z2 z3 v3 hc2
       have hG1 := down_pos hR.lf.1 lf3 e3 hF.d0
       have hG2 := hF.lt
       refine SC.region (PW.move rfl rfl rfl rfl rfl (PW.move rfl rfl rfl rfl rfl (PW.move rfl rfl rfl rfl rfl ?_)))
       refine PW.q1 (x := .tmp 212) (.int .u32 (G - 1)) rfl rfl rfl rfl (fun ρ W h1 => by exact r_32z h1 (by have := hF.lt; omega)) ?_
       refine PW.q2 (x := .tmp 210) (y := .tmp 211) (.pointer (some ⟨g3, i, none⟩)) rfl rfl rfl rfl rfl (fun ρ W h1 h2 => r_idx h1 h2 (by omega)) ?_
       refine PW.rstore (K := 246) (x := .tmp 213) (i := i) (y := (G - 1)) rfl rfl rfl rfl rfl (by omega) rfl rfl r_s32 ?_
       refine PW.nil ?_
       refine SX.blockN ?_
       refine SX.then (SC.region (PW.move rfl rfl rfl rfl rfl ?_))
       refine PW.q2 (x := .tmp 59) (y := .const (.int .i64 1)) (.int .i64 ((i : Int) - 1)) rfl rfl rfl rfl rfl (fun ρ W h1 h2 => by exact r_sub h1 h2 (by omega) (by omega)) ?_
       refine PW.assign rfl rfl rfl rfl rfl (PW.nil ?_)
       refine SX.back (i, u3.set (i + vs.length) ((at0 u3 (i + vs.length) + c) % 4294967296), qs.set i (G - 1)) ?_ ?_ ?_
       ·exact (hR.step (by omega) lf3 e3 (by omega) (by omega))
       ·exact (Nat.lt_succ_self i)
       ·exact ⟨rfl, rfl, rfl, rfl, rfl, rfl, rfl, rfl, rfl, rfl, trivial⟩
     ·refine SC.region ?_
      refine PW.move rfl rfl rfl rfl rfl ?_
      refine PW.q2 (x := .tmp 171) (y := .const (.int .u64 63)) (.int .u64 ((at0 u1 (i + vs.length) - cc - bb) % 18446744073709551616 / 9223372036854775808)) rfl rfl rfl rfl rfl (fun ρ W h1 h2 => by exact r_dn63 h1 h2) ?_
      refine PW.q2 (x := .tmp 172) (y := .const (.int .u64 1)) (.bool false) rfl rfl rfl rfl rfl (fun ρ W h1 h2 => by exact r_eq6 h1 h2 (decide_eq_false hg1)) ?_
      refine PW.nil (SX.then (SC.cond (t := false) rfl (SC.skip (SX.then ?_))))
      refine SC.keep [(4, .vl (.slice (some ⟨g3, 0, none⟩) L L)), (6, .vl (.int .u64 (s : Int))), (7, .vl (.slice (some ⟨g1, 0, none⟩) U0.length c1)), (8, .vl (.slice (some ⟨g2, 0, none⟩) vs.length c2)), (9, .vl (.int .i64 (vs.length : Int))), (10, .vl (.int .u64 (at0 vs (vs.length - 1)))), (11, .vl (.int .i64 (i : Int))), (13, .vl (.int .u64 (G))), (244, .ro (.slice (some ⟨g1, 0, none⟩) U0.length c1) 140 (.int .u32) (u2)), (245, .ro (.slice (some ⟨g2, 0, none⟩) vs.length c2) 140 (.int .u32) (vs)), (246, .ro (.slice (some ⟨g3, 0, none⟩) L L) 140 (.int .u32) (qs))] ⟨rfl, rfl, rfl, rfl, rfl, rfl, rfl, rfl, rfl, rfl, rfl, trivial⟩ ?_
      obtain ⟨lf3, e3⟩ := round_pos hR.lf d2 hF.up v2 (by omega)
      refine SC.region (PW.move rfl rfl rfl rfl rfl (PW.move rfl rfl rfl rfl rfl (PW.move rfl rfl rfl rfl rfl ?_)))
      refine PW.q1 (x := .tmp 212) (.int .u32 (G)) rfl rfl rfl rfl (fun ρ W h1 => by exact r_32z h1 (by have := hF.lt; have := hF.d0; omega)) ?_
      refine PW.q2 (x := .tmp 210) (y := .tmp 211) (.pointer (some ⟨g3, i, none⟩)) rfl rfl rfl rfl rfl (fun ρ W h1 h2 => r_idx h1 h2 (by omega)) ?_
      refine PW.rstore (K := 246) (x := .tmp 213) (i := i) (y := (G)) rfl rfl rfl rfl rfl (by omega) rfl rfl r_s32 ?_
      refine PW.nil ?_
      refine SX.blockN ?_
      refine SX.then (SC.region (PW.move rfl rfl rfl rfl rfl ?_))
      refine PW.q2 (x := .tmp 59) (y := .const (.int .i64 1)) (.int .i64 ((i : Int) - 1)) rfl rfl rfl rfl rfl (fun ρ W h1 h2 => by exact r_sub h1 h2 (by omega) (by omega)) ?_
      refine PW.assign rfl rfl rfl rfl rfl (PW.nil ?_)
      refine SX.back (i, u2, qs.set i (G)) ?_ ?_ ?_
      ·exact (hR.step (by omega) lf3 e3 hF.d0 hF.lt)
      ·exact (Nat.lt_succ_self i)
      ·exact ⟨rfl, rfl, rfl, rfl, rfl, rfl, rfl, rfl, rfl, rfl, trivial⟩
 ·obtain rfl : t = 0 := by omega
  refine SC.region (PW.move rfl rfl rfl rfl rfl ?_)
  refine PW.q2 (x := .tmp 57) (y := .const (.int .i64 0)) (.bool false) rfl rfl rfl rfl rfl (fun ρ W h1 h2 => by exact r_ge h1 h2 (decide_eq_false ht)) ?_
  refine PW.nil (SX.then (SC.cond (t := false) rfl (SC.exit (SX.thenE (SX.thenE (SX.blockE (SX.then (SC.seq ?_))))))))
  refine SC.keep [(4, .vl (.slice (some ⟨g3, 0, none⟩) L L)), (6, .vl (.int .u64 (s : Int))), (7, .vl (.slice (some ⟨g1, 0, none⟩) U0.length c1)), (8, .vl (.slice (some ⟨g2, 0, none⟩) vs.length c2)), (9, .vl (.int .i64 (vs.length : Int))), (10, .vl (.int .u64 (at0 vs (vs.length - 1)))), (244, .ro (.slice (some ⟨g1, 0, none⟩) U0.length c1) 140 (.int .u32) (us)), (245, .ro (.slice (some ⟨g2, 0, none⟩) vs.length c2) 140 (.int .u32) (vs)), (246, .ro (.slice (some ⟨g3, 0, none⟩) L L) 140 (.int .u32) (qs))] ⟨rfl, rfl, rfl, rfl, rfl, rfl, rfl, rfl, rfl, trivial⟩ ?_
  have hu := fun m => dg_at hR.lf.1 BB_pos m
  have hul := hR.ul
  refine SC.region (PW.move rfl rfl rfl rfl rfl ?_)
  refine PW.make (n := vs.length) 247 rfl rfl rfl rfl rfl Tryz.underlying22 info_u32 (by omega) (by unfold maxLen; omega) fun g4 => ?_
  refine PW.assign rfl rfl rfl rfl rfl (PW.nil (SX.then (SC.seq (SC.seq (SC.region (PW.move rfl rfl rfl rfl rfl ?_))))))
  refine PW.qn [(.tmp 217, .slice (some ⟨g4, 0, none⟩) vs.length vs.length)] (.int .i64 (vs.length : Int)) rfl rfl rfl ⟨rfl, trivial⟩ (fun ρ W h => by obtain ⟨h1, _⟩ := h; exact r_len h1) ?_
  refine PW.move rfl rfl rfl rfl rfl (PW.nil (SX.then (SC.block ?_)))
  refine SC.loop (S := Nat × List Int) (fun ⟨m, rs⟩ => [(4, .vl (.slice (some ⟨g3, 0, none⟩) L L)), (5, .vl (.slice (some ⟨g4, 0, none⟩) vs.length vs.length)), (6, .vl (.int .u64 (s : Int))), (7, .vl (.slice (some ⟨g1, 0, none⟩) U0.length c1)), (217, .vl (.slice (some ⟨g4, 0, none⟩) vs.length vs.length)), (218, .vl (.int .i64 (vs.length : Int))), (219, .vl (.int .i64 (m : Int))), (244, .ro (.slice (some ⟨g1, 0, none⟩) U0.length c1) 140 (.int .u32) (us)), (246, .ro (.slice (some ⟨g3, 0, none⟩) L L) 140 (.int .u32) (qs)), (247, .ro (.slice (some ⟨g4, 0, none⟩) vs.length vs.length) 140 (.int .u32) (rs))]) (fun ⟨m, rs⟩ => Rm us vs.length s m rs) (fun ⟨m, rs⟩ => vs.length - m) (0, List.replicate vs.length 0) (Rm.start us vs.length s) ⟨rfl, rfl, rfl, rfl, rfl, rfl, rfl, rfl, rfl, rfl, trivial⟩ ?_
  rintro ⟨m, rs⟩ hQ
  show SC _ _ _ _ [(4, .vl (.slice (some ⟨g3, 0, none⟩) L L)), (5, .vl (.slice (some ⟨g4, 0, none⟩) vs.length vs.length)), (6, .vl (.int .u64 (s : Int))), (7, .vl (.slice (some ⟨g1, 0, none⟩) U0.length c1)), (217, .vl (.slice (some ⟨g4, 0, none⟩) vs.length vs.length)), (218, .vl (.int .i64 (vs.length : Int))), (219, .vl (.int .i64 (m : Int))), (244, .ro (.slice (some ⟨g1, 0, none⟩) U0.length c1) 140 (.int .u32) (us)), (246, .ro (.slice (some ⟨g3, 0, none⟩) L L) 140 (.int .u32) (qs)), (247, .ro (.slice (some ⟨g4, 0, none⟩) vs.length vs.length) 140 (.int .u32) (rs))] _
  refine SC.seq ?_
  by_cases hm : (m : Int) < (vs.length : Int)
  ·refine SC.region ?_
   refine PW.q2 (x := .tmp 219) (y := .tmp 218) (.bool true) rfl rfl rfl rfl rfl (fun ρ W h1 h2 => by exact r_lt h1 h2 (decide_eq_true hm)) ?_
   refine PW.nil (SX.then (SC.seq (SC.cond (t := true) rfl (SC.skip (SX.then (SC.seq (SC.block (SC.seq ?_))))))))
   have hrl := hQ.len
   refine SC.region (PW.move rfl rfl rfl rfl rfl (PW.assign rfl rfl rfl rfl rfl (PW.nil (SX.then ?_))))
   refine SC.dx [.val 222 (.vl (.slice (some ⟨g4, 0, none⟩) vs.length vs.length)), .val 223 (.vl (.int .i64 (m : Int))), .val 224 (.vl (.slice (some ⟨g1, 0, none⟩) U0.length c1)), .val 225 (.vl (.int .i64 (m : Int))), .val 226 (.vl (.int .i64 (((m + 1 : Nat) : Int)))), .val 227 (.vl (.pointer (some ⟨g1, m + 1, none⟩))), .val 228 (.vl (.int .u32 (at0 us (m + 1)))), .val 229 (.vl (.int .u64 (at0 us (m + 1)))), .val 230 (.vl (.int .u64 (at0 us (m + 1) * 4294967296))), .val 231 (.vl (.slice (some ⟨g1, 0, none⟩) U0.length c1)), .val 232 (.vl (.int .i64 (m : Int))), .val 233 (.vl (.pointer (some ⟨g1, m, none⟩))), .val 234 (.vl (.int .u32 (at0 us m))), .val 235 (.vl (.int .u64 (at0 us m))), .val 236 (.vl (.int .u64 (at0 us (m + 1) * 4294967296 + at0 us m))), .val 237 (.vl (.int .u64 (s : Int))), .val 238 (.vl (.int .u64 ((at0 us (m + 1) * 4294967296 + at0 us m) / 2 ^ s))), .val 239 (.vl (.int .u32 ((at0 us (m + 1) * 4294967296 + at0 us m) / 2 ^ s % 4294967296))), .val 240 (.vl (.pointer (some ⟨g4, m, none⟩))), .rput 247 g4 vs.length vs.length 140 (.int .u32) (rs) (m) ((at0 us (m + 1) * 4294967296 + at0 us m) / 2 ^ s % 4294967296)] [([], [5]), ([], [25]), ([], [7]), ([], [25]), ([3], []), ([2, 4], []), ([5], [244]), ([6], []), ([7], []), ([], [7]), ([], [25]), ([9, 10], []), ([11], [244]), ([12], []), ([8, 13], []), ([], [6]), ([14, 15], []), ([16], []), ([0, 1], []), ([18, 17], [247])] rfl (by kernel_rfl) (by kernel_rfl) (by kernel_rfl) rfl ⟨?_, ?_, ?_, ?_, ?_, ?_, ?_, ?_, ?_, ?_, ?_, ?_, ?_, ?_, ?_, ?_, ?_, ?_, ?_, ?_, trivial⟩ ?_
   ·exact DX.move rfl rfl rfl rfl rfl rfl
   ·exact DX.move rfl rfl rfl rfl rfl rfl
   ·exact DX.move rfl rfl rfl rfl rfl rfl
   ·exact DX.move rfl rfl rfl rfl rfl rfl
   ·exact DX.q2 (x := .tmp 225) (y := .const (.int .i64 1)) (.int .i64 (((m + 1 : Nat) : Int))) rfl rfl rfl rfl rfl (fun ρ W h1 h2 => by exact r_add h1 h2 (by omega) (by omega))
   ·exact DX.q2 (x := .tmp 224) (y := .tmp 226) (.pointer (some ⟨g1, m + 1, none⟩)) rfl rfl rfl rfl rfl (fun ρ W h1 h2 => r_idx h1 h2 (by omega))
   ·exact DX.rload (K := 244) (i := m + 1) rfl rfl rfl rfl rfl rfl (by omega) r_l32
   ·exact DX.q1 (x := .tmp 228) (.int .u64 (at0 us (m + 1))) rfl rfl rfl rfl (fun ρ W h1 => by exact r_64 h1 (hu _))
   ·exact DX.q2 (x := .tmp 229) (y := .const (.int .u64 32)) (.int .u64 (at0 us (m + 1) * 4294967296)) rfl rfl rfl rfl rfl (fun ρ W h1 h2 => by exact r_up32 h1 h2 (hu _))
   ·exact DX.move rfl rfl rfl rfl rfl rfl
   ·exact DX.move rfl rfl rfl rfl rfl rfl
   ·exact DX.q2 (x := .tmp 231) (y := .tmp 232) (.pointer (some ⟨g1, m, none⟩)) rfl rfl rfl rfl rfl (fun ρ W h1 h2 => r_idx h1 h2 (by omega))
   ·exact DX.rload (K := 244) (i := m) rfl rfl rfl rfl rfl rfl (by omega) r_l32
   ·exact DX.q1 (x := .tmp 234) (.int .u64 (at0 us m)) rfl rfl rfl rfl (fun ρ W h1 => by exact r_64 h1 (hu _))
   ·exact DX.q2 (x := .tmp 230) (y := .tmp 235) (.int .u64 (at0 us (m + 1) * 4294967296 + at0 us m)) rfl rfl rfl rfl rfl (fun ρ W h1 h2 => by exact r_join h1 h2 (hu _) (hu _))
   ·exact DX.move rfl rfl rfl rfl rfl rfl
   ·exact DX.q2 (x := .tmp 236) (y := .tmp 237) (.int .u64 ((at0 us (m + 1) * 4294967296 + at0 us m) / 2 ^ s)) rfl rfl rfl rfl rfl (fun ρ W h1 h2 => by exact r_dn h1 h2 (by omega))
   ·exact DX.q1 (x := .tmp 238) (.int .u32 ((at0 us (m + 1) * 4294967296 + at0 us m) / 2 ^ s % 4294967296)) rfl rfl rfl rfl (fun ρ W h1 => by exact r_32 h1)
   ·exact DX.q2 (x := .tmp 222) (y := .tmp 223) (.pointer (some ⟨g4, m, none⟩)) rfl rfl rfl rfl rfl (fun ρ W h1 h2 => r_idx h1 h2 (by omega))
   ·exact DX.rstore (K := 247) (x := .tmp 239) (i := m) (y := ((at0 us (m + 1) * 4294967296 + at0 us m) / 2 ^ s % 4294967296)) rfl rfl rfl rfl rfl (by omega) rfl r_s32
   refine SX.blockN ?_
   refine SX.then (SC.region ?_)
   refine PW.q2 (x := .tmp 219) (y := .const (.int .i64 1)) (.int .i64 (((m + 1 : Nat) : Int))) rfl rfl rfl rfl rfl (fun ρ W h1 h2 => by exact r_add h1 h2 (by omega) (by omega)) ?_
   refine PW.move rfl rfl rfl rfl rfl (PW.nil ?_)
   refine SX.back (m + 1, rs.set m ((at0 us (m + 1) * 4294967296 + at0 us m) / 2 ^ s % 4294967296)) ?_ ?_ ?_
   ·exact (hQ.step hR.lf.1 (by omega) (by omega) (by omega))
   ·exact (show vs.length - (m + 1) < vs.length - m by omega)
   ·exact ⟨rfl, rfl, rfl, rfl, rfl, rfl, rfl, rfl, rfl, rfl, trivial⟩
  ·obtain rfl : m = vs.length := by have := hQ.le; omega
   refine SC.region ?_
   refine PW.q2 (x := .tmp 219) (y := .tmp 218) (.bool false) rfl rfl rfl rfl rfl (fun ρ W h1 h2 => by exact r_lt h1 h2 (decide_eq_false hm)) ?_
   refine PW.nil (SX.then (SC.seq (SC.cond (t := false) rfl (SC.exit (SX.thenE (SX.thenE (SX.blockE (SX.then (SC.seq (SC.region (PW.move rfl rfl rfl rfl rfl (PW.move rfl rfl rfl rfl rfl ?_))))))))))))
   refine PW.assign rfl rfl rfl rfl rfl (PW.assign rfl rfl rfl rfl rfl (PW.nil (SX.then (SC.ret ?_))))
   obtain ⟨f1, f2, f3⟩ := hR.fin eU ev
   have f4 := hQ.fin f2 (Int.emod_nonneg _ (Int.ne_of_gt f3)) (by have a1 := Int.emod_lt_of_pos (lv 4294967296 xs) f3; have a2 := lv_lt BB_pos dy; rw [vl]; omega)
   exact SX.doneR (s := 4) (t := 5) (K1 := 246) (K2 := 247) (.inl rfl) rfl rfl rfl rfl rfl ⟨hR.qd, f1, by rw [hR.ql]; omega⟩ ⟨hQ.d, f4, by rw [hQ.len, vl]⟩ rfl
end Go.Proofs.YthpjmhhfcechmaaGreat.Sy
/- The contract of the program's Divide, whole. -/
namespace Go.Proofs.YthpjmhhfcechmaaGreat
open Go.RowKit Ma

theorem long_l {A B : Option Addr} {l l' c d : Nat} {xs ys : List Int} {w : World} (e : l = xs.length) (e' : l' = ys.length) (rA : Rd w .u32 A xs) (rB : Rd w .u32 B ys) (dx : dg b32 xs) (dy : dg b32 ys) (hl : xs.length ≤ 500000) (hn : 2 ≤ ys.length) (hle : ys.length ≤ xs.length) (ht : top ys) :
  Calls Tryz.prog 149 #[.slice A l c, .slice B l' d] w (Ret w (K2 (KL .u32 fun zs => dg b32 zs ∧ lv b32 zs = lv b32 xs / lv b32 ys ∧ zs.length ≤ xs.length) (KL .u32 fun zs => dg b32 zs ∧ lv b32 zs = lv b32 xs % lv b32 ys ∧ zs.length = ys.length))) := by
 subst e e'
 exact Sy.long_c rA rB dx dy hl hn hle ht
set_option maxHeartbeats 3200000 in
set_option maxRecDepth 100000 in
theorem divide_2 {x y : Int} {n m : Bool} {A B : Option Addr} {l l' c d : Nat} {w : World} (hx : RI w n A l c x) (hy : RI w m B l' d y) (hl : l ≤ 500000) (h2 : 2 ≤ l') (h1 : y.natAbs ≤ x.natAbs) :
  Calls Tryz.prog 119 #[.agg #[.bool n, .slice A l c], .agg #[.bool m, .slice B l' d]] w (Ret w (K3 (KI (x.tdiv y)) (KI (x.tmod y)) (KV (.int .i64 0)))) := by
 obtain ⟨xs, rfl, hc, rA, dx, tx, nx, rfl⟩ := hx
 obtain ⟨ys, rfl, hd, rB, dy, ty, ny, rfl⟩ := hy
 have hxn := lv_nonneg (show (0 : Int) < b32 by decide) dx
 have hyn := lv_nonneg (show (0 : Int) < b32 by decide) dy
 have e1 := sg_natAbs n _ hxn
 have e2 := sg_natAbs m _ hyn
 have HQ := Lib.hid (sg_tdiv n m _ _ hxn hyn)
 have HR := Lib.hid (sg_tmod n m _ _ hxn hyn)
 have hge : lv b32 ys ≤ lv b32 xs := by omega
 have hle := length_le (show (1 : Int) < b32 by decide) dy dx ty hge
 have hcm := Lib.hid (cmp_ge hge)
 have nw1 : Nw w ((((w.alloc (.cells #[.bool n, .slice A xs.length c] 31)).alloc (.cells #[.bool m, .slice B ys.length d] 31)).alloc (.cells #[.bool false, .slice none 0 0] 31)).alloc (.cells #[.bool false, .slice none 0 0] 31)) := ((((Nw.refl w).alloc _).alloc _).alloc _).alloc _
 have sg0 : Sg2 [(w.heap.size, 0, Value.bool n), (w.heap.size, 1, Value.slice A xs.length c), (w.heap.size + 1, 0, Value.bool m), (w.heap.size + 1, 1, Value.slice B ys.length d)] (w.heap.size + 1 + 1) (w.heap.size + 1 + 1 + 1) ((((w.alloc (.cells #[.bool n, .slice A xs.length c] 31)).alloc (.cells #[.bool m, .slice B ys.length d] 31)).alloc (.cells #[.bool false, .slice none 0 0] 31)).alloc (.cells #[.bool false, .slice none 0 0] 31)) := by
  refine ⟨⟨by go_simp, by go_simp, by go_simp, by go_simp, trivial⟩, ?_, ?_, by go_simp⟩
  ·have h1 := box_two ((w.alloc (.cells #[.bool n, .slice A xs.length c] 31)).alloc (.cells #[.bool m, .slice B ys.length d] 31)) 31 false none 0 0
   have h2 := h1.below ((Nw.refl _).alloc (.cells #[.bool false, .slice none 0 0] 31))
   simpa using h2
  ·have h1 := box_two (((w.alloc (.cells #[.bool n, .slice A xs.length c] 31)).alloc (.cells #[.bool m, .slice B ys.length d] 31)).alloc (.cells #[.bool false, .slice none 0 0] 31)) 31 false none 0 0
   simpa using h1
 have SG := Lib.hid sg0
 have RA := Lib.hid (rA.kept nw1.kept)
 have RB := Lib.hid (rB.kept nw1.kept)
 clear rA rB e1 e2 h1 hge hxn hyn
 go_enter Tryz.func119, Tryz.ntmps119
 go_wp2_with (go_at_call 94; refine (compared_c A B c d xs ys _ RA.out RB.out dx dy tx ty).mono ?_; rintro e w1 ⟨_, rfl, hk, hb⟩; have hcm1 := hcm.out; generalize cmp (lv b32 xs) (lv b32 ys) = cm at hcm1 hk; subst hk; obtain ⟨⟨q1, q2, q3, q4, _⟩, B1, B2, _⟩ := SG.out.nw hb; obtain ⟨⟨u0, hu0, hm0⟩, hf0⟩ := B1 0 (by omega); obtain ⟨⟨u1, hu1, hm1⟩, hf1⟩ := B1 1 (by omega); obtain ⟨⟨t0, ht0, hk0⟩, hg0⟩ := B2 0 (by omega); obtain ⟨⟨t1, ht1, hk1⟩, hg1⟩ := B2 1 (by omega))
 clear q1 q2 q3 q4 B1 B2 hu0 hu1 ht0 ht1 hf0 hf1 hg0 hg1 hm0 hm1 hk0 hk1
 refine (long_l rfl rfl (RA.out.kept hb.kept) (RB.out.kept hb.kept) dx dy hl h2 hle ty).mono ?_
 rintro e w2 ⟨_, rfl, ⟨v1, v2, rfl, ⟨zq, A1, c1, rfl, hq1, rq, dq, eq, lq⟩, ⟨zr, A2, c2, rfl, hr1, rr, dr, er, lr⟩⟩, hb2⟩
 have nw2 := nw1.trans (hb.trans hb2)
 have S2 := Lib.hid (SG.out.nw (hb.trans hb2))
 have RQ := Lib.hid rq
 have RR := Lib.hid rr
 have HQ1 := Lib.hid hq1
 have HR1 := Lib.hid hr1
 have EQ := Lib.hid eq
 have ER := Lib.hid er
 clear rq rr hq1 hr1 eq er lq lr
 go_wp2
 have n1 : Nw w _ := (nw2).drew
 have hw : w.heap.size ≤ w.heap.size + 1 + 1 := by omega
 refine region_two [(w.heap.size, 0, Value.bool n), (w.heap.size, 1, Value.slice A xs.length c), (w.heap.size + 1, 0, Value.bool m), (w.heap.size + 1, 1, Value.slice B ys.length d)] (w.heap.size + 1 + 1) (w.heap.size + 1 + 1 + 1) 1000 (KB (w.heap.size + 1 + 1) (sg (!(n == m)) (lv b32 xs / lv b32 ys)) undef) (KB (w.heap.size + 1 + 1 + 1) (sg n (lv b32 xs % lv b32 ys)) undef) [(2, KI (sg (!(n == m)) (lv b32 xs / lv b32 ys))), (6, KI (sg n (lv b32 xs % lv b32 ys))), (7, fun _ W => (KB (w.heap.size + 1 + 1) (sg (!(n == m)) (lv b32 xs / lv b32 ys)) undef) W), (8, fun _ W => (KB (w.heap.size + 1 + 1 + 1) (sg n (lv b32 xs % lv b32 ys)) undef) W)] (by kernel_rfl) (by kernel_rfl) (by kernel_rfl) (by kernel_rfl) ?_ ⟨St2.st (KI.st _), St2.st (KI.st _), St2.r, St2.s, trivial⟩ ((S2.out.nw (Nw.refl _).drew)) ?_
 ·first | trivial | (simp only [Low, and_true]; omega)
 repeat
  apply Rg.wpK_quiet rfl rfl
  case hq => intro W hS; obtain ⟨⟨q1, q2, q3, q4, _⟩, _⟩ := hS; go_simp; exact rfl
  case he => exact (by simp only [Act.put, List.setIfInBounds_toArray, List.set_cons_zero, List.set_cons_succ]; exact rfl)
 apply Rg.wpK_know rfl rfl
 case ha =>
  intro W hR hS hF
  have hn := n1.r2 hR hw
  obtain ⟨⟨q1, q2, q3, q4, _⟩, hB1, hB2, hr⟩ := hS
  unfold Rg.gives
  go_simp
  exact Rg.gives_enter (call_r2 (KB.nwst _ _) (KB.nwst _ _) (ret_eq (made_l rfl (!(n == m)) ((RQ.out.kept (Nw.refl _).drew.kept).kept hR.2.1) HQ1.out dq) (by rw [EQ.out])) hr)
 intro u hu
 obtain ⟨W0, hw1, hw2, hf⟩ := hu
 obtain ⟨m2, D2, l2, c2, rfl, hx⟩ := Rg.upd_at rfl (hf 2)
 refine ⟨_, rfl, ?_⟩
 (first | (rw [put_list]; dsimp only [List.set_cons_zero, List.set_cons_succ]) | rw [put_none])
 clear hf hw1 hw2 hx W0
 repeat
  apply Rg.wpK_quiet rfl rfl
  case hq => intro W hS; obtain ⟨⟨q1, q2, q3, q4, _⟩, _⟩ := hS; go_simp; exact rfl
  case he => exact (by simp only [Act.put, List.setIfInBounds_toArray, List.set_cons_zero, List.set_cons_succ]; exact rfl)
 apply Rg.wpK_know rfl rfl
 case ha =>
  intro W hR hS hF
  have hn := n1.r2 hR hw
  obtain ⟨⟨q1, q2, q3, q4, _⟩, hB1, hB2, hr⟩ := hS
  unfold Rg.gives
  go_simp
  exact Rg.gives_enter (call_r2 (KB.nwst _ _) (KB.nwst _ _) (ret_eq (made_l rfl n ((RR.out.kept (Nw.refl _).drew.kept).kept hR.2.1) HR1.out dr) (by rw [ER.out])) hr)
 intro u hu
 obtain ⟨W0, hw1, hw2, hf⟩ := hu
 obtain ⟨m6, D6, l6, c6, rfl, hx⟩ := Rg.upd_at rfl (hf 6)
 refine ⟨_, rfl, ?_⟩
 (first | (rw [put_list]; dsimp only [List.set_cons_zero, List.set_cons_succ]) | rw [put_none])
 clear hf hw1 hw2 hx W0
 repeat
  apply Rg.wpK_quiet rfl rfl
  case hq => intro W hS; obtain ⟨⟨q1, q2, q3, q4, _⟩, _⟩ := hS; go_simp; exact rfl
  case he => exact (by simp only [Act.put, List.setIfInBounds_toArray, List.set_cons_zero, List.set_cons_succ]; exact rfl)
 apply Rg.wpK_know rfl rfl
 case ha =>
  intro W hR hS hF
  have hn := n1.r2 hR hw
  obtain ⟨⟨q1, q2, q3, q4, _⟩, hB1, hB2, hr⟩ := hS
  have i2 := KI.agg (Rg.upd_at rfl (Rg.upd_off rfl (hF 2 (by kernel_rfl))))
  obtain ⟨⟨v0, hv0, hn0⟩, hf0⟩ := hB1 0 (by omega)
  obtain ⟨⟨v1, hv1, hn1⟩, hf1⟩ := hB1 1 (by omega)
  unfold Rg.gives
  go_simp
  exact Rg.gives_skip (store_I1 (by omega) hB1 i2)
 intro u hu
 obtain ⟨W0, hw1, hw2, hf⟩ := hu
 have hx := trivial
 refine ⟨_, rfl, ?_⟩
 (first | (rw [put_list]; dsimp only [List.set_cons_zero, List.set_cons_succ]) | rw [put_none])
 clear hf hw1 hw2 hx W0
 repeat
  apply Rg.wpK_quiet rfl rfl
  case hq => intro W hS; obtain ⟨⟨q1, q2, q3, q4, _⟩, _⟩ := hS; go_simp; exact rfl
  case he => exact (by simp only [Act.put, List.setIfInBounds_toArray, List.set_cons_zero, List.set_cons_succ]; exact rfl)
 apply Rg.wpK_know rfl rfl
 case ha =>
  intro W hR hS hF
  have hn := n1.r2 hR hw
  obtain ⟨⟨q1, q2, q3, q4, _⟩, hB1, hB2, hr⟩ := hS
  have i6 := KI.agg (Rg.upd_at rfl (Rg.upd_off rfl (hF 6 (by kernel_rfl))))
  obtain ⟨⟨v0, hv0, hn0⟩, hf0⟩ := hB2 0 (by omega)
  obtain ⟨⟨v1, hv1, hn1⟩, hf1⟩ := hB2 1 (by omega)
  unfold Rg.gives
  go_simp
  exact Rg.gives_skip (store_I2 (by omega) hB2 i6)
 intro u hu
 obtain ⟨W0, hw1, hw2, hf⟩ := hu
 have hx := trivial
 refine ⟨_, rfl, ?_⟩
 (first | (rw [put_list]; dsimp only [List.set_cons_zero, List.set_cons_succ]) | rw [put_none])
 clear hf hw1 hw2 hx W0
 repeat
  apply Rg.wpK_quiet rfl rfl
  case hq => intro W hS; obtain ⟨⟨q1, q2, q3, q4, _⟩, _⟩ := hS; go_simp; exact rfl
  case he => exact (by simp only [Act.put, List.setIfInBounds_toArray, List.set_cons_zero, List.set_cons_succ]; exact rfl)
 refine Rg.wpK_end fun w9 hR hS hF => ?_
 have hn := n1.r2 hR hw
 have b1 := Rg.upd_at rfl (Rg.upd_off rfl (hF 7))
 have b2 := Rg.upd_at rfl (hF 8)
 obtain ⟨m1, D1, l1, c1, p0, p1, i1⟩ := b1
 obtain ⟨m2, D2, l2, c2, p2, p3, i2⟩ := b2
 go_wp2
 exact bodyPost_ret (v := .tuple #[.agg #[.bool m1, .slice D1 l1 c1], .agg #[.bool m2, .slice D2 l2 c2], .int .i64 0]) (by simp [results, Tryz.results119, go_sem, p0, p1, p2, p3]) rfl ⟨_, rfl, ⟨_, _, _, rfl, ⟨_, _, _, _, rfl, i1.eq HQ.out.symm⟩, ⟨_, _, _, _, rfl, i2.eq HR.out.symm⟩, rfl⟩, hn⟩
end Go.Proofs.YthpjmhhfcechmaaGreat
/- Divide, in the form that the rules want. -/
namespace Go.Proofs.YthpjmhhfcechmaaGreat
open Go.RowKit Ma
theorem divide_c {x y : Int} {n m : Bool} {A B : Option Addr} {l l' c d : Nat} {w : World} (hx : RI w n A l c x) (hy : RI w m B l' d y) (hl : l ≤ 500000) (hy0 : y ≠ 0) :
  Calls Tryz.prog 119 #[.agg #[.bool n, .slice A l c], .agg #[.bool m, .slice B l' d]] w (Ret w (K3 (KI (x.tdiv y)) (KI (x.tmod y)) (KV (.int .i64 0)))) := by
 by_cases h : l' ≤ 1 ∨ x.natAbs < y.natAbs
 ·exact divide_1 hx hy hl hy0 h
 ·exact divide_2 hx hy hl (by omega) (by omega)
namespace Sy
open Go
theorem ce_div : CE 119 := fun args W => by go_simp
variable {x y : Int} {a b : Nat}
theorem k_div (hx : bd a x) (ha : a ≤ 300000) (hy : y ≠ 0) : CallOk 119 [KI x, KI y] (K3 (KI (x.tdiv y)) (KI (x.tmod y)) (KV (.int .i64 0))) := callII ce_div fun W n A l c m B l' d h1 h2 => divide_c h1 h2 (by have := h1.le hx ha; omega) hy
end Sy
/-! ### Bounds of quotients -/
theorem bd.tdiv {a : Nat} {x y : Int} (h : bd a x) : bd a (x.tdiv y) := by
 have h1 : (x.tdiv y).natAbs ≤ x.natAbs := by rw [Int.natAbs_tdiv]; exact Nat.div_le_self _ _
 unfold bd at *
 omega
theorem bd.tmod {a : Nat} {x y : Int} (h : bd a x) : bd a (x.tmod y) := by
 have h1 : (x.tmod y).natAbs ≤ x.natAbs := by rw [Int.natAbs_tmod]; exact Nat.mod_le _ _
 unfold bd at *
 omega
end Go.Proofs.YthpjmhhfcechmaaGreat
