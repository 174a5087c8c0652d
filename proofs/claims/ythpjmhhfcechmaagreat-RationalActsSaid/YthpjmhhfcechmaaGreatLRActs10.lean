/- Parts Rc, Lt, Syw, Jp, Jq, Js, Jt, in one file. -/
import Derived.Test.YthpjmhhfcechmaaGreatLRActs1
import Derived.Test.YthpjmhhfcechmaaGreatLRActs4
import Derived.Test.YthpjmhhfcechmaaGreatLRActs6
import Derived.Test.YthpjmhhfcechmaaGreatLRActs8
import Derived.Test.YthpjmhhfcechmaaGreatLRActs9
/- Contract, simplest by rules. -/
set_option linter.unusedVariables false
set_option linter.unusedSimpArgs false
namespace Go.Proofs.YthpjmhhfcechmaaGreat.Sy
open Go Go.RowKit Ma
theorem callK {f : FuncId} {ks : List Know} {r r' : Know} (h : CallOk f ks r) (e : r = r') : CallOk f ks r' := e ▸ h
def KPR : Except Int Rat → Know
 | .ok q => K2 (KQ q.num ((q.den : Int) - 1)) (KV (.int .i64 0))
 | .error e => K2 (KQ 0 0) (KV (.int .i64 e))
theorem LIn.be {w W : World} {A : Option Addr} {zs : List Int} (h : LIn w A zs) (k : Below w.heap.size w W) : LIn W A zs := fun i hi => by
 obtain ⟨g, q, m, D, l, c, e, c0, c1, hr⟩ := h i hi
 exact ⟨g, q, m, D, l, c, e, (k.cell (World.block_lt_of_cell? w _ c0)).trans c0, (k.cell (World.block_lt_of_cell? w _ c1)).trans c1, hr.kept (IntK.of_below k)⟩
theorem ce_contract : CE 34 := fun args W => by go_simp
theorem ce_contracted : CE 132 := fun args W => by go_simp
set_option maxHeartbeats 6400000 in
set_option maxRecDepth 100000 in
theorem contract_c {A : Option Addr} {c m : Nat} {zs : List Int} {w : World} (hL : LIn w A zs) (hb : ∀ i, bd (m + 1) (at0 zs i)) (hT : (m + 4) * zs.length ≤ 40000) (hm : m ≤ 1000) (hl : zs.length ≤ 1000000) :
  Calls Tryz.prog 34 #[.slice A zs.length c] w (Ret w (KPR (ctrR zs))) := by
 refine calls_sc (l := [.vl (.slice A zs.length c)]) (us := [.slice A zs.length c]) 45 Tryz.func34 rfl Tryz.ntmps34 (by simp) ⟨rfl, rfl, trivial⟩ ?_
 refine SC.seq (SC.region ?_)
 refine PW.alloc (BQ 38) rfl rfl rfl rfl rfl bQ ?_
 refine PW.assign rfl rfl rfl rfl rfl (PW.nil (SX.then (SC.seq (SC.seq ?_))))
 by_cases h0 : (zs.length : Int) = 0
 ·have hz0 : zs = [] := List.eq_nil_of_length_eq_zero (by omega)
  refine SC.region (PW.move rfl rfl rfl rfl rfl ?_)
  refine PW.qn [(.tmp 8, .slice A zs.length c)] (.int .i64 (zs.length : Int)) rfl rfl rfl ⟨rfl, trivial⟩ (fun ρ W h => by obtain ⟨h1, _⟩ := h; exact r_lenz h1) ?_
  refine PW.q2 (x := .tmp 9) (y := .const (.int .i64 0)) (.bool true) rfl rfl rfl rfl rfl (fun ρ W h1 h2 => by exact r_eqT h1 h2 (by omega)) ?_
  refine PW.nil (SX.then (SC.cond (t := true) rfl (SC.seq (SC.region ?_))))
  refine PW.val (r := .kw (KQ (0) (0))) rfl rfl rfl rfl (fun a W hf => ⟨_, r_bldQ0, zeroQ W, KQ.st _ _⟩) ?_
  refine PW.store (x := .tmp 11) (r := .kw (KQ (0) (0))) rfl rfl rfl rfl rfl rfl sh_Q ?_
  refine PW.assign rfl rfl rfl rfl rfl (PW.nil (SX.then (SC.ret (SX.thenR ?_))))
  rw [show ctrR zs = .error 5 by rw [hz0]; rfl]
  exact SX.done2 (s := 2) (t := 3) (r := .vl (.int .i64 5)) (.inl rfl) rfl rfl rfl rfl
 ·refine SC.region ?_
  refine PW.move rfl rfl rfl rfl rfl ?_
  refine PW.qn [(.tmp 8, .slice A zs.length c)] (.int .i64 (zs.length : Int)) rfl rfl rfl ⟨rfl, trivial⟩ (fun ρ W h => by obtain ⟨h1, _⟩ := h; exact r_lenz h1) ?_
  refine PW.q2 (x := .tmp 9) (y := .const (.int .i64 0)) (.bool false) rfl rfl rfl rfl rfl (fun ρ W h1 h2 => by exact r_eqF h1 h2 (by omega)) ?_
  refine PW.nil (SX.then (SC.cond (t := false) rfl (SC.skip (SX.then (SC.seq (SC.region (PW.move rfl rfl rfl rfl rfl (PW.move rfl rfl rfl rfl rfl ?_))))))))
  refine PW.qn [(.tmp 13, .slice A zs.length c)] (.int .i64 (zs.length : Int)) rfl rfl rfl ⟨rfl, trivial⟩ (fun ρ W h => by obtain ⟨h1, _⟩ := h; exact r_lenz h1) ?_
  refine PW.q2 (x := .tmp 14) (y := .const (.int .i64 1)) (.int .i64 (((zs.length - 1 : Nat) : Int))) rfl rfl rfl rfl rfl (fun ρ W h1 h2 => by exact r_sub h1 h2 (by omega) (by omega)) ?_
  refine PW.q2 (x := .tmp 12) (y := .tmp 15) (.pointer (padd A ((zs.length - 1) * 2))) rfl rfl rfl rfl rfl (fun ρ W h1 h2 => r_idxzA hL (by omega) h1 h2) ?_
  refine PW.ldz (i := (zs.length - 1)) hL (by omega) rfl rfl rfl rfl ?_
  refine PW.call (r := .kw (KQ (((at0 zs (zs.length - 1) : Int) : Rat)).num (((((at0 zs (zs.length - 1) : Int) : Rat)).den : Int) - 1))) rfl rfl rfl rfl rfl rfl (KQ.st _ _) rfl (k_rof) ?_
  refine PW.alloc (BQ 38) rfl rfl rfl rfl rfl bQ ?_
  refine PW.store (x := .tmp 18) (r := .kw (KQ (((at0 zs (zs.length - 1) : Int) : Rat)).num (((((at0 zs (zs.length - 1) : Int) : Rat)).den : Int) - 1))) rfl rfl rfl rfl rfl rfl sh_Q ?_
  refine PW.nil (SX.then (SC.seq (SC.seq (SC.region (PW.move rfl rfl rfl rfl rfl ?_)))))
  refine PW.qn [(.tmp 19, .slice A zs.length c)] (.int .i64 (zs.length : Int)) rfl rfl rfl ⟨rfl, trivial⟩ (fun ρ W h => by obtain ⟨h1, _⟩ := h; exact r_lenz h1) ?_
  refine PW.q2 (x := .tmp 20) (y := .const (.int .i64 2)) (.int .i64 (((zs.length - 1 : Nat) : Int) - 1)) rfl rfl rfl rfl rfl (fun ρ W h1 h2 => by exact r_sub h1 h2 (by omega) (by omega)) ?_
  refine PW.assign rfl rfl rfl rfl rfl (PW.nil (SX.then (SC.block ?_)))
  refine SC.loop (S := Nat × Rat) (fun ⟨k, q⟩ => [(0, .vl (.slice A zs.length c)), (2, .nb (BQ 38)), (4, .bx (BQ 38) (KQ (q).num (((q).den : Int) - 1))), (5, .vl (.int .i64 ((k : Int) - 1)))]) (fun ⟨k, q⟩ => CrI m zs k q) (fun ⟨k, q⟩ => k) (zs.length - 1, ((at0 zs (zs.length - 1) : Int) : Rat)) (CrI.start (by omega) hb) ⟨rfl, rfl, rfl, rfl, trivial⟩ ?_
  rintro ⟨k, q⟩ hI
  show SC _ _ _ _ [(0, .vl (.slice A zs.length c)), (2, .nb (BQ 38)), (4, .bx (BQ 38) (KQ (q).num (((q).den : Int) - 1))), (5, .vl (.int .i64 ((k : Int) - 1)))] _
  refine SC.seq (SC.seq ?_)
  by_cases hk : (k : Int) - 1 ≥ 0
  ·obtain ⟨i, rfl⟩ : ∃ i, k = i + 1 := ⟨k - 1, by omega⟩
   rw [show ((i + 1 : Nat) : Int) - 1 = (i : Int) by omega]
   rw [show ((i + 1 : Nat) : Int) - 1 = (i : Int) by omega] at hk
   have hle := hI.le hT
   refine SC.region (PW.move rfl rfl rfl rfl rfl ?_)
   refine PW.q2 (x := .tmp 22) (y := .const (.int .i64 0)) (.bool true) rfl rfl rfl rfl rfl (fun ρ W h1 h2 => by exact r_ge h1 h2 (decide_eq_true hk)) ?_
   refine PW.nil (SX.then (SC.cond (t := true) rfl (SC.skip (SX.then (SC.seq (SC.block (SC.seq ?_)))))))
   by_cases hq : q = 0
   ·refine SC.dx [.val 27 (.kw (KI (1))), .val 28 (.kw (KQ (((1 : Int) : Rat)).num (((((1 : Int) : Rat)).den : Int) - 1))), .val 29 (.kw (KQ (q).num (((q).den : Int) - 1))), .val 30 (.kw (K2 (KQ (0) (0)) (KV (.int .i64 6)))), .val 26 (.kw (K2 (KQ (0) (0)) (KV (.int .i64 6)))), .val 31 (.kw (KQ (0) (0))), .val 32 (.vl (.int .i64 6)), .new 6 (BQ 38), .put 6 (BQ 38) (.kw (KQ (0) (0))), .val 7 (.vl (.int .i64 6))] [([], []), ([0], []), ([], [4]), ([1, 2], []), ([3], []), ([4], []), ([4], []), ([], []), ([7, 5], []), ([6], [])] rfl (by kernel_rfl) (by kernel_rfl) (by kernel_rfl) rfl ⟨?_, ?_, ?_, ?_, ?_, ?_, ?_, ?_, ?_, ?_, trivial⟩ ?_
    ·exact DX.call (r := .kw (KI (1))) rfl rfl rfl rfl rfl rfl (KI.st _) rfl (k_one)
    ·exact DX.call (r := .kw (KQ (((1 : Int) : Rat)).num (((((1 : Int) : Rat)).den : Int) - 1))) rfl rfl rfl rfl rfl rfl (KQ.st _ _) rfl (k_rof)
    ·exact DX.load rfl rfl rfl rfl rfl rfl
    ·exact DX.call (r := .kw (K2 (KQ (0) (0)) (KV (.int .i64 6)))) rfl rfl rfl rfl rfl rfl (K2.st (KQ.st _ _) (KV.st _)) rfl (k_rdiv0 hq)
    ·exact DX.move rfl rfl rfl rfl rfl rfl
    ·exact DX.ext (r := .kw (KQ (0) (0))) rfl rfl rfl rfl rfl ex20 (KQ.st _ _) rfl
    ·exact DX.ext (r := .vl (.int .i64 6)) rfl rfl rfl rfl rfl ex21v (KV.st _) rfl
    ·exact DX.alloc (BQ 38) rfl rfl rfl rfl bQ rfl
    ·exact DX.store (x := .tmp 31) (r := .kw (KQ (0) (0))) rfl rfl rfl rfl rfl rfl sh_Q
    ·exact DX.assign rfl rfl rfl rfl rfl rfl
    refine SX.then (SC.seq (SC.seq (SC.region (PW.move rfl rfl rfl rfl rfl ?_))))
    refine PW.q2 (x := .tmp 33) (y := .const (.int .i64 0)) (.bool true) rfl rfl rfl rfl rfl (fun ρ W h1 h2 => by go_simp) ?_
    refine PW.nil (SX.then (SC.cond (t := true) rfl (SC.seq (SC.region ?_))))
    refine PW.val (r := .kw (KQ (0) (0))) rfl rfl rfl rfl (fun a W hf => ⟨_, r_bldQ0, zeroQ W, KQ.st _ _⟩) ?_
    refine PW.move rfl rfl rfl rfl rfl ?_
    refine PW.store (x := .tmp 35) (r := .kw (KQ (0) (0))) rfl rfl rfl rfl rfl rfl sh_Q ?_
    refine PW.assign rfl rfl rfl rfl rfl (PW.nil (SX.then (SC.ret (SX.thenR (SX.blockR (SX.thenR (SX.thenR (SX.blockR (SX.thenR ?_)))))))))
    rw [hI.zero hq]
    exact SX.done2 (s := 2) (t := 3) (r := .vl (.int .i64 6)) (.inl rfl) rfl rfl rfl rfl
   ·refine SC.dx [.val 27 (.kw (KI (1))), .val 28 (.kw (KQ (((1 : Int) : Rat)).num (((((1 : Int) : Rat)).den : Int) - 1))), .val 29 (.kw (KQ (q).num (((q).den : Int) - 1))), .val 30 (.kw (K2 (KQ ((((1 : Int) : Rat)) / q).num ((((((1 : Int) : Rat)) / q).den : Int) - 1)) (KV (.int .i64 0)))), .val 26 (.kw (K2 (KQ ((((1 : Int) : Rat)) / q).num ((((((1 : Int) : Rat)) / q).den : Int) - 1)) (KV (.int .i64 0)))), .val 31 (.kw (KQ ((((1 : Int) : Rat)) / q).num ((((((1 : Int) : Rat)) / q).den : Int) - 1))), .val 32 (.vl (.int .i64 0)), .new 6 (BQ 38), .put 6 (BQ 38) (.kw (KQ ((((1 : Int) : Rat)) / q).num ((((((1 : Int) : Rat)) / q).den : Int) - 1))), .val 7 (.vl (.int .i64 0))] [([], []), ([0], []), ([], [4]), ([1, 2], []), ([3], []), ([4], []), ([4], []), ([], []), ([7, 5], []), ([6], [])] rfl (by kernel_rfl) (by kernel_rfl) (by kernel_rfl) rfl ⟨?_, ?_, ?_, ?_, ?_, ?_, ?_, ?_, ?_, ?_, trivial⟩ ?_
    ·exact DX.call (r := .kw (KI (1))) rfl rfl rfl rfl rfl rfl (KI.st _) rfl (k_one)
    ·exact DX.call (r := .kw (KQ (((1 : Int) : Rat)).num (((((1 : Int) : Rat)).den : Int) - 1))) rfl rfl rfl rfl rfl rfl (KQ.st _ _) rfl (k_rof)
    ·exact DX.load rfl rfl rfl rfl rfl rfl
    ·exact DX.call (r := .kw (K2 (KQ ((((1 : Int) : Rat)) / q).num ((((((1 : Int) : Rat)) / q).den : Int) - 1)) (KV (.int .i64 0)))) rfl rfl rfl rfl rfl rfl (K2.st (KQ.st _ _) (KV.st _)) rfl (k_rdiv (bq.int1 bd.one) hI.b (by omega) (by omega) hq)
    ·exact DX.move rfl rfl rfl rfl rfl rfl
    ·exact DX.ext (r := .kw (KQ ((((1 : Int) : Rat)) / q).num ((((((1 : Int) : Rat)) / q).den : Int) - 1))) rfl rfl rfl rfl rfl ex20 (KQ.st _ _) rfl
    ·exact DX.ext (r := .vl (.int .i64 0)) rfl rfl rfl rfl rfl ex21v (KV.st _) rfl
    ·exact DX.alloc (BQ 38) rfl rfl rfl rfl bQ rfl
    ·exact DX.store (x := .tmp 31) (r := .kw (KQ ((((1 : Int) : Rat)) / q).num ((((((1 : Int) : Rat)) / q).den : Int) - 1))) rfl rfl rfl rfl rfl rfl sh_Q
    ·exact DX.assign rfl rfl rfl rfl rfl rfl
    refine SX.then (SC.seq (SC.seq (SC.region (PW.move rfl rfl rfl rfl rfl ?_))))
    refine PW.q2 (x := .tmp 33) (y := .const (.int .i64 0)) (.bool false) rfl rfl rfl rfl rfl (fun ρ W h1 h2 => by go_simp) ?_
    refine PW.nil (SX.then (SC.cond (t := false) rfl (SC.skip (SX.then ?_))))
    refine SC.dx [.val 37 (.vl (.slice A zs.length c)), .val 38 (.vl (.int .i64 (i : Int))), .val 39 (.vl (.pointer (padd A (i * 2)))), .val 40 (.kw (KI (at0 zs i))), .val 41 (.kw (KQ (((at0 zs i : Int) : Rat)).num (((((at0 zs i : Int) : Rat)).den : Int) - 1))), .val 42 (.kw (KQ ((((1 : Int) : Rat)) / q).num ((((((1 : Int) : Rat)) / q).den : Int) - 1))), .val 43 (.kw (KQ ((((at0 zs i : Int) : Rat)) + ((((1 : Int) : Rat)) / q)).num ((((((at0 zs i : Int) : Rat)) + ((((1 : Int) : Rat)) / q)).den : Int) - 1))), .put 4 (BQ 38) (.kw (KQ ((((at0 zs i : Int) : Rat)) + ((((1 : Int) : Rat)) / q)).num ((((((at0 zs i : Int) : Rat)) + ((((1 : Int) : Rat)) / q)).den : Int) - 1)))] [([], [0]), ([], [5]), ([0, 1], []), ([2], []), ([3], []), ([], [6]), ([4, 5], []), ([6], [4])] rfl (by kernel_rfl) (by kernel_rfl) (by kernel_rfl) rfl ⟨?_, ?_, ?_, ?_, ?_, ?_, ?_, ?_, trivial⟩ ?_
    ·exact DX.move rfl rfl rfl rfl rfl rfl
    ·exact DX.move rfl rfl rfl rfl rfl rfl
    ·exact DX.q2 (x := .tmp 37) (y := .tmp 38) (.pointer (padd A (i * 2))) rfl rfl rfl rfl rfl (fun ρ W h1 h2 => r_idxzA hL (by have := hI.k0; omega) h1 h2)
    ·exact DX.ldz (i := i) hL (by have := hI.k0; omega) rfl rfl rfl rfl
    ·exact DX.call (r := .kw (KQ (((at0 zs i : Int) : Rat)).num (((((at0 zs i : Int) : Rat)).den : Int) - 1))) rfl rfl rfl rfl rfl rfl (KQ.st _ _) rfl (k_rof)
    ·exact DX.load rfl rfl rfl rfl rfl rfl
    ·exact DX.call (r := .kw (KQ ((((at0 zs i : Int) : Rat)) + ((((1 : Int) : Rat)) / q)).num ((((((at0 zs i : Int) : Rat)) + ((((1 : Int) : Rat)) / q)).den : Int) - 1))) rfl rfl rfl rfl rfl rfl (KQ.st _ _) rfl (k_radd (bq.int1 ((hb (i)))) ((bq.int1 bd.one).div hI.b hq) (by omega) (by omega))
    ·exact DX.store (x := .tmp 43) (r := .kw (KQ ((((at0 zs i : Int) : Rat)) + ((((1 : Int) : Rat)) / q)).num ((((((at0 zs i : Int) : Rat)) + ((((1 : Int) : Rat)) / q)).den : Int) - 1))) rfl rfl rfl rfl rfl rfl sh_Q
    refine SX.blockN ?_
    refine SX.then (SC.region (PW.move rfl rfl rfl rfl rfl ?_))
    refine PW.q2 (x := .tmp 24) (y := .const (.int .i64 1)) (.int .i64 ((i : Int) - 1)) rfl rfl rfl rfl rfl (fun ρ W h1 h2 => by exact r_sub h1 h2 (rfl) (by have := hI.k0; omega)) ?_
    refine PW.assign rfl rfl rfl rfl rfl (PW.nil ?_)
    refine SX.back (i, (((at0 zs i : Int) : Rat)) + ((((1 : Int) : Rat)) / q)) ?_ ?_ ?_
    ·exact (hI.step hb hq)
    ·exact (show i < i + 1 by omega)
    ·exact ⟨rfl, rfl, rfl, rfl, trivial⟩
  ·obtain rfl : k = 0 := by omega
   refine SC.region (PW.move rfl rfl rfl rfl rfl ?_)
   refine PW.q2 (x := .tmp 22) (y := .const (.int .i64 0)) (.bool false) rfl rfl rfl rfl rfl (fun ρ W h1 h2 => by exact r_ge h1 h2 (decide_eq_false hk)) ?_
   refine PW.nil (SX.then (SC.cond (t := false) rfl (SC.exit (SX.thenE (SX.thenE (SX.blockE (SX.then (SC.seq (SC.region ?_)))))))))
   refine PW.load rfl rfl rfl rfl rfl rfl ?_
   refine PW.store (x := .tmp 44) (r := .kw (KQ (q).num (((q).den : Int) - 1))) rfl rfl rfl rfl rfl rfl sh_Q ?_
   refine PW.assign rfl rfl rfl rfl rfl (PW.nil (SX.then (SC.ret ?_)))
   rw [hI.fin]
   exact SX.done2 (s := 2) (t := 3) (r := .vl (.int .i64 0)) (.inl rfl) rfl rfl rfl rfl
set_option maxHeartbeats 3200000 in
set_option maxRecDepth 100000 in
theorem contracted_c {A : Option Addr} {c m : Nat} {zs : List Int} {q : Rat} {w : World} (hL : LIn w A zs) (hb : ∀ i, bd (m + 1) (at0 zs i)) (hT : (m + 4) * zs.length ≤ 40000) (hm : m ≤ 1000) (hl : zs.length ≤ 1000000) (hc : ctrR zs = .ok q) :
  Calls Tryz.prog 132 #[.slice A zs.length c] w (Ret w (KQ (q).num (((q).den : Int) - 1))) := by
 refine calls_sc (l := [.vl (.slice A zs.length c)]) (us := [.slice A zs.length c]) 11 Tryz.func132 rfl Tryz.ntmps132 (by simp) ⟨rfl, rfl, trivial⟩ ?_
 refine SC.seq (SC.region ?_)
 refine PW.alloc (BQ 38) rfl rfl rfl rfl rfl bQ ?_
 refine PW.nil (SX.then (SC.seq (SC.region (PW.move rfl rfl rfl rfl rfl ?_))))
 refine PW.callG (r := .kw (K2 (KQ (q).num (((q).den : Int) - 1)) (KV (.int .i64 0)))) ce_contract rfl rfl rfl rfl rfl (K2.st (KQ.st _ _) (KV.st _)) rfl (fun a W hf => by have h1 := hf.vl (s := 6) rfl; show Calls Tryz.prog _ #[a.tmps.getD 6 undef] W _; rw [h1]; have := contract_c (c := c) (hL.be hf.be) hb hT hm hl; rw [hc] at this; exact this) ?_
 refine PW.move rfl rfl rfl rfl rfl ?_
 refine PW.ext (r := .kw (KQ (q).num (((q).den : Int) - 1))) rfl rfl rfl rfl rfl ex20 (KQ.st _ _) rfl ?_
 refine PW.ext (r := .vl (.int .i64 0)) rfl rfl rfl rfl rfl ex21v (KV.st _) rfl ?_
 refine PW.alloc (BQ 38) rfl rfl rfl rfl rfl bQ ?_
 refine PW.store (x := .tmp 8) (r := .kw (KQ (q).num (((q).den : Int) - 1))) rfl rfl rfl rfl rfl rfl sh_Q ?_
 refine PW.assign rfl rfl rfl rfl rfl (PW.nil (SX.then (SC.seq (SC.region ?_))))
 refine PW.load rfl rfl rfl rfl rfl rfl ?_
 refine PW.store (x := .tmp 10) (r := .kw (KQ (q).num (((q).den : Int) - 1))) rfl rfl rfl rfl rfl rfl sh_Q ?_
 refine PW.nil (SX.then (SC.ret ?_))
 exact SX.doneC (s := 2) (.inl rfl) rfl rfl rfl
theorem ce_k_simplest : CE 91 := fun args W => by go_simp
set_option maxHeartbeats 6400000 in
set_option maxRecDepth 100000 in
theorem k_simplest {x0 y0 z : Rat} {L : List Int} {m : Nat} (X : bq m x0) (Y : bq m y0) (hxy : x0 ≤ y0) (hS0 : Smp x0 y0 L) (hb : ∀ i, bd (m + 1) (at0 L i)) (hT : (m + 4) * L.length ≤ 40000) (hm2 : m ≤ 1000) (hl : L.length ≤ 1000000) (hc0 : ctrR L = .ok z) : CallOk 91 [KQ (x0).num (((x0).den : Int) - 1), KQ (y0).num (((y0).den : Int) - 1)] (KQ (z).num (((z).den : Int) - 1)) := by
 refine CallOk.enter (l := [.kw (KQ (x0).num (((x0).den : Int) - 1)), .kw (KQ (y0).num (((y0).den : Int) - 1))]) 62 ce_k_simplest Tryz.func91 rfl Tryz.ntmps91 (by simp) ⟨(KQ.st _ _), rfl, (KQ.st _ _), rfl, trivial⟩ fun w => ?_
 refine SC.seq (SC.region ?_)
 refine PW.box (x := .tmp 0) (r := .kw (KQ (x0).num (((x0).den : Int) - 1))) (BQ 38) rfl rfl rfl rfl rfl bQ rfl sh_Q ?_
 refine PW.box (x := .tmp 1) (r := .kw (KQ (y0).num (((y0).den : Int) - 1))) (BQ 38) rfl rfl rfl rfl rfl bQ rfl sh_Q ?_
 refine PW.alloc (BQ 38) rfl rfl rfl rfl rfl bQ ?_
 refine PW.nil (SX.then (SC.seq (SC.region (PW.assign rfl rfl rfl rfl rfl (PW.nil (SX.then (SC.block ?_)))))))
 refine SC.weak (fun a W hf => Fr.nilz 62 hf) ?_
 refine SC.loop (S := Value × List Int × Rat × Rat × List Int) (fun ⟨v, ps, x, y, l⟩ => [(2, .bx (BQ 38) (KQ (x).num (((x).den : Int) - 1))), (3, .bx (BQ 38) (KQ (y).num (((y).den : Int) - 1))), (4, .nb (BQ 38)), (5, .vl (v)), (62, .rs (v) 31 2 (ps : List Int).length (RsI (ps)))]) (fun ⟨v, ps, x, y, l⟩ => SmI m L ps x y l) (fun ⟨v, ps, x, y, l⟩ => l.length) (.slice none 0 0, [], x0, y0, L) ⟨hS0, rfl, X, Y, hxy⟩ ⟨rfl, rfl, rfl, rfl, rfl, trivial⟩ ?_
 rintro ⟨v, ps, x, y, l⟩ hS
 show SC _ _ _ _ [(2, .bx (BQ 38) (KQ (x).num (((x).den : Int) - 1))), (3, .bx (BQ 38) (KQ (y).num (((y).den : Int) - 1))), (4, .nb (BQ 38)), (5, .vl (v)), (62, .rs (v) 31 2 (ps : List Int).length (RsI (ps)))] _
 refine SC.block (SC.seq (SC.region ?_))
 refine PW.load rfl rfl rfl rfl rfl rfl ?_
 refine PW.call (r := .kw (KI (flq x))) rfl rfl rfl rfl rfl rfl (KI.st _) rfl (k_rfloor hS.xb (by omega)) ?_
 refine PW.alloc (BI 31) rfl rfl rfl rfl rfl bI ?_
 refine PW.store (x := .tmp 12) (r := .kw (KI (flq x))) rfl rfl rfl rfl rfl rfl sh_I ?_
 refine PW.nil (SX.then (SC.seq (SC.block (SC.seq ?_))))
 by_cases hd : x.den = 1
 ·have hL := hS.whole hd
  refine SC.region ?_
  refine PW.load rfl rfl rfl rfl rfl rfl ?_
  refine PW.call (r := .vl (.bool true)) rfl rfl rfl rfl rfl rfl (KV.st _) rfl (callK k_rwhole (by rw [decide_eq_true hd]; rfl)) ?_
  refine PW.assign rfl rfl rfl rfl rfl (PW.nil (SX.then (SC.cond (t := true) rfl (SC.seq (SC.region (PW.move rfl rfl rfl rfl rfl ?_))))))
  refine PW.load rfl rfl rfl rfl rfl rfl ?_
  refine PW.bz (x := .tmp 17) rfl rfl rfl rfl (fun ρ W m A l c h1 => r_bz h1) ?_
  refine PW.apz (K := 62) rfl rfl rfl rfl rfl rfl rfl Tryz.underlying66 (by have := congrArg List.length hS.eq; rw [List.length_append] at this; omega) rfl fun vz1 => ?_
  refine PW.callG (r := .kw (KQ (z).num (((z).den : Int) - 1))) ce_contracted rfl rfl rfl rfl rfl (KQ.st _ _) rfl (fun a W hf => by have h1 := hf.vl (s := 19) rfl; have own : OwS W _ _ 2 (vz1) (ps ++ [flq x] : List Int).length (RsI (ps ++ [flq x])) := hf.ho 62 _ rfl; obtain ⟨A, c, e1, hc, _⟩ := own.form; rw [e1] at own; show Calls Tryz.prog _ #[a.tmps.getD 19 undef] W _; rw [h1, e1]; exact contracted_c (own.lin rfl) (by rw [← hL]; exact hb) (by rw [← hL]; exact hT) hm2 (by rw [← hL]; omega) (by rw [← hL]; exact hc0)) ?_
  refine PW.store (x := .tmp 20) (r := .kw (KQ (z).num (((z).den : Int) - 1))) rfl rfl rfl rfl rfl rfl sh_Q ?_
  refine PW.nil (SX.then (SC.ret (SX.blockR (SX.thenR (SX.blockR (SX.thenR (SX.blockR ?_)))))))
  exact SX.doneC (s := 4) (.inl rfl) rfl rfl rfl
 ·refine SC.region ?_
  refine PW.load rfl rfl rfl rfl rfl rfl ?_
  refine PW.call (r := .vl (.bool false)) rfl rfl rfl rfl rfl rfl (KV.st _) rfl (callK k_rwhole (by rw [decide_eq_false hd]; rfl)) ?_
  refine PW.assign rfl rfl rfl rfl rfl (PW.nil (SX.then (SC.cond (t := false) rfl (SC.seq ?_))))
  by_cases hn : ((flq x + 1 : Int) : Rat) ≤ y
  ·have hL := hS.next hd hn
   refine SC.dx [.val 22 (.kw (KI (flq x))), .val 23 (.kw (KI (1))), .val 24 (.kw (KI ((flq x) + 1))), .val 25 (.kw (KQ ((((flq x) + 1 : Int) : Rat)).num ((((((flq x) + 1 : Int) : Rat)).den : Int) - 1))), .val 26 (.kw (KQ (y).num (((y).den : Int) - 1))), .val 27 (.vl (.int .i64 (cmpq ((((flq x) + 1 : Int) : Rat)) y))), .val 28 (.vl (.bool true)), .val 21 (.vl (.bool true))] [([], [6]), ([], []), ([0, 1], []), ([2], []), ([], [3]), ([3, 4], []), ([5], []), ([6], [])] rfl (by kernel_rfl) (by kernel_rfl) (by kernel_rfl) rfl ⟨?_, ?_, ?_, ?_, ?_, ?_, ?_, ?_, trivial⟩ ?_
   ·exact DX.load rfl rfl rfl rfl rfl rfl
   ·exact DX.call (r := .kw (KI (1))) rfl rfl rfl rfl rfl rfl (KI.st _) rfl (k_one)
   ·exact DX.call (r := .kw (KI ((flq x) + 1))) rfl rfl rfl rfl rfl rfl (KI.st _) rfl (k_add hS.xb.fl bd.one (by omega) (by omega))
   ·exact DX.call (r := .kw (KQ ((((flq x) + 1 : Int) : Rat)).num ((((((flq x) + 1 : Int) : Rat)).den : Int) - 1))) rfl rfl rfl rfl rfl rfl (KQ.st _ _) rfl (k_rof)
   ·exact DX.load rfl rfl rfl rfl rfl rfl
   ·exact DX.call (r := .vl (.int .i64 (cmpq ((((flq x) + 1 : Int) : Rat)) y))) rfl rfl rfl rfl rfl rfl (KV.st _) rfl (k_rcmp (bq.int1 (hS.xb.fl.add bd.one)) hS.yb (by omega) (by omega))
   ·exact DX.q2 (x := .tmp 27) (y := .const (.int .i64 0)) (.bool true) rfl rfl rfl rfl rfl (fun ρ W h1 h2 => by exact r_le h1 h2 (decide_eq_true (cmpq_le.2 hn)))
   ·exact DX.assign rfl rfl rfl rfl rfl rfl
   refine SX.then (SC.cond (t := true) rfl (SC.seq ?_))
   refine SC.dxl [.val 29 (.vl (v)), .val 30 (.kw (KI (flq x))), .val 31 (.kw (KI (1))), .val 32 (.kw (KI ((flq x) + 1))), .gs 33 31 2 1 (RsI [(flq x) + 1])] [([], [5]), ([], [6]), ([], []), ([1, 2], []), ([3], [])] rfl (by kernel_rfl) (by kernel_rfl) (by kernel_rfl) rfl (by kernel_rfl) ⟨?_, ?_, ?_, ?_, ?_, trivial⟩ ?_
   ·exact DX.move rfl rfl rfl rfl rfl rfl
   ·exact DX.load rfl rfl rfl rfl rfl rfl
   ·exact DX.call (r := .kw (KI (1))) rfl rfl rfl rfl rfl rfl (KI.st _) rfl (k_one)
   ·exact DX.call (r := .kw (KI ((flq x) + 1))) rfl rfl rfl rfl rfl rfl (KI.st _) rfl (k_add hS.xb.fl bd.one (by omega) (by omega))
   ·exact DX.bz (x := .tmp 32) rfl rfl rfl rfl (fun ρ W m A l c h1 => r_bz h1)
   refine PW.apz (K := 62) rfl rfl rfl rfl rfl rfl rfl Tryz.underlying66 (by have := congrArg List.length hS.eq; rw [List.length_append] at this; omega) rfl fun vz2 => ?_
   refine PW.callG (r := .kw (KQ (z).num (((z).den : Int) - 1))) ce_contracted rfl rfl rfl rfl rfl (KQ.st _ _) rfl (fun a W hf => by have h1 := hf.vl (s := 34) rfl; have own : OwS W _ _ 2 (vz2) (ps ++ [(flq x) + 1] : List Int).length (RsI (ps ++ [(flq x) + 1])) := hf.ho 62 _ rfl; obtain ⟨A, c, e1, hc, _⟩ := own.form; rw [e1] at own; show Calls Tryz.prog _ #[a.tmps.getD 34 undef] W _; rw [h1, e1]; exact contracted_c (own.lin rfl) (by rw [← hL]; exact hb) (by rw [← hL]; exact hT) hm2 (by rw [← hL]; omega) (by rw [← hL]; exact hc0)) ?_
   refine PW.store (x := .tmp 35) (r := .kw (KQ (z).num (((z).den : Int) - 1))) rfl rfl rfl rfl rfl rfl sh_Q ?_
   refine PW.nil (SX.then (SC.ret (SX.blockR (SX.thenR (SX.blockR (SX.thenR (SX.blockR ?_)))))))
   exact SX.doneC (s := 4) (.inl rfl) rfl rfl rfl
  ·obtain ⟨l', rfl, hS2⟩ := hS.step hd hn
   refine SC.dx [.val 22 (.kw (KI (flq x))), .val 23 (.kw (KI (1))), .val 24 (.kw (KI ((flq x) + 1))), .val 25 (.kw (KQ ((((flq x) + 1 : Int) : Rat)).num ((((((flq x) + 1 : Int) : Rat)).den : Int) - 1))), .val 26 (.kw (KQ (y).num (((y).den : Int) - 1))), .val 27 (.vl (.int .i64 (cmpq ((((flq x) + 1 : Int) : Rat)) y))), .val 28 (.vl (.bool false)), .val 21 (.vl (.bool false))] [([], [6]), ([], []), ([0, 1], []), ([2], []), ([], [3]), ([3, 4], []), ([5], []), ([6], [])] rfl (by kernel_rfl) (by kernel_rfl) (by kernel_rfl) rfl ⟨?_, ?_, ?_, ?_, ?_, ?_, ?_, ?_, trivial⟩ ?_
   ·exact DX.load rfl rfl rfl rfl rfl rfl
   ·exact DX.call (r := .kw (KI (1))) rfl rfl rfl rfl rfl rfl (KI.st _) rfl (k_one)
   ·exact DX.call (r := .kw (KI ((flq x) + 1))) rfl rfl rfl rfl rfl rfl (KI.st _) rfl (k_add hS.xb.fl bd.one (by omega) (by omega))
   ·exact DX.call (r := .kw (KQ ((((flq x) + 1 : Int) : Rat)).num ((((((flq x) + 1 : Int) : Rat)).den : Int) - 1))) rfl rfl rfl rfl rfl rfl (KQ.st _ _) rfl (k_rof)
   ·exact DX.load rfl rfl rfl rfl rfl rfl
   ·exact DX.call (r := .vl (.int .i64 (cmpq ((((flq x) + 1 : Int) : Rat)) y))) rfl rfl rfl rfl rfl rfl (KV.st _) rfl (k_rcmp (bq.int1 (hS.xb.fl.add bd.one)) hS.yb (by omega) (by omega))
   ·exact DX.q2 (x := .tmp 27) (y := .const (.int .i64 0)) (.bool false) rfl rfl rfl rfl rfl (fun ρ W h1 h2 => by exact r_le h1 h2 (decide_eq_false (fun h => hn (cmpq_le.1 h))))
   ·exact DX.assign rfl rfl rfl rfl rfl rfl
   refine SX.then (SC.cond (t := false) rfl (SC.skip ?_))
   refine SX.blockN ?_
   refine SX.then (SC.seq (SC.region (PW.move rfl rfl rfl rfl rfl ?_)))
   refine PW.load rfl rfl rfl rfl rfl rfl ?_
   refine PW.bz (x := .tmp 37) rfl rfl rfl rfl (fun ρ W m A l c h1 => r_bz h1) ?_
   refine PW.apz (K := 62) rfl rfl rfl rfl rfl rfl rfl Tryz.underlying66 (by have := congrArg List.length hS.eq; rw [List.length_append] at this; omega) rfl fun vz3 => ?_
   refine PW.assign rfl rfl rfl rfl rfl (PW.nil (SX.then (SC.seq ?_)))
   refine SC.dx [.val 41 (.kw (KI (1))), .val 42 (.kw (KQ (((1 : Int) : Rat)).num (((((1 : Int) : Rat)).den : Int) - 1))), .val 43 (.kw (KQ (y).num (((y).den : Int) - 1))), .val 44 (.kw (KI (flq x))), .val 45 (.kw (KQ (((flq x : Int) : Rat)).num (((((flq x : Int) : Rat)).den : Int) - 1))), .val 46 (.kw (KQ (y - (((flq x : Int) : Rat))).num (((y - (((flq x : Int) : Rat))).den : Int) - 1))), .val 47 (.kw (K2 (KQ ((((1 : Int) : Rat)) / (y - (((flq x : Int) : Rat)))).num ((((((1 : Int) : Rat)) / (y - (((flq x : Int) : Rat)))).den : Int) - 1)) (KV (.int .i64 0)))), .val 40 (.kw (K2 (KQ ((((1 : Int) : Rat)) / (y - (((flq x : Int) : Rat)))).num ((((((1 : Int) : Rat)) / (y - (((flq x : Int) : Rat)))).den : Int) - 1)) (KV (.int .i64 0)))), .val 48 (.kw (KQ ((((1 : Int) : Rat)) / (y - (((flq x : Int) : Rat)))).num ((((((1 : Int) : Rat)) / (y - (((flq x : Int) : Rat)))).den : Int) - 1))), .val 49 (.vl (.int .i64 0)), .new 7 (BQ 38), .put 7 (BQ 38) (.kw (KQ ((((1 : Int) : Rat)) / (y - (((flq x : Int) : Rat)))).num ((((((1 : Int) : Rat)) / (y - (((flq x : Int) : Rat)))).den : Int) - 1))), .val 8 (.vl (.int .i64 0))] [([], []), ([0], []), ([], [3]), ([], [6]), ([3], []), ([2, 4], []), ([1, 5], []), ([6], []), ([7], []), ([7], []), ([], []), ([10, 8], []), ([9], [])] rfl (by kernel_rfl) (by kernel_rfl) (by kernel_rfl) rfl ⟨?_, ?_, ?_, ?_, ?_, ?_, ?_, ?_, ?_, ?_, ?_, ?_, ?_, trivial⟩ ?_
   ·exact DX.call (r := .kw (KI (1))) rfl rfl rfl rfl rfl rfl (KI.st _) rfl (k_one)
   ·exact DX.call (r := .kw (KQ (((1 : Int) : Rat)).num (((((1 : Int) : Rat)).den : Int) - 1))) rfl rfl rfl rfl rfl rfl (KQ.st _ _) rfl (k_rof)
   ·exact DX.load rfl rfl rfl rfl rfl rfl
   ·exact DX.load rfl rfl rfl rfl rfl rfl
   ·exact DX.call (r := .kw (KQ (((flq x : Int) : Rat)).num (((((flq x : Int) : Rat)).den : Int) - 1))) rfl rfl rfl rfl rfl rfl (KQ.st _ _) rfl (k_rof)
   ·exact DX.call (r := .kw (KQ (y - (((flq x : Int) : Rat))).num (((y - (((flq x : Int) : Rat))).den : Int) - 1))) rfl rfl rfl rfl rfl rfl (KQ.st _ _) rfl (k_rsub hS.yb (bq.int1 hS.xb.fl) (by omega) (by omega))
   ·exact DX.call (r := .kw (K2 (KQ ((((1 : Int) : Rat)) / (y - (((flq x : Int) : Rat)))).num ((((((1 : Int) : Rat)) / (y - (((flq x : Int) : Rat)))).den : Int) - 1)) (KV (.int .i64 0)))) rfl rfl rfl rfl rfl rfl (K2.st (KQ.st _ _) (KV.st _)) rfl (k_rdiv (bq.int1 bd.one) (hS.yb.sub (bq.int1 hS.xb.fl)) (by omega) (by omega) (hS.yne hd))
   ·exact DX.move rfl rfl rfl rfl rfl rfl
   ·exact DX.ext (r := .kw (KQ ((((1 : Int) : Rat)) / (y - (((flq x : Int) : Rat)))).num ((((((1 : Int) : Rat)) / (y - (((flq x : Int) : Rat)))).den : Int) - 1))) rfl rfl rfl rfl rfl ex20 (KQ.st _ _) rfl
   ·exact DX.ext (r := .vl (.int .i64 0)) rfl rfl rfl rfl rfl ex21v (KV.st _) rfl
   ·exact DX.alloc (BQ 38) rfl rfl rfl rfl bQ rfl
   ·exact DX.store (x := .tmp 48) (r := .kw (KQ ((((1 : Int) : Rat)) / (y - (((flq x : Int) : Rat)))).num ((((((1 : Int) : Rat)) / (y - (((flq x : Int) : Rat)))).den : Int) - 1))) rfl rfl rfl rfl rfl rfl sh_Q
   ·exact DX.assign rfl rfl rfl rfl rfl rfl
   refine SX.then (SC.seq ?_)
   refine SC.dx [.val 51 (.kw (KI (1))), .val 52 (.kw (KQ (((1 : Int) : Rat)).num (((((1 : Int) : Rat)).den : Int) - 1))), .val 53 (.kw (KQ (x).num (((x).den : Int) - 1))), .val 54 (.kw (KI (flq x))), .val 55 (.kw (KQ (((flq x : Int) : Rat)).num (((((flq x : Int) : Rat)).den : Int) - 1))), .val 56 (.kw (KQ (x - (((flq x : Int) : Rat))).num (((x - (((flq x : Int) : Rat))).den : Int) - 1))), .val 57 (.kw (K2 (KQ ((((1 : Int) : Rat)) / (x - (((flq x : Int) : Rat)))).num ((((((1 : Int) : Rat)) / (x - (((flq x : Int) : Rat)))).den : Int) - 1)) (KV (.int .i64 0)))), .val 50 (.kw (K2 (KQ ((((1 : Int) : Rat)) / (x - (((flq x : Int) : Rat)))).num ((((((1 : Int) : Rat)) / (x - (((flq x : Int) : Rat)))).den : Int) - 1)) (KV (.int .i64 0)))), .val 58 (.kw (KQ ((((1 : Int) : Rat)) / (x - (((flq x : Int) : Rat)))).num ((((((1 : Int) : Rat)) / (x - (((flq x : Int) : Rat)))).den : Int) - 1))), .val 59 (.vl (.int .i64 0)), .new 9 (BQ 38), .put 9 (BQ 38) (.kw (KQ ((((1 : Int) : Rat)) / (x - (((flq x : Int) : Rat)))).num ((((((1 : Int) : Rat)) / (x - (((flq x : Int) : Rat)))).den : Int) - 1))), .val 10 (.vl (.int .i64 0))] [([], []), ([0], []), ([], [2]), ([], [6]), ([3], []), ([2, 4], []), ([1, 5], []), ([6], []), ([7], []), ([7], []), ([], []), ([10, 8], []), ([9], [])] rfl (by kernel_rfl) (by kernel_rfl) (by kernel_rfl) rfl ⟨?_, ?_, ?_, ?_, ?_, ?_, ?_, ?_, ?_, ?_, ?_, ?_, ?_, trivial⟩ ?_
   ·exact DX.call (r := .kw (KI (1))) rfl rfl rfl rfl rfl rfl (KI.st _) rfl (k_one)
   ·exact DX.call (r := .kw (KQ (((1 : Int) : Rat)).num (((((1 : Int) : Rat)).den : Int) - 1))) rfl rfl rfl rfl rfl rfl (KQ.st _ _) rfl (k_rof)
   ·exact DX.load rfl rfl rfl rfl rfl rfl
   ·exact DX.load rfl rfl rfl rfl rfl rfl
   ·exact DX.call (r := .kw (KQ (((flq x : Int) : Rat)).num (((((flq x : Int) : Rat)).den : Int) - 1))) rfl rfl rfl rfl rfl rfl (KQ.st _ _) rfl (k_rof)
   ·exact DX.call (r := .kw (KQ (x - (((flq x : Int) : Rat))).num (((x - (((flq x : Int) : Rat))).den : Int) - 1))) rfl rfl rfl rfl rfl rfl (KQ.st _ _) rfl (k_rsub hS.xb (bq.int1 hS.xb.fl) (by omega) (by omega))
   ·exact DX.call (r := .kw (K2 (KQ ((((1 : Int) : Rat)) / (x - (((flq x : Int) : Rat)))).num ((((((1 : Int) : Rat)) / (x - (((flq x : Int) : Rat)))).den : Int) - 1)) (KV (.int .i64 0)))) rfl rfl rfl rfl rfl rfl (K2.st (KQ.st _ _) (KV.st _)) rfl (k_rdiv (bq.int1 bd.one) (hS.xb.sub (bq.int1 hS.xb.fl)) (by omega) (by omega) (hS.xne hd))
   ·exact DX.move rfl rfl rfl rfl rfl rfl
   ·exact DX.ext (r := .kw (KQ ((((1 : Int) : Rat)) / (x - (((flq x : Int) : Rat)))).num ((((((1 : Int) : Rat)) / (x - (((flq x : Int) : Rat)))).den : Int) - 1))) rfl rfl rfl rfl rfl ex20 (KQ.st _ _) rfl
   ·exact DX.ext (r := .vl (.int .i64 0)) rfl rfl rfl rfl rfl ex21v (KV.st _) rfl
   ·exact DX.alloc (BQ 38) rfl rfl rfl rfl bQ rfl
   ·exact DX.store (x := .tmp 58) (r := .kw (KQ ((((1 : Int) : Rat)) / (x - (((flq x : Int) : Rat)))).num ((((((1 : Int) : Rat)) / (x - (((flq x : Int) : Rat)))).den : Int) - 1))) rfl rfl rfl rfl rfl rfl sh_Q
   ·exact DX.assign rfl rfl rfl rfl rfl rfl
   refine SX.then ?_
   refine SC.dx [.val 60 (.kw (KQ ((((1 : Int) : Rat)) / (y - (((flq x : Int) : Rat)))).num ((((((1 : Int) : Rat)) / (y - (((flq x : Int) : Rat)))).den : Int) - 1))), .val 61 (.kw (KQ ((((1 : Int) : Rat)) / (x - (((flq x : Int) : Rat)))).num ((((((1 : Int) : Rat)) / (x - (((flq x : Int) : Rat)))).den : Int) - 1))), .put 2 (BQ 38) (.kw (KQ ((((1 : Int) : Rat)) / (y - (((flq x : Int) : Rat)))).num ((((((1 : Int) : Rat)) / (y - (((flq x : Int) : Rat)))).den : Int) - 1))), .put 3 (BQ 38) (.kw (KQ ((((1 : Int) : Rat)) / (x - (((flq x : Int) : Rat)))).num ((((((1 : Int) : Rat)) / (x - (((flq x : Int) : Rat)))).den : Int) - 1)))] [([], [7]), ([], [9]), ([0], [2]), ([1], [3])] rfl (by kernel_rfl) (by kernel_rfl) (by kernel_rfl) rfl ⟨?_, ?_, ?_, ?_, trivial⟩ ?_
   ·exact DX.load rfl rfl rfl rfl rfl rfl
   ·exact DX.load rfl rfl rfl rfl rfl rfl
   ·exact DX.store (x := .tmp 60) (r := .kw (KQ ((((1 : Int) : Rat)) / (y - (((flq x : Int) : Rat)))).num ((((((1 : Int) : Rat)) / (y - (((flq x : Int) : Rat)))).den : Int) - 1))) rfl rfl rfl rfl rfl rfl sh_Q
   ·exact DX.store (x := .tmp 61) (r := .kw (KQ ((((1 : Int) : Rat)) / (x - (((flq x : Int) : Rat)))).num ((((((1 : Int) : Rat)) / (x - (((flq x : Int) : Rat)))).den : Int) - 1))) rfl rfl rfl rfl rfl rfl sh_Q
   refine SX.blockN ?_
   refine SX.back (vz3, ps ++ [flq x], (((1 : Int) : Rat)) / (y - (((flq x : Int) : Rat))), (((1 : Int) : Rat)) / (x - (((flq x : Int) : Rat))), l') ?_ ?_ ?_
   ·exact hS2
   ·exact (show l'.length < (flq x :: l').length by simp)
   ·exact ⟨rfl, rfl, rfl, rfl, rfl, trivial⟩
end Go.Proofs.YthpjmhhfcechmaaGreat.Sy
/- Plain laws for texts of integers that are written. -/
namespace Go.Proofs.YthpjmhhfcechmaaGreat.Ma
open Go
noncomputable def tstr (r x : Int) : ByteArray := @dite _ (∃ s, Txt r x s) (Classical.propDecidable _) (fun h => Classical.choose h) (fun _ => ⟨#[]⟩)
theorem tstr_eq {r x : Int} {s : ByteArray} (hr : 2 ≤ r) (h : Txt r x s) : s = tstr r x := by
 have hex : ∃ s, Txt r x s := ⟨s, h⟩
 unfold tstr
 rw [dif_pos hex]
 exact Txt.eq hr h (Classical.choose_spec hex)
end Go.Proofs.YthpjmhhfcechmaaGreat.Ma
/- A walk by rules: loops whose rounds begin on a base of their own. -/
namespace Go.Proofs.YthpjmhhfcechmaaGreat.Sy
open Go Go.RowKit Ma
section
variable {B N : Nat} {w0 : World} {ops : Array Oper} {o : Oper} {rest : List Oper} {fr : List (Nat × AV)} {Q : Exit → Act → World → Prop} {d : Nat}
end
section
variable {x y z : Operand} {dst : Option Tmp} {ty : TypeId} {pos : String} {after : Array Edge} {guard : Option (Nat × Bool)} {ρ : Operand → Value} {W : World}
end
end Go.Proofs.YthpjmhhfcechmaaGreat.Sy
/- The program's value, Parse by rules. -/
namespace Go.Proofs.YthpjmhhfcechmaaGreat.Sy
open Go Go.RowKit Ma
theorem r_b1 {x : Operand} {dst : Option Tmp} {ty : TypeId} {pos : String} {after : Array Edge} {guard : Option (Nat × Bool)} {ρ : Operand → Value} {W : World} {a : Int} (h1 : ρ x = .int .u32 a) : (execOp ρ ⟨dst, .buildSlice 22 1 #[(0, x)], ty, pos, after, guard⟩).run Tryz.prog W = .ok (.value (.slice (some ⟨W.heap.size, 0, none⟩) [a].length [a].length)) (W.alloc (.cells ([a].map (Value.int .u32)).toArray 140)) := by
 go_simp
theorem ce_made : CE 95 := fun args W => by go_simp
theorem info_u32 : (Tryz.prog.info? 140).map (fun i => (i.zero, i.size, i.bytes)) = some (some (.int .u32 0), 1, 4) := by kernel_rfl
theorem made_k {n : Bool} {A : Option Addr} {c : Nat} {xs : List Int} {w : World} (rA : Rd w .u32 A xs) (hc : xs.length ≤ c) (hd : dg b32 xs) : Calls Tryz.prog 95 #[.bool n, .slice A xs.length c] w (Ret w (KI (sg n (lv b32 xs)))) := made_c n A c xs w rA hc hd
theorem mulr {a r : Int} (ha : 0 ≤ a ∧ a < 4294967296) (h : 2 ≤ r ∧ r ≤ 36) : 0 ≤ a * r ∧ a * r < 18446744073709551616 := by
 have h1 := Int.mul_nonneg ha.1 (show 0 ≤ r by omega)
 have h2 := Int.mul_le_mul_of_nonneg_left h.2 ha.1
 omega
theorem addr {a r c : Int} (ha : 0 ≤ a ∧ a < 4294967296) (h : 2 ≤ r ∧ r ≤ 36) (h0 : 0 ≤ c) (h1 : c ≤ 36) : 0 ≤ a * r + c ∧ a * r + c < 18446744073709551616 := by
 have h1 := Int.mul_nonneg ha.1 (show 0 ≤ r by omega)
 have h2 := Int.mul_le_mul_of_nonneg_left h.2 ha.1
 omega
theorem pos_of_at0 {s : ByteArray} {c : Int} (h : at0 (byl s) 0 = c) (hc : c ≠ 0) : 0 < s.size := by
 apply Classical.byContradiction
 intro h2
 rw [at0_ge (by rw [byl_len]; omega)] at h
 exact hc h.symm
theorem ce_k_value : CE 128 := fun args W => by go_simp
set_option maxHeartbeats 3200000 in
set_option maxRecDepth 100000 in
theorem k_value {c : Int} (h0 : 0 ≤ c) (h1 : c < 256) : CallOk 128 [KV (.int .u8 (c))] (KV (.int .i64 (dv c))) := by
 refine CallOk.enter (l := [.vl (.int .u8 (c))]) 17 ce_k_value Tryz.func128 rfl Tryz.ntmps128 (by simp) ⟨(KV.st _), rfl, trivial⟩ fun w => ?_
 refine SC.seq (SC.region (PW.assign rfl rfl rfl rfl rfl (PW.nil (SX.then (SC.seq (SC.seq ?_))))))
 by_cases ha : c ≥ 97
 ·by_cases hb : c ≤ 122
  ·refine SC.region ?_
   refine PW.move rfl rfl rfl rfl rfl ?_
   refine PW.q2 (x := .tmp 4) (y := .const (.int .u8 97)) (.bool true) rfl rfl rfl rfl rfl (fun ρ W h1 h2 => by exact r_ge8 h1 h2 (decide_eq_true ha)) ?_
   refine PW.move rfl rfl rfl rfl rfl (PW.move rfl rfl rfl rfl rfl ?_)
   refine PW.q2 (x := .tmp 7) (y := .const (.int .u8 122)) (.bool true) rfl rfl rfl rfl rfl (fun ρ W h1 h2 => by exact r_le8 h1 h2 (decide_eq_true hb)) ?_
   refine PW.pick (t := true) rfl rfl rfl rfl rfl rfl ?_
   refine PW.nil (SX.then (SC.cond (t := true) rfl (SC.region (PW.move rfl rfl rfl rfl rfl ?_))))
   refine PW.q2 (x := .tmp 10) (y := .const (.int .u8 32)) (.int .u8 (c - 32)) rfl rfl rfl rfl rfl (fun ρ W h1 h2 => by exact r_sub8 h1 h2 rfl (by omega)) ?_
   refine PW.assign rfl rfl rfl rfl rfl (PW.nil (SX.then (SC.seq (SC.seq (SC.region (PW.move rfl rfl rfl rfl rfl ?_))))))
   refine PW.call (r := .vl (.int .i64 (ixd (c - 32)))) rfl rfl rfl rfl rfl rfl (KV.st _) rfl (k_indexByte digs (c - 32) (index_digs (by omega) (by omega))) ?_
   refine PW.assign rfl rfl rfl rfl rfl (PW.nil (SX.then (SC.seq ?_)))
   by_cases hx : ixd (c - 32) ≥ 0
   ·refine SC.region ?_
    refine PW.move rfl rfl rfl rfl rfl ?_
    refine PW.q2 (x := .tmp 14) (y := .const (.int .i64 0)) (.bool true) rfl rfl rfl rfl rfl (fun ρ W h1 h2 => by exact r_ge h1 h2 (decide_eq_true hx)) ?_
    refine PW.nil (SX.then (SC.cond (t := true) rfl (SC.seq (SC.region (PW.move rfl rfl rfl rfl rfl (PW.assign rfl rfl rfl rfl rfl (PW.nil (SX.then (SC.ret (SX.thenR ?_))))))))))
    have hr : dv c = ixd (c - 32) := by unfold dv; unfold ixd at hx ⊢; repeat' split at hx; all_goals (repeat' split); all_goals omega
    rw [hr]
    exact SX.done (s := 2) (r := .vl (.int .i64 (ixd (c - 32)))) rfl rfl rfl
   ·refine SC.region ?_
    refine PW.move rfl rfl rfl rfl rfl ?_
    refine PW.q2 (x := .tmp 14) (y := .const (.int .i64 0)) (.bool false) rfl rfl rfl rfl rfl (fun ρ W h1 h2 => by exact r_ge h1 h2 (decide_eq_false hx)) ?_
    refine PW.nil (SX.then (SC.cond (t := false) rfl (SC.skip (SX.then (SC.seq (SC.region (PW.assign rfl rfl rfl rfl rfl (PW.nil (SX.then (SC.ret ?_))))))))))
    have hr : dv c = 36 := by unfold dv; unfold ixd at hx; repeat' split at hx; all_goals (repeat' split); all_goals omega
    rw [hr]
    exact SX.done (s := 2) (r := .vl (.int .i64 36)) rfl rfl rfl
  ·refine SC.region ?_
   refine PW.move rfl rfl rfl rfl rfl ?_
   refine PW.q2 (x := .tmp 4) (y := .const (.int .u8 97)) (.bool true) rfl rfl rfl rfl rfl (fun ρ W h1 h2 => by exact r_ge8 h1 h2 (decide_eq_true ha)) ?_
   refine PW.move rfl rfl rfl rfl rfl (PW.move rfl rfl rfl rfl rfl ?_)
   refine PW.q2 (x := .tmp 7) (y := .const (.int .u8 122)) (.bool false) rfl rfl rfl rfl rfl (fun ρ W h1 h2 => by exact r_le8 h1 h2 (decide_eq_false hb)) ?_
   refine PW.pick (t := true) rfl rfl rfl rfl rfl rfl ?_
   refine PW.nil (SX.then (SC.cond (t := false) rfl (SC.skip (SX.then (SC.seq (SC.seq (SC.region (PW.move rfl rfl rfl rfl rfl ?_))))))))
   refine PW.call (r := .vl (.int .i64 (ixd (c)))) rfl rfl rfl rfl rfl rfl (KV.st _) rfl (k_indexByte digs (c) (index_digs (by omega) (by omega))) ?_
   refine PW.assign rfl rfl rfl rfl rfl (PW.nil (SX.then (SC.seq ?_)))
   by_cases hx : ixd (c) ≥ 0
   ·refine SC.region ?_
    refine PW.move rfl rfl rfl rfl rfl ?_
    refine PW.q2 (x := .tmp 14) (y := .const (.int .i64 0)) (.bool true) rfl rfl rfl rfl rfl (fun ρ W h1 h2 => by exact r_ge h1 h2 (decide_eq_true hx)) ?_
    refine PW.nil (SX.then (SC.cond (t := true) rfl (SC.seq (SC.region (PW.move rfl rfl rfl rfl rfl (PW.assign rfl rfl rfl rfl rfl (PW.nil (SX.then (SC.ret (SX.thenR ?_))))))))))
    have hr : dv c = ixd (c) := by unfold dv; unfold ixd at hx ⊢; repeat' split at hx; all_goals (repeat' split); all_goals omega
    rw [hr]
    exact SX.done (s := 2) (r := .vl (.int .i64 (ixd (c)))) rfl rfl rfl
   ·refine SC.region ?_
    refine PW.move rfl rfl rfl rfl rfl ?_
    refine PW.q2 (x := .tmp 14) (y := .const (.int .i64 0)) (.bool false) rfl rfl rfl rfl rfl (fun ρ W h1 h2 => by exact r_ge h1 h2 (decide_eq_false hx)) ?_
    refine PW.nil (SX.then (SC.cond (t := false) rfl (SC.skip (SX.then (SC.seq (SC.region (PW.assign rfl rfl rfl rfl rfl (PW.nil (SX.then (SC.ret ?_))))))))))
    have hr : dv c = 36 := by unfold dv; unfold ixd at hx; repeat' split at hx; all_goals (repeat' split); all_goals omega
    rw [hr]
    exact SX.done (s := 2) (r := .vl (.int .i64 36)) rfl rfl rfl
 ·refine SC.region ?_
  refine PW.move rfl rfl rfl rfl rfl ?_
  refine PW.q2 (x := .tmp 4) (y := .const (.int .u8 97)) (.bool false) rfl rfl rfl rfl rfl (fun ρ W h1 h2 => by exact r_ge8 h1 h2 (decide_eq_false ha)) ?_
  refine PW.move rfl rfl rfl rfl rfl ?_
  refine PW.skip rfl rfl rfl ?_
  refine PW.skip rfl rfl rfl ?_
  refine PW.pick (t := false) rfl rfl rfl rfl rfl rfl ?_
  refine PW.nil (SX.then (SC.cond (t := false) rfl (SC.skip (SX.then (SC.seq (SC.seq (SC.region (PW.move rfl rfl rfl rfl rfl ?_))))))))
  refine PW.call (r := .vl (.int .i64 (ixd (c)))) rfl rfl rfl rfl rfl rfl (KV.st _) rfl (k_indexByte digs (c) (index_digs (by omega) (by omega))) ?_
  refine PW.assign rfl rfl rfl rfl rfl (PW.nil (SX.then (SC.seq ?_)))
  by_cases hx : ixd (c) ≥ 0
  ·refine SC.region ?_
   refine PW.move rfl rfl rfl rfl rfl ?_
   refine PW.q2 (x := .tmp 14) (y := .const (.int .i64 0)) (.bool true) rfl rfl rfl rfl rfl (fun ρ W h1 h2 => by exact r_ge h1 h2 (decide_eq_true hx)) ?_
   refine PW.nil (SX.then (SC.cond (t := true) rfl (SC.seq (SC.region (PW.move rfl rfl rfl rfl rfl (PW.assign rfl rfl rfl rfl rfl (PW.nil (SX.then (SC.ret (SX.thenR ?_))))))))))
   have hr : dv c = ixd (c) := by unfold dv; unfold ixd at hx ⊢; repeat' split at hx; all_goals (repeat' split); all_goals omega
   rw [hr]
   exact SX.done (s := 2) (r := .vl (.int .i64 (ixd (c)))) rfl rfl rfl
  ·refine SC.region ?_
   refine PW.move rfl rfl rfl rfl rfl ?_
   refine PW.q2 (x := .tmp 14) (y := .const (.int .i64 0)) (.bool false) rfl rfl rfl rfl rfl (fun ρ W h1 h2 => by exact r_ge h1 h2 (decide_eq_false hx)) ?_
   refine PW.nil (SX.then (SC.cond (t := false) rfl (SC.skip (SX.then (SC.seq (SC.region (PW.assign rfl rfl rfl rfl rfl (PW.nil (SX.then (SC.ret ?_))))))))))
   have hr : dv c = 36 := by unfold dv; unfold ixd at hx; repeat' split at hx; all_goals (repeat' split); all_goals omega
   rw [hr]
   exact SX.done (s := 2) (r := .vl (.int .i64 36)) rfl rfl rfl
theorem ce_parse : CE 88 := fun args W => by go_simp
set_option maxHeartbeats 3200000 in
set_option maxRecDepth 100000 in
theorem k_parse_radix {s : ByteArray} {r : Int} (h : ¬ (2 ≤ r ∧ r ≤ 36)) : CallOk 88 [KV (.string s), KV (.int .i64 (r))] (KPI (parseR r (byl s))) := by
 refine CallOk.enter (l := [.vl (.string s), .vl (.int .i64 (r))]) 87 ce_parse Tryz.func88 rfl Tryz.ntmps88 (by simp) ⟨(KV.st _), rfl, (KV.st _), rfl, trivial⟩ fun w => ?_
 refine SC.seq (SC.region ?_)
 refine PW.alloc (BI 31) rfl rfl rfl rfl rfl bI ?_
 refine PW.assign rfl rfl rfl rfl rfl (PW.nil (SX.then (SC.seq (SC.block (SC.seq ?_)))))
 by_cases hr2 : r < 2
 ·refine SC.region ?_
  refine PW.move rfl rfl rfl rfl rfl ?_
  refine PW.q2 (x := .tmp 15) (y := .const (.int .i64 2)) (.bool true) rfl rfl rfl rfl rfl (fun ρ W h1 h2 => by exact r_lt h1 h2 (decide_eq_true hr2)) ?_
  refine PW.move rfl rfl rfl rfl rfl ?_
  refine PW.skip rfl rfl rfl ?_
  refine PW.skip rfl rfl rfl ?_
  refine PW.pick (t := true) rfl rfl rfl rfl rfl rfl ?_
  refine PW.assign rfl rfl rfl rfl rfl (PW.nil (SX.then (SC.cond (t := true) rfl (SC.seq (SC.region ?_)))))
  refine PW.val (r := .kw (KI (0))) rfl rfl rfl rfl (fun a W hf => ⟨.agg #[.bool false, .slice none 0 0], by go_simp, zeroI _ w W⟩) ?_
  refine PW.store (x := .tmp 21) (r := .kw (KI (0))) rfl rfl rfl rfl rfl rfl sh_I ?_
  refine PW.assign rfl rfl rfl rfl rfl (PW.nil (SX.then (SC.ret (SX.blockR (SX.thenR ?_)))))
  rw [parse_radix h]
  exact SX.done2 (s := 4) (t := 5) (r := .vl (.int .i64 1)) (.inl rfl) rfl rfl rfl rfl
 ·refine SC.region ?_
  refine PW.move rfl rfl rfl rfl rfl ?_
  refine PW.q2 (x := .tmp 15) (y := .const (.int .i64 2)) (.bool false) rfl rfl rfl rfl rfl (fun ρ W h1 h2 => by exact r_lt h1 h2 (decide_eq_false hr2)) ?_
  refine PW.move rfl rfl rfl rfl rfl (PW.move rfl rfl rfl rfl rfl ?_)
  refine PW.q2 (x := .tmp 18) (y := .const (.int .i64 36)) (.bool true) rfl rfl rfl rfl rfl (fun ρ W h1 h2 => by exact r_gt h1 h2 (decide_eq_true (by omega))) ?_
  refine PW.pick (t := false) rfl rfl rfl rfl rfl rfl ?_
  refine PW.assign rfl rfl rfl rfl rfl (PW.nil (SX.then (SC.cond (t := true) rfl (SC.seq (SC.region ?_)))))
  refine PW.val (r := .kw (KI (0))) rfl rfl rfl rfl (fun a W hf => ⟨.agg #[.bool false, .slice none 0 0], by go_simp, zeroI _ w W⟩) ?_
  refine PW.store (x := .tmp 21) (r := .kw (KI (0))) rfl rfl rfl rfl rfl rfl sh_I ?_
  refine PW.assign rfl rfl rfl rfl rfl (PW.nil (SX.then (SC.ret (SX.blockR (SX.thenR ?_)))))
  rw [parse_radix h]
  exact SX.done2 (s := 4) (t := 5) (r := .vl (.int .i64 1)) (.inl rfl) rfl rfl rfl rfl
set_option maxHeartbeats 3200000 in
set_option maxRecDepth 100000 in
theorem k_parse_long {s : ByteArray} {r : Int} (h : 2 ≤ r ∧ r ≤ 36) (hl : 20000 < s.size) : CallOk 88 [KV (.string s), KV (.int .i64 (r))] (KPI (parseR r (byl s))) := by
 refine CallOk.enter (l := [.vl (.string s), .vl (.int .i64 (r))]) 87 ce_parse Tryz.func88 rfl Tryz.ntmps88 (by simp) ⟨(KV.st _), rfl, (KV.st _), rfl, trivial⟩ fun w => ?_
 refine SC.seq (SC.region ?_)
 refine PW.alloc (BI 31) rfl rfl rfl rfl rfl bI ?_
 refine PW.assign rfl rfl rfl rfl rfl (PW.nil (SX.then (SC.seq (SC.block (SC.seq (SC.region (PW.move rfl rfl rfl rfl rfl ?_)))))))
 refine PW.q2 (x := .tmp 15) (y := .const (.int .i64 2)) (.bool false) rfl rfl rfl rfl rfl (fun ρ W h1 h2 => by exact r_lt h1 h2 (decide_eq_false (by omega))) ?_
 refine PW.move rfl rfl rfl rfl rfl (PW.move rfl rfl rfl rfl rfl ?_)
 refine PW.q2 (x := .tmp 18) (y := .const (.int .i64 36)) (.bool false) rfl rfl rfl rfl rfl (fun ρ W h1 h2 => by exact r_gt h1 h2 (decide_eq_false (by omega))) ?_
 refine PW.pick (t := false) rfl rfl rfl rfl rfl rfl ?_
 refine PW.assign rfl rfl rfl rfl rfl (PW.nil (SX.then (SC.cond (t := false) rfl (SC.seq (SC.region (PW.move rfl rfl rfl rfl rfl ?_))))))
 refine PW.qn [(.tmp 23, .string s)] (.int .i64 (s.size : Int)) rfl rfl rfl ⟨rfl, trivial⟩ (fun ρ W h => by obtain ⟨h1, _⟩ := h; exact r_slen h1) ?_
 refine PW.q2 (x := .tmp 24) (y := .const (.int .i64 20000)) (.bool true) rfl rfl rfl rfl rfl (fun ρ W h1 h2 => by exact r_gt h1 h2 (decide_eq_true (by omega))) ?_
 refine PW.assign rfl rfl rfl rfl rfl (PW.nil (SX.then (SC.cond (t := true) rfl (SC.seq (SC.region ?_)))))
 refine PW.val (r := .kw (KI (0))) rfl rfl rfl rfl (fun a W hf => ⟨.agg #[.bool false, .slice none 0 0], by go_simp, zeroI _ w W⟩) ?_
 refine PW.store (x := .tmp 26) (r := .kw (KI (0))) rfl rfl rfl rfl rfl rfl sh_I ?_
 refine PW.assign rfl rfl rfl rfl rfl (PW.nil (SX.then (SC.ret (SX.blockR (SX.thenR ?_)))))
 rw [parse_long h (by rw [byl_len]; exact hl)]
 exact SX.done2 (s := 4) (t := 5) (r := .vl (.int .i64 14)) (.inl rfl) rfl rfl rfl rfl
set_option maxHeartbeats 6400000 in
set_option maxRecDepth 100000 in
theorem k_parse_ok {s : ByteArray} {r : Int} (h : 2 ≤ r ∧ r ≤ 36) (hl : ¬ 20000 < s.size) : CallOk 88 [KV (.string s), KV (.int .i64 (r))] (KPI (parseR r (byl s))) := by
 refine CallOk.enter (l := [.vl (.string s), .vl (.int .i64 (r))]) 87 ce_parse Tryz.func88 rfl Tryz.ntmps88 (by simp) ⟨(KV.st _), rfl, (KV.st _), rfl, trivial⟩ fun w => ?_
 refine SC.seq (SC.region ?_)
 refine PW.alloc (BI 31) rfl rfl rfl rfl rfl bI ?_
 refine PW.assign rfl rfl rfl rfl rfl (PW.nil (SX.then (SC.seq (SC.block (SC.seq (SC.region (PW.move rfl rfl rfl rfl rfl ?_)))))))
 refine PW.q2 (x := .tmp 15) (y := .const (.int .i64 2)) (.bool false) rfl rfl rfl rfl rfl (fun ρ W h1 h2 => by exact r_lt h1 h2 (decide_eq_false (by omega))) ?_
 refine PW.move rfl rfl rfl rfl rfl (PW.move rfl rfl rfl rfl rfl ?_)
 refine PW.q2 (x := .tmp 18) (y := .const (.int .i64 36)) (.bool false) rfl rfl rfl rfl rfl (fun ρ W h1 h2 => by exact r_gt h1 h2 (decide_eq_false (by omega))) ?_
 refine PW.pick (t := false) rfl rfl rfl rfl rfl rfl ?_
 refine PW.assign rfl rfl rfl rfl rfl (PW.nil (SX.then (SC.cond (t := false) rfl (SC.seq (SC.region (PW.move rfl rfl rfl rfl rfl ?_))))))
 refine PW.qn [(.tmp 23, .string s)] (.int .i64 (s.size : Int)) rfl rfl rfl ⟨rfl, trivial⟩ (fun ρ W h => by obtain ⟨h1, _⟩ := h; exact r_slen h1) ?_
 refine PW.q2 (x := .tmp 24) (y := .const (.int .i64 20000)) (.bool false) rfl rfl rfl rfl rfl (fun ρ W h1 h2 => by exact r_gt h1 h2 (decide_eq_false (by omega))) ?_
 refine PW.assign rfl rfl rfl rfl rfl (PW.nil (SX.then (SC.cond (t := false) rfl (SC.skip ?_))))
 refine SX.blockN ?_
 refine SX.then (SC.seq ?_)
 by_cases hm : 0 < s.size ∧ at0 (byl s) 0 = 45
 ·refine SC.region ?_
  refine PW.move rfl rfl rfl rfl rfl ?_
  refine PW.call (r := .vl (.bool true)) rfl rfl rfl rfl rfl rfl (KV.st _) rfl (k_hasPrefix s ⟨#[45]⟩ ((pre_one s 45).trans (decide_eq_true hm))) ?_
  refine PW.assign rfl rfl rfl rfl rfl (PW.nil (SX.then (SC.seq (SC.seq (SC.region (PW.move rfl rfl rfl rfl rfl (PW.move rfl rfl rfl rfl rfl ?_)))))))
  refine PW.skip rfl rfl rfl ?_
  refine PW.skip rfl rfl rfl ?_
  refine PW.pick (t := true) rfl rfl rfl rfl rfl rfl ?_
  refine PW.nil (SX.then (SC.cond (t := true) rfl (SC.region (PW.move rfl rfl rfl rfl rfl ?_))))
  refine PW.qn [(.tmp 34, .string s), (.const (.int .i64 1), .int .i64 1)] (.string (s.extract 1 s.size)) rfl rfl rfl ⟨rfl, rfl, trivial⟩ (fun ρ W h => by obtain ⟨h1, h2, _⟩ := h; exact r_sfrom (p := 1) h1 h2 (by omega)) ?_
  refine PW.assign rfl rfl rfl rfl rfl (PW.nil (SX.then (SC.seq (SC.seq ?_))))
  obtain ⟨t, ht⟩ : ∃ t, t = s.extract 1 s.size := ⟨_, rfl⟩
  rw [← ht]
  have htl : t.size ≤ 20000 := by rw [ht, ← byl_len, byl_drop, List.length_drop, byl_len]; omega
  rw [parse_form (b := byl t) h (by rw [byl_len]; omega) (by rw [if_pos (.inl hm.2), ht, byl_drop])]
  by_cases he : t.size = 0
  ·refine SC.region ?_
   refine PW.move rfl rfl rfl rfl rfl ?_
   refine PW.q2 (x := .tmp 36) (y := .const (.string ⟨#[]⟩)) (.bool true) rfl rfl rfl rfl rfl (fun ρ W h1 h2 => by exact r_seq h1 h2 ((empty_eq t).trans (decide_eq_true he))) ?_
   refine PW.nil (SX.then (SC.cond (t := true) rfl (SC.seq (SC.region ?_))))
   refine PW.val (r := .kw (KI (0))) rfl rfl rfl rfl (fun a W hf => ⟨.agg #[.bool false, .slice none 0 0], by go_simp, zeroI _ w W⟩) ?_
   refine PW.store (x := .tmp 38) (r := .kw (KI (0))) rfl rfl rfl rfl rfl rfl sh_I ?_
   refine PW.assign rfl rfl rfl rfl rfl (PW.nil (SX.then (SC.ret (SX.thenR ?_))))
   rw [form_empty (z := 0) (by rw [byl_len]; exact he)]
   exact SX.done2 (s := 4) (t := 5) (r := .vl (.int .i64 2)) (.inl rfl) rfl rfl rfl rfl
  ·refine SC.region ?_
   refine PW.move rfl rfl rfl rfl rfl ?_
   refine PW.q2 (x := .tmp 36) (y := .const (.string ⟨#[]⟩)) (.bool false) rfl rfl rfl rfl rfl (fun ρ W h1 h2 => by exact r_seq h1 h2 ((empty_eq t).trans (decide_eq_false he))) ?_
   refine PW.nil (SX.then (SC.cond (t := false) rfl (SC.skip (SX.then (SC.seq (SC.region (PW.assign rfl rfl rfl rfl rfl (PW.nil (SX.then (SC.seq (SC.seq (SC.region (PW.move rfl rfl rfl rfl rfl ?_)))))))))))))
   refine PW.qn [(.tmp 39, .string t)] (.int .i64 (t.size : Int)) rfl rfl rfl ⟨rfl, trivial⟩ (fun ρ W h => by obtain ⟨h1, _⟩ := h; exact r_slen h1) ?_
   refine PW.move rfl rfl rfl rfl rfl (PW.nil (SX.then (SC.block ?_)))
   refine SC.weak (fun a W hf => Fr.nilrow 87 140 (.int .u32) hf) ?_
   refine SC.loop (S := Nat × Value × List Int) (fun ⟨i, v, zs⟩ => [(0, .vl (.string t)), (1, .vl (.int .i64 (r))), (4, .nb (BI 31)), (5, .vl (.int .i64 0)), (6, .vl (.bool true)), (7, .vl (v)), (40, .vl (.int .i64 (t.size : Int))), (41, .vl (.int .i64 (i : Int))), (87, .ro (v) 140 (.int .u32) (zs))]) (fun ⟨i, v, zs⟩ => PrI b32 r (byl t) i zs) (fun ⟨i, v, zs⟩ => t.size - i) (0, .slice none 0 0, []) (PrI.start b32 r (byl t)) ⟨rfl, rfl, rfl, rfl, rfl, rfl, rfl, rfl, rfl, trivial⟩ ?_
   rintro ⟨i, v, zs⟩ hP
   show SC _ _ _ _ [(0, .vl (.string t)), (1, .vl (.int .i64 (r))), (4, .nb (BI 31)), (5, .vl (.int .i64 0)), (6, .vl (.bool true)), (7, .vl (v)), (40, .vl (.int .i64 (t.size : Int))), (41, .vl (.int .i64 (i : Int))), (87, .ro (v) 140 (.int .u32) (zs))] _
   refine SC.seq ?_
   by_cases hi : (i : Int) < (t.size : Int)
   ·refine SC.region ?_
    refine PW.q2 (x := .tmp 41) (y := .tmp 40) (.bool true) rfl rfl rfl rfl rfl (fun ρ W h1 h2 => by exact r_lt h1 h2 (decide_eq_true hi)) ?_
    refine PW.nil (SX.then (SC.seq (SC.cond (t := true) rfl (SC.skip (SX.then (SC.seq (SC.block (SC.seq (SC.region (PW.move rfl rfl rfl rfl rfl (PW.assign rfl rfl rfl rfl rfl (PW.nil ?_))))))))))))
    refine SX.then (SC.seq (SC.region (PW.move rfl rfl rfl rfl rfl (PW.move rfl rfl rfl rfl rfl ?_))))
    refine PW.qn [(.tmp 44, .string t), (.tmp 45, .int .i64 (i : Int))] (.int .u8 (at0 (byl t) i)) rfl rfl rfl ⟨rfl, rfl, trivial⟩ (fun ρ W h => by obtain ⟨h1, h2, _⟩ := h; exact r_sidx h1 h2 (by omega)) ?_
    refine PW.call (r := .vl (.int .i64 (dv (at0 (byl t) i)))) rfl rfl rfl rfl rfl rfl (KV.st _) rfl (k_value (byl_byte t i).1 (byl_byte t i).2) ?_
    refine PW.assign rfl rfl rfl rfl rfl (PW.nil (SX.then (SC.seq (SC.seq ?_))))
    by_cases hd : dv (at0 (byl t) i) ≥ r
    ·refine SC.region ?_
     refine PW.move rfl rfl rfl rfl rfl (PW.move rfl rfl rfl rfl rfl ?_)
     refine PW.q2 (x := .tmp 48) (y := .tmp 49) (.bool true) rfl rfl rfl rfl rfl (fun ρ W h1 h2 => by exact r_ge h1 h2 (decide_eq_true hd)) ?_
     refine PW.nil (SX.then (SC.cond (t := true) rfl (SC.seq (SC.region ?_))))
     refine PW.val (r := .kw (KI (0))) rfl rfl rfl rfl (fun a W hf => ⟨.agg #[.bool false, .slice none 0 0], by go_simp, zeroI _ w W⟩) ?_
     refine PW.store (x := .tmp 51) (r := .kw (KI (0))) rfl rfl rfl rfl rfl rfl sh_I ?_
     refine PW.assign rfl rfl rfl rfl rfl (PW.nil (SX.then (SC.ret (SX.thenR (SX.blockR (SX.thenR (SX.thenR (SX.blockR (SX.thenR ?_)))))))))
     rw [form_bad (i := i) (by rw [byl_len]; omega) hd]
     exact SX.done2 (s := 4) (t := 5) (r := .vl (.int .i64 2)) (.inl rfl) rfl rfl rfl rfl
    ·refine SC.region ?_
     refine PW.move rfl rfl rfl rfl rfl (PW.move rfl rfl rfl rfl rfl ?_)
     refine PW.q2 (x := .tmp 48) (y := .tmp 49) (.bool false) rfl rfl rfl rfl rfl (fun ρ W h1 h2 => by exact r_ge h1 h2 (decide_eq_false hd)) ?_
     refine PW.nil (SX.then (SC.cond (t := false) rfl (SC.skip (SX.then (SC.seq (SC.region (PW.move rfl rfl rfl rfl rfl ?_)))))))
     refine PW.q1 (x := .tmp 52) (.int .u64 (dv (at0 (byl t) i))) rfl rfl rfl rfl (fun ρ W h1 => by exact r_i64u h1 (by have := dv_le (at0 (byl t) i); omega)) ?_
     refine PW.assign rfl rfl rfl rfl rfl (PW.nil (SX.then (SC.seq (SC.seq (SC.region (PW.move rfl rfl rfl rfl rfl ?_))))))
     refine PW.rlen (s := 54) 87 rfl rfl rfl rfl rfl (fun ρ W A c h => r_len h) ?_
     refine PW.move rfl rfl rfl rfl rfl (PW.nil (SX.then (SC.block ?_)))
     refine SC.loop (S := Nat × List Int × Int) (fun ⟨k, ys, cc⟩ => [(0, .vl (.string t)), (1, .vl (.int .i64 (r))), (4, .nb (BI 31)), (5, .vl (.int .i64 0)), (6, .vl (.bool true)), (7, .vl (v)), (8, .vl (.int .i64 (i : Int))), (10, .vl (.int .u64 (cc))), (40, .vl (.int .i64 (t.size : Int))), (41, .vl (.int .i64 (i : Int))), (54, .vl (v)), (55, .vl (.int .i64 (zs.length : Int))), (56, .vl (.int .i64 (k : Int))), (87, .ro (v) 140 (.int .u32) (ys))]) (fun ⟨k, ys, cc⟩ => PrJ b32 r (dv (at0 (byl t) i)) zs k ys cc) (fun ⟨k, ys, cc⟩ => zs.length - k) (0, zs, dv (at0 (byl t) i)) (PrJ.start hP.dg (dv_le _).1 (dv_le _).2) ⟨rfl, rfl, rfl, rfl, rfl, rfl, rfl, rfl, rfl, rfl, rfl, rfl, rfl, rfl, trivial⟩ ?_
     rintro ⟨k, ys, cc⟩ hJ
     show SC _ _ _ _ [(0, .vl (.string t)), (1, .vl (.int .i64 (r))), (4, .nb (BI 31)), (5, .vl (.int .i64 0)), (6, .vl (.bool true)), (7, .vl (v)), (8, .vl (.int .i64 (i : Int))), (10, .vl (.int .u64 (cc))), (40, .vl (.int .i64 (t.size : Int))), (41, .vl (.int .i64 (i : Int))), (54, .vl (v)), (55, .vl (.int .i64 (zs.length : Int))), (56, .vl (.int .i64 (k : Int))), (87, .ro (v) 140 (.int .u32) (ys))] _
     refine SC.seq ?_
     by_cases hk : (k : Int) < (zs.length : Int)
     ·refine SC.region ?_
      refine PW.q2 (x := .tmp 56) (y := .tmp 55) (.bool true) rfl rfl rfl rfl rfl (fun ρ W h1 h2 => by exact r_lt h1 h2 (decide_eq_true hk)) ?_
      refine PW.nil (SX.then (SC.seq (SC.cond (t := true) rfl (SC.skip (SX.then (SC.seq (SC.block (SC.seq (SC.region (PW.move rfl rfl rfl rfl rfl ?_))))))))))
      refine PW.ridx (i := k) 87 rfl rfl rfl rfl rfl rfl rfl (by have := hJ.len; omega) (fun ρ W g c h1 h2 => r_idx h1 h2 (by have := hJ.len; omega)) ?_
      refine PW.rget (i := k) 87 rfl rfl rfl rfl rfl rfl (by have := hJ.len; omega) r_l32 ?_
      refine PW.assign rfl rfl rfl rfl rfl (PW.assign rfl rfl rfl rfl rfl (PW.nil (SX.then (SC.seq (SC.region (PW.move rfl rfl rfl rfl rfl ?_))))))
      refine PW.q1 (x := .tmp 61) (.int .u64 (at0 ys k)) rfl rfl rfl rfl (fun ρ W h1 => by exact r_64 h1 (dg32 hJ.dg k)) ?_
      refine PW.move rfl rfl rfl rfl rfl ?_
      refine PW.q1 (x := .tmp 63) (.int .u64 (r)) rfl rfl rfl rfl (fun ρ W h1 => by exact r_i64u h1 (by omega)) ?_
      refine PW.q2 (x := .tmp 62) (y := .tmp 64) (.int .u64 (at0 ys k * r)) rfl rfl rfl rfl rfl (fun ρ W h1 h2 => by exact r_mul6 h1 h2 rfl (mulr (dg32 hJ.dg k) h)) ?_
      refine PW.move rfl rfl rfl rfl rfl ?_
      refine PW.q2 (x := .tmp 65) (y := .tmp 66) (.int .u64 (at0 ys k * r + cc)) rfl rfl rfl rfl rfl (fun ρ W h1 h2 => by exact r_add6 h1 h2 rfl (addr (dg32 hJ.dg k) h hJ.c0 hJ.c1)) ?_
      refine PW.assign rfl rfl rfl rfl rfl (PW.nil (SX.then (SC.region (PW.move rfl rfl rfl rfl rfl (PW.move rfl rfl rfl rfl rfl (PW.move rfl rfl rfl rfl rfl ?_))))))
      refine PW.q1 (x := .tmp 70) (.int .u32 ((at0 ys k * r + cc) % 4294967296)) rfl rfl rfl rfl (fun ρ W h1 => by exact r_32 h1) ?_
      refine PW.move rfl rfl rfl rfl rfl ?_
      refine PW.q2 (x := .tmp 72) (y := .const (.int .u64 32)) (.int .u64 ((at0 ys k * r + cc) / 4294967296)) rfl rfl rfl rfl rfl (fun ρ W h1 h2 => by exact r_dn32 h1 h2) ?_
      refine PW.ridx (i := k) 87 rfl rfl rfl rfl rfl rfl rfl (by have := hJ.len; omega) (fun ρ W g c h1 h2 => r_idx h1 h2 (by have := hJ.len; omega)) ?_
      refine PW.rput (i := k) (x := .tmp 71) (((at0 ys k * r + cc) % 4294967296)) 87 rfl rfl rfl rfl rfl (by have := hJ.len; omega) rfl rfl r_s32 ?_
      refine PW.assign rfl rfl rfl rfl rfl (PW.nil ?_)
      refine SX.blockN ?_
      refine SX.then (SC.region ?_)
      refine PW.q2 (x := .tmp 56) (y := .const (.int .i64 1)) (.int .i64 ((k + 1 : Nat))) rfl rfl rfl rfl rfl (fun ρ W h1 h2 => by exact r_add h1 h2 (by omega) (by have := hP.len; have := byl_len t; omega)) ?_
      refine PW.move rfl rfl rfl rfl rfl (PW.nil ?_)
      refine SX.back (k + 1, ys.set k ((at0 ys k * r + cc) % 4294967296), (at0 ys k * r + cc) / 4294967296) ?_ ?_ ?_
      ·exact (hJ.step (by decide) (by omega) h.1 h.2 rfl hP.dg)
      ·exact (show zs.length - (k + 1) < zs.length - k by omega)
      ·exact ⟨rfl, rfl, rfl, rfl, rfl, rfl, rfl, rfl, rfl, rfl, rfl, rfl, rfl, rfl, trivial⟩
     ·obtain rfl : k = zs.length := by have := hJ.le; omega
      refine SC.region ?_
      refine PW.q2 (x := .tmp 56) (y := .tmp 55) (.bool false) rfl rfl rfl rfl rfl (fun ρ W h1 h2 => by exact r_lt h1 h2 (decide_eq_false hk)) ?_
      refine PW.nil (SX.then (SC.seq (SC.cond (t := false) rfl (SC.exit (SX.thenE (SX.thenE (SX.blockE (SX.then (SC.seq ?_)))))))))
      by_cases hc : 0 < cc
      ·refine SC.region ?_
       refine PW.move rfl rfl rfl rfl rfl ?_
       refine PW.q2 (x := .tmp 76) (y := .const (.int .u64 0)) (.bool true) rfl rfl rfl rfl rfl (fun ρ W h1 h2 => by exact r_gt6 h1 h2 (decide_eq_true hc)) ?_
       refine PW.nil (SX.then (SC.cond (t := true) rfl (SC.region (PW.move rfl rfl rfl rfl rfl (PW.move rfl rfl rfl rfl rfl ?_)))))
       refine PW.q1 (x := .tmp 79) (.int .u32 (cc)) rfl rfl rfl rfl (fun ρ W h1 => by exact r_32z h1 (by have := hJ.c0; have := hJ.c1; omega)) ?_
       refine PW.app (K := 87) (f := .int .u32) [(cc)] rfl rfl rfl (fun a W hf => r_b1 (hf.vl (s := 80) rfl)) rfl rfl rfl rfl rfl rfl rfl rfl Tryz.underlying22 info_u32 rfl (fun _ => rfl) (by have l1 := hJ.len; have l2 := hP.len; have l3 := byl_len t; have l4 := hP.le; unfold maxLen; show _ + 1 ≤ _; omega) (by have l1 := hJ.len; have l2 := hP.len; have l3 := byl_len t; have l4 := hP.le; show (_ + 1) * 4 ≤ _; omega) rfl fun vq1 uq1 => ?_
       refine PW.assign rfl rfl rfl rfl rfl (PW.nil ?_)
       refine SX.blockN ?_
       refine SX.then (SC.region ?_)
       refine PW.q2 (x := .tmp 41) (y := .const (.int .i64 1)) (.int .i64 ((i + 1 : Nat))) rfl rfl rfl rfl rfl (fun ρ W h1 h2 => by exact r_add h1 h2 (by omega) (by omega)) ?_
       refine PW.move rfl rfl rfl rfl rfl (PW.nil ?_)
       refine SX.back (i + 1, vq1, ys ++ [(cc)]) ?_ ?_ ?_
       ·exact (hP.yes (by decide) (by rw [byl_len]; omega) (by omega) hJ)
       ·exact (show t.size - (i + 1) < t.size - i by omega)
       ·exact ⟨rfl, rfl, rfl, rfl, rfl, rfl, rfl, rfl, rfl, trivial⟩
      ·obtain rfl : cc = 0 := by have := hJ.c0; omega
       refine SC.region (PW.move rfl rfl rfl rfl rfl ?_)
       refine PW.q2 (x := .tmp 76) (y := .const (.int .u64 0)) (.bool false) rfl rfl rfl rfl rfl (fun ρ W h1 h2 => by exact r_gt6 h1 h2 (decide_eq_false hc)) ?_
       refine PW.nil (SX.then (SC.cond (t := false) rfl (SC.skip ?_)))
       refine SX.blockN ?_
       refine SX.then (SC.region ?_)
       refine PW.q2 (x := .tmp 41) (y := .const (.int .i64 1)) (.int .i64 ((i + 1 : Nat))) rfl rfl rfl rfl rfl (fun ρ W h1 h2 => by exact r_add h1 h2 (by omega) (by omega)) ?_
       refine PW.move rfl rfl rfl rfl rfl (PW.nil ?_)
       refine SX.back (i + 1, v, ys) ?_ ?_ ?_
       ·exact (hP.no (by rw [byl_len]; omega) (by omega) hJ)
       ·exact (show t.size - (i + 1) < t.size - i by omega)
       ·exact ⟨rfl, rfl, rfl, rfl, rfl, rfl, rfl, rfl, rfl, trivial⟩
   ·obtain rfl : i = t.size := by have := hP.le; have := byl_len t; omega
    refine SC.region ?_
    refine PW.q2 (x := .tmp 41) (y := .tmp 40) (.bool false) rfl rfl rfl rfl rfl (fun ρ W h1 h2 => by exact r_lt h1 h2 (decide_eq_false hi)) ?_
    refine PW.nil (SX.then (SC.seq (SC.cond (t := false) rfl (SC.exit (SX.thenE (SX.thenE (SX.blockE (SX.then (SC.seq (SC.region (PW.move rfl rfl rfl rfl rfl (PW.move rfl rfl rfl rfl rfl ?_))))))))))))
    refine PW.callG (r := .kw (KI (sg true (pv r 0 (byl t))))) ce_made rfl rfl rfl rfl rfl (KI.st _) rfl (fun a W hf => by have h1 := hf.vl (s := 84) rfl; have h2 := hf.vl (s := 85) rfl; have own : OwF W _ _ (.int .u32) v zs := hf.ho 87 _ rfl; obtain ⟨A4, c4, e4, hc4, rd4⟩ := Own.rd own; show Calls Tryz.prog _ #[a.tmps.getD 84 undef, a.tmps.getD 85 undef] W _; rw [h1, h2, e4, show pv r 0 (byl t) = lv b32 zs by rw [hP.lv, List.take_of_length_le (by rw [byl_len]; exact Nat.le_refl _)]]; exact made_k rd4 hc4 hP.dg) ?_
    refine PW.store (x := .tmp 86) (r := .kw (KI (sg true (pv r 0 (byl t))))) rfl rfl rfl rfl rfl rfl sh_I ?_
    refine PW.assign rfl rfl rfl rfl rfl (PW.nil (SX.then (SC.ret ?_)))
    rw [form_ok (by rw [byl_len]; exact he) (fun j hj => hP.ok j (by rw [byl_len] at hj; exact hj))]
    rw [show decide (at0 (byl s) 0 = 45) = true by exact decide_eq_true hm.2]
    exact SX.done2 (s := 4) (t := 5) (r := .vl (.int .i64 0)) (.inl rfl) rfl rfl rfl rfl
 ·refine SC.region ?_
  refine PW.move rfl rfl rfl rfl rfl ?_
  refine PW.call (r := .vl (.bool false)) rfl rfl rfl rfl rfl rfl (KV.st _) rfl (k_hasPrefix s ⟨#[45]⟩ ((pre_one s 45).trans (decide_eq_false hm))) ?_
  refine PW.assign rfl rfl rfl rfl rfl (PW.nil (SX.then (SC.seq (SC.seq ?_))))
  by_cases hp : 0 < s.size ∧ at0 (byl s) 0 = 43
  ·refine SC.region ?_
   refine PW.move rfl rfl rfl rfl rfl (PW.move rfl rfl rfl rfl rfl (PW.move rfl rfl rfl rfl rfl ?_))
   refine PW.call (r := .vl (.bool true)) rfl rfl rfl rfl rfl rfl (KV.st _) rfl (k_hasPrefix s ⟨#[43]⟩ ((pre_one s 43).trans (decide_eq_true hp))) ?_
   refine PW.pick (t := false) rfl rfl rfl rfl rfl rfl ?_
   refine PW.nil (SX.then (SC.cond (t := true) rfl (SC.region (PW.move rfl rfl rfl rfl rfl ?_))))
   refine PW.qn [(.tmp 34, .string s), (.const (.int .i64 1), .int .i64 1)] (.string (s.extract 1 s.size)) rfl rfl rfl ⟨rfl, rfl, trivial⟩ (fun ρ W h => by obtain ⟨h1, h2, _⟩ := h; exact r_sfrom (p := 1) h1 h2 (by omega)) ?_
   refine PW.assign rfl rfl rfl rfl rfl (PW.nil (SX.then (SC.seq (SC.seq ?_))))
   obtain ⟨t, ht⟩ : ∃ t, t = s.extract 1 s.size := ⟨_, rfl⟩
   rw [← ht]
   have htl : t.size ≤ 20000 := by rw [ht, ← byl_len, byl_drop, List.length_drop, byl_len]; omega
   rw [parse_form (b := byl t) h (by rw [byl_len]; omega) (by rw [if_pos (.inr hp.2), ht, byl_drop])]
   by_cases he : t.size = 0
   ·refine SC.region ?_
    refine PW.move rfl rfl rfl rfl rfl ?_
    refine PW.q2 (x := .tmp 36) (y := .const (.string ⟨#[]⟩)) (.bool true) rfl rfl rfl rfl rfl (fun ρ W h1 h2 => by exact r_seq h1 h2 ((empty_eq t).trans (decide_eq_true he))) ?_
    refine PW.nil (SX.then (SC.cond (t := true) rfl (SC.seq (SC.region ?_))))
    refine PW.val (r := .kw (KI (0))) rfl rfl rfl rfl (fun a W hf => ⟨.agg #[.bool false, .slice none 0 0], by go_simp, zeroI _ w W⟩) ?_
    refine PW.store (x := .tmp 38) (r := .kw (KI (0))) rfl rfl rfl rfl rfl rfl sh_I ?_
    refine PW.assign rfl rfl rfl rfl rfl (PW.nil (SX.then (SC.ret (SX.thenR ?_))))
    rw [form_empty (z := 0) (by rw [byl_len]; exact he)]
    exact SX.done2 (s := 4) (t := 5) (r := .vl (.int .i64 2)) (.inl rfl) rfl rfl rfl rfl
   ·refine SC.region ?_
    refine PW.move rfl rfl rfl rfl rfl ?_
    refine PW.q2 (x := .tmp 36) (y := .const (.string ⟨#[]⟩)) (.bool false) rfl rfl rfl rfl rfl (fun ρ W h1 h2 => by exact r_seq h1 h2 ((empty_eq t).trans (decide_eq_false he))) ?_
    refine PW.nil (SX.then (SC.cond (t := false) rfl (SC.skip (SX.then (SC.seq (SC.region (PW.assign rfl rfl rfl rfl rfl (PW.nil (SX.then (SC.seq (SC.seq (SC.region (PW.move rfl rfl rfl rfl rfl ?_)))))))))))))
    refine PW.qn [(.tmp 39, .string t)] (.int .i64 (t.size : Int)) rfl rfl rfl ⟨rfl, trivial⟩ (fun ρ W h => by obtain ⟨h1, _⟩ := h; exact r_slen h1) ?_
    refine PW.move rfl rfl rfl rfl rfl (PW.nil (SX.then (SC.block ?_)))
    refine SC.weak (fun a W hf => Fr.nilrow 87 140 (.int .u32) hf) ?_
    refine SC.loop (S := Nat × Value × List Int) (fun ⟨i, v, zs⟩ => [(0, .vl (.string t)), (1, .vl (.int .i64 (r))), (4, .nb (BI 31)), (5, .vl (.int .i64 0)), (6, .vl (.bool false)), (7, .vl (v)), (40, .vl (.int .i64 (t.size : Int))), (41, .vl (.int .i64 (i : Int))), (87, .ro (v) 140 (.int .u32) (zs))]) (fun ⟨i, v, zs⟩ => PrI b32 r (byl t) i zs) (fun ⟨i, v, zs⟩ => t.size - i) (0, .slice none 0 0, []) (PrI.start b32 r (byl t)) ⟨rfl, rfl, rfl, rfl, rfl, rfl, rfl, rfl, rfl, trivial⟩ ?_
    rintro ⟨i, v, zs⟩ hP
    show SC _ _ _ _ [(0, .vl (.string t)), (1, .vl (.int .i64 (r))), (4, .nb (BI 31)), (5, .vl (.int .i64 0)), (6, .vl (.bool false)), (7, .vl (v)), (40, .vl (.int .i64 (t.size : Int))), (41, .vl (.int .i64 (i : Int))), (87, .ro (v) 140 (.int .u32) (zs))] _
    refine SC.seq ?_
    by_cases hi : (i : Int) < (t.size : Int)
    ·refine SC.region ?_
     refine PW.q2 (x := .tmp 41) (y := .tmp 40) (.bool true) rfl rfl rfl rfl rfl (fun ρ W h1 h2 => by exact r_lt h1 h2 (decide_eq_true hi)) ?_
     refine PW.nil (SX.then (SC.seq (SC.cond (t := true) rfl (SC.skip (SX.then (SC.seq (SC.block (SC.seq (SC.region (PW.move rfl rfl rfl rfl rfl (PW.assign rfl rfl rfl rfl rfl (PW.nil ?_))))))))))))
     refine SX.then (SC.seq (SC.region (PW.move rfl rfl rfl rfl rfl (PW.move rfl rfl rfl rfl rfl ?_))))
     refine PW.qn [(.tmp 44, .string t), (.tmp 45, .int .i64 (i : Int))] (.int .u8 (at0 (byl t) i)) rfl rfl rfl ⟨rfl, rfl, trivial⟩ (fun ρ W h => by obtain ⟨h1, h2, _⟩ := h; exact r_sidx h1 h2 (by omega)) ?_
     refine PW.call (r := .vl (.int .i64 (dv (at0 (byl t) i)))) rfl rfl rfl rfl rfl rfl (KV.st _) rfl (k_value (byl_byte t i).1 (byl_byte t i).2) ?_
     refine PW.assign rfl rfl rfl rfl rfl (PW.nil (SX.then (SC.seq (SC.seq ?_))))
     by_cases hd : dv (at0 (byl t) i) ≥ r
     ·refine SC.region ?_
      refine PW.move rfl rfl rfl rfl rfl (PW.move rfl rfl rfl rfl rfl ?_)
      refine PW.q2 (x := .tmp 48) (y := .tmp 49) (.bool true) rfl rfl rfl rfl rfl (fun ρ W h1 h2 => by exact r_ge h1 h2 (decide_eq_true hd)) ?_
      refine PW.nil (SX.then (SC.cond (t := true) rfl (SC.seq (SC.region ?_))))
      refine PW.val (r := .kw (KI (0))) rfl rfl rfl rfl (fun a W hf => ⟨.agg #[.bool false, .slice none 0 0], by go_simp, zeroI _ w W⟩) ?_
      refine PW.store (x := .tmp 51) (r := .kw (KI (0))) rfl rfl rfl rfl rfl rfl sh_I ?_
      refine PW.assign rfl rfl rfl rfl rfl (PW.nil (SX.then (SC.ret (SX.thenR (SX.blockR (SX.thenR (SX.thenR (SX.blockR (SX.thenR ?_)))))))))
      rw [form_bad (i := i) (by rw [byl_len]; omega) hd]
      exact SX.done2 (s := 4) (t := 5) (r := .vl (.int .i64 2)) (.inl rfl) rfl rfl rfl rfl
     ·refine SC.region ?_
      refine PW.move rfl rfl rfl rfl rfl (PW.move rfl rfl rfl rfl rfl ?_)
      refine PW.q2 (x := .tmp 48) (y := .tmp 49) (.bool false) rfl rfl rfl rfl rfl (fun ρ W h1 h2 => by exact r_ge h1 h2 (decide_eq_false hd)) ?_
      refine PW.nil (SX.then (SC.cond (t := false) rfl (SC.skip (SX.then (SC.seq (SC.region (PW.move rfl rfl rfl rfl rfl ?_)))))))
      refine PW.q1 (x := .tmp 52) (.int .u64 (dv (at0 (byl t) i))) rfl rfl rfl rfl (fun ρ W h1 => by exact r_i64u h1 (by have := dv_le (at0 (byl t) i); omega)) ?_
      refine PW.assign rfl rfl rfl rfl rfl (PW.nil (SX.then (SC.seq (SC.seq (SC.region (PW.move rfl rfl rfl rfl rfl ?_))))))
      refine PW.rlen (s := 54) 87 rfl rfl rfl rfl rfl (fun ρ W A c h => r_len h) ?_
      refine PW.move rfl rfl rfl rfl rfl (PW.nil (SX.then (SC.block ?_)))
      refine SC.loop (S := Nat × List Int × Int) (fun ⟨k, ys, cc⟩ => [(0, .vl (.string t)), (1, .vl (.int .i64 (r))), (4, .nb (BI 31)), (5, .vl (.int .i64 0)), (6, .vl (.bool false)), (7, .vl (v)), (8, .vl (.int .i64 (i : Int))), (10, .vl (.int .u64 (cc))), (40, .vl (.int .i64 (t.size : Int))), (41, .vl (.int .i64 (i : Int))), (54, .vl (v)), (55, .vl (.int .i64 (zs.length : Int))), (56, .vl (.int .i64 (k : Int))), (87, .ro (v) 140 (.int .u32) (ys))]) (fun ⟨k, ys, cc⟩ => PrJ b32 r (dv (at0 (byl t) i)) zs k ys cc) (fun ⟨k, ys, cc⟩ => zs.length - k) (0, zs, dv (at0 (byl t) i)) (PrJ.start hP.dg (dv_le _).1 (dv_le _).2) ⟨rfl, rfl, rfl, rfl, rfl, rfl, rfl, rfl, rfl, rfl, rfl, rfl, rfl, rfl, trivial⟩ ?_
      rintro ⟨k, ys, cc⟩ hJ
      show SC _ _ _ _ [(0, .vl (.string t)), (1, .vl (.int .i64 (r))), (4, .nb (BI 31)), (5, .vl (.int .i64 0)), (6, .vl (.bool false)), (7, .vl (v)), (8, .vl (.int .i64 (i : Int))), (10, .vl (.int .u64 (cc))), (40, .vl (.int .i64 (t.size : Int))), (41, .vl (.int .i64 (i : Int))), (54, .vl (v)), (55, .vl (.int .i64 (zs.length : Int))), (56, .vl (.int .i64 (k : Int))), (87, .ro (v) 140 (.int .u32) (ys))] _
      refine SC.seq ?_
      by_cases hk : (k : Int) < (zs.length : Int)
      ·refine SC.region ?_
       refine PW.q2 (x := .tmp 56) (y := .tmp 55) (.bool true) rfl rfl rfl rfl rfl (fun ρ W h1 h2 => by exact r_lt h1 h2 (decide_eq_true hk)) ?_
       refine PW.nil (SX.then (SC.seq (SC.cond (t := true) rfl (SC.skip (SX.then (SC.seq (SC.block (SC.seq (SC.region (PW.move rfl rfl rfl rfl rfl ?_))))))))))
       refine PW.ridx (i := k) 87 rfl rfl rfl rfl rfl rfl rfl (by have := hJ.len; omega) (fun ρ W g c h1 h2 => r_idx h1 h2 (by have := hJ.len; omega)) ?_
       refine PW.rget (i := k) 87 rfl rfl rfl rfl rfl rfl (by have := hJ.len; omega) r_l32 ?_
       refine PW.assign rfl rfl rfl rfl rfl (PW.assign rfl rfl rfl rfl rfl (PW.nil (SX.then (SC.seq (SC.region (PW.move rfl rfl rfl rfl rfl ?_))))))
       refine PW.q1 (x := .tmp 61) (.int .u64 (at0 ys k)) rfl rfl rfl rfl (fun ρ W h1 => by exact r_64 h1 (dg32 hJ.dg k)) ?_
       refine PW.move rfl rfl rfl rfl rfl ?_
       refine PW.q1 (x := .tmp 63) (.int .u64 (r)) rfl rfl rfl rfl (fun ρ W h1 => by exact r_i64u h1 (by omega)) ?_
       refine PW.q2 (x := .tmp 62) (y := .tmp 64) (.int .u64 (at0 ys k * r)) rfl rfl rfl rfl rfl (fun ρ W h1 h2 => by exact r_mul6 h1 h2 rfl (mulr (dg32 hJ.dg k) h)) ?_
       refine PW.move rfl rfl rfl rfl rfl ?_
       refine PW.q2 (x := .tmp 65) (y := .tmp 66) (.int .u64 (at0 ys k * r + cc)) rfl rfl rfl rfl rfl (fun ρ W h1 h2 => by exact r_add6 h1 h2 rfl (addr (dg32 hJ.dg k) h hJ.c0 hJ.c1)) ?_
       refine PW.assign rfl rfl rfl rfl rfl (PW.nil (SX.then (SC.region (PW.move rfl rfl rfl rfl rfl (PW.move rfl rfl rfl rfl rfl (PW.move rfl rfl rfl rfl rfl ?_))))))
       refine PW.q1 (x := .tmp 70) (.int .u32 ((at0 ys k * r + cc) % 4294967296)) rfl rfl rfl rfl (fun ρ W h1 => by exact r_32 h1) ?_
       refine PW.move rfl rfl rfl rfl rfl ?_
       refine PW.q2 (x := .tmp 72) (y := .const (.int .u64 32)) (.int .u64 ((at0 ys k * r + cc) / 4294967296)) rfl rfl rfl rfl rfl (fun ρ W h1 h2 => by exact r_dn32 h1 h2) ?_
       refine PW.ridx (i := k) 87 rfl rfl rfl rfl rfl rfl rfl (by have := hJ.len; omega) (fun ρ W g c h1 h2 => r_idx h1 h2 (by have := hJ.len; omega)) ?_
       refine PW.rput (i := k) (x := .tmp 71) (((at0 ys k * r + cc) % 4294967296)) 87 rfl rfl rfl rfl rfl (by have := hJ.len; omega) rfl rfl r_s32 ?_
       refine PW.assign rfl rfl rfl rfl rfl (PW.nil ?_)
       refine SX.blockN ?_
       refine SX.then (SC.region ?_)
       refine PW.q2 (x := .tmp 56) (y := .const (.int .i64 1)) (.int .i64 ((k + 1 : Nat))) rfl rfl rfl rfl rfl (fun ρ W h1 h2 => by exact r_add h1 h2 (by omega) (by have := hP.len; have := byl_len t; omega)) ?_
       refine PW.move rfl rfl rfl rfl rfl (PW.nil ?_)
       refine SX.back (k + 1, ys.set k ((at0 ys k * r + cc) % 4294967296), (at0 ys k * r + cc) / 4294967296) ?_ ?_ ?_
       ·exact (hJ.step (by decide) (by omega) h.1 h.2 rfl hP.dg)
       ·exact (show zs.length - (k + 1) < zs.length - k by omega)
       ·exact ⟨rfl, rfl, rfl, rfl, rfl, rfl, rfl, rfl, rfl, rfl, rfl, rfl, rfl, rfl, trivial⟩
      ·obtain rfl : k = zs.length := by have := hJ.le; omega
       refine SC.region ?_
       refine PW.q2 (x := .tmp 56) (y := .tmp 55) (.bool false) rfl rfl rfl rfl rfl (fun ρ W h1 h2 => by exact r_lt h1 h2 (decide_eq_false hk)) ?_
       refine PW.nil (SX.then (SC.seq (SC.cond (t := false) rfl (SC.exit (SX.thenE (SX.thenE (SX.blockE (SX.then (SC.seq ?_)))))))))
       by_cases hc : 0 < cc
       ·refine SC.region ?_
        refine PW.move rfl rfl rfl rfl rfl ?_
        refine PW.q2 (x := .tmp 76) (y := .const (.int .u64 0)) (.bool true) rfl rfl rfl rfl rfl (fun ρ W h1 h2 => by exact r_gt6 h1 h2 (decide_eq_true hc)) ?_
        refine PW.nil (SX.then (SC.cond (t := true) rfl (SC.region (PW.move rfl rfl rfl rfl rfl (PW.move rfl rfl rfl rfl rfl ?_)))))
        refine PW.q1 (x := .tmp 79) (.int .u32 (cc)) rfl rfl rfl rfl (fun ρ W h1 => by exact r_32z h1 (by have := hJ.c0; have := hJ.c1; omega)) ?_
        refine PW.app (K := 87) (f := .int .u32) [(cc)] rfl rfl rfl (fun a W hf => r_b1 (hf.vl (s := 80) rfl)) rfl rfl rfl rfl rfl rfl rfl rfl Tryz.underlying22 info_u32 rfl (fun _ => rfl) (by have l1 := hJ.len; have l2 := hP.len; have l3 := byl_len t; have l4 := hP.le; unfold maxLen; show _ + 1 ≤ _; omega) (by have l1 := hJ.len; have l2 := hP.len; have l3 := byl_len t; have l4 := hP.le; show (_ + 1) * 4 ≤ _; omega) rfl fun vq2 uq2 => ?_
        refine PW.assign rfl rfl rfl rfl rfl (PW.nil ?_)
        refine SX.blockN ?_
        refine SX.then (SC.region ?_)
        refine PW.q2 (x := .tmp 41) (y := .const (.int .i64 1)) (.int .i64 ((i + 1 : Nat))) rfl rfl rfl rfl rfl (fun ρ W h1 h2 => by exact r_add h1 h2 (by omega) (by omega)) ?_
        refine PW.move rfl rfl rfl rfl rfl (PW.nil ?_)
        refine SX.back (i + 1, vq2, ys ++ [(cc)]) ?_ ?_ ?_
        ·exact (hP.yes (by decide) (by rw [byl_len]; omega) (by omega) hJ)
        ·exact (show t.size - (i + 1) < t.size - i by omega)
        ·exact ⟨rfl, rfl, rfl, rfl, rfl, rfl, rfl, rfl, rfl, trivial⟩
       ·obtain rfl : cc = 0 := by have := hJ.c0; omega
        refine SC.region (PW.move rfl rfl rfl rfl rfl ?_)
        refine PW.q2 (x := .tmp 76) (y := .const (.int .u64 0)) (.bool false) rfl rfl rfl rfl rfl (fun ρ W h1 h2 => by exact r_gt6 h1 h2 (decide_eq_false hc)) ?_
        refine PW.nil (SX.then (SC.cond (t := false) rfl (SC.skip ?_)))
        refine SX.blockN ?_
        refine SX.then (SC.region ?_)
        refine PW.q2 (x := .tmp 41) (y := .const (.int .i64 1)) (.int .i64 ((i + 1 : Nat))) rfl rfl rfl rfl rfl (fun ρ W h1 h2 => by exact r_add h1 h2 (by omega) (by omega)) ?_
        refine PW.move rfl rfl rfl rfl rfl (PW.nil ?_)
        refine SX.back (i + 1, v, ys) ?_ ?_ ?_
        ·exact (hP.no (by rw [byl_len]; omega) (by omega) hJ)
        ·exact (show t.size - (i + 1) < t.size - i by omega)
        ·exact ⟨rfl, rfl, rfl, rfl, rfl, rfl, rfl, rfl, rfl, trivial⟩
    ·obtain rfl : i = t.size := by have := hP.le; have := byl_len t; omega
     refine SC.region ?_
     refine PW.q2 (x := .tmp 41) (y := .tmp 40) (.bool false) rfl rfl rfl rfl rfl (fun ρ W h1 h2 => by exact r_lt h1 h2 (decide_eq_false hi)) ?_
     refine PW.nil (SX.then (SC.seq (SC.cond (t := false) rfl (SC.exit (SX.thenE (SX.thenE (SX.blockE (SX.then (SC.seq (SC.region (PW.move rfl rfl rfl rfl rfl (PW.move rfl rfl rfl rfl rfl ?_))))))))))))
     refine PW.callG (r := .kw (KI (sg false (pv r 0 (byl t))))) ce_made rfl rfl rfl rfl rfl (KI.st _) rfl (fun a W hf => by have h1 := hf.vl (s := 84) rfl; have h2 := hf.vl (s := 85) rfl; have own : OwF W _ _ (.int .u32) v zs := hf.ho 87 _ rfl; obtain ⟨A4, c4, e4, hc4, rd4⟩ := Own.rd own; show Calls Tryz.prog _ #[a.tmps.getD 84 undef, a.tmps.getD 85 undef] W _; rw [h1, h2, e4, show pv r 0 (byl t) = lv b32 zs by rw [hP.lv, List.take_of_length_le (by rw [byl_len]; exact Nat.le_refl _)]]; exact made_k rd4 hc4 hP.dg) ?_
     refine PW.store (x := .tmp 86) (r := .kw (KI (sg false (pv r 0 (byl t))))) rfl rfl rfl rfl rfl rfl sh_I ?_
     refine PW.assign rfl rfl rfl rfl rfl (PW.nil (SX.then (SC.ret ?_)))
     rw [form_ok (by rw [byl_len]; exact he) (fun j hj => hP.ok j (by rw [byl_len] at hj; exact hj))]
     rw [show decide (at0 (byl s) 0 = 45) = false by exact decide_eq_false (fun h9 => hm ⟨pos_of_at0 h9 (by decide), h9⟩)]
     exact SX.done2 (s := 4) (t := 5) (r := .vl (.int .i64 0)) (.inl rfl) rfl rfl rfl rfl
  ·refine SC.region ?_
   refine PW.move rfl rfl rfl rfl rfl (PW.move rfl rfl rfl rfl rfl (PW.move rfl rfl rfl rfl rfl ?_))
   refine PW.call (r := .vl (.bool false)) rfl rfl rfl rfl rfl rfl (KV.st _) rfl (k_hasPrefix s ⟨#[43]⟩ ((pre_one s 43).trans (decide_eq_false hp))) ?_
   refine PW.pick (t := false) rfl rfl rfl rfl rfl rfl ?_
   refine PW.nil (SX.then (SC.cond (t := false) rfl (SC.skip (SX.then (SC.seq (SC.seq ?_))))))
   obtain ⟨t, ht⟩ : ∃ t, t = s := ⟨_, rfl⟩
   subst ht
   have htl : t.size ≤ 20000 := by omega
   rw [parse_form (b := byl t) h (by rw [byl_len]; omega) ((if_neg (fun h9 => h9.elim (fun h9 => hm ⟨pos_of_at0 h9 (by decide), h9⟩) (fun h9 => hp ⟨pos_of_at0 h9 (by decide), h9⟩))).symm)]
   by_cases he : t.size = 0
   ·refine SC.region ?_
    refine PW.move rfl rfl rfl rfl rfl ?_
    refine PW.q2 (x := .tmp 36) (y := .const (.string ⟨#[]⟩)) (.bool true) rfl rfl rfl rfl rfl (fun ρ W h1 h2 => by exact r_seq h1 h2 ((empty_eq t).trans (decide_eq_true he))) ?_
    refine PW.nil (SX.then (SC.cond (t := true) rfl (SC.seq (SC.region ?_))))
    refine PW.val (r := .kw (KI (0))) rfl rfl rfl rfl (fun a W hf => ⟨.agg #[.bool false, .slice none 0 0], by go_simp, zeroI _ w W⟩) ?_
    refine PW.store (x := .tmp 38) (r := .kw (KI (0))) rfl rfl rfl rfl rfl rfl sh_I ?_
    refine PW.assign rfl rfl rfl rfl rfl (PW.nil (SX.then (SC.ret (SX.thenR ?_))))
    rw [form_empty (z := 0) (by rw [byl_len]; exact he)]
    exact SX.done2 (s := 4) (t := 5) (r := .vl (.int .i64 2)) (.inl rfl) rfl rfl rfl rfl
   ·refine SC.region ?_
    refine PW.move rfl rfl rfl rfl rfl ?_
    refine PW.q2 (x := .tmp 36) (y := .const (.string ⟨#[]⟩)) (.bool false) rfl rfl rfl rfl rfl (fun ρ W h1 h2 => by exact r_seq h1 h2 ((empty_eq t).trans (decide_eq_false he))) ?_
    refine PW.nil (SX.then (SC.cond (t := false) rfl (SC.skip (SX.then (SC.seq (SC.region (PW.assign rfl rfl rfl rfl rfl (PW.nil (SX.then (SC.seq (SC.seq (SC.region (PW.move rfl rfl rfl rfl rfl ?_)))))))))))))
    refine PW.qn [(.tmp 39, .string t)] (.int .i64 (t.size : Int)) rfl rfl rfl ⟨rfl, trivial⟩ (fun ρ W h => by obtain ⟨h1, _⟩ := h; exact r_slen h1) ?_
    refine PW.move rfl rfl rfl rfl rfl (PW.nil (SX.then (SC.block ?_)))
    refine SC.weak (fun a W hf => Fr.nilrow 87 140 (.int .u32) hf) ?_
    refine SC.loop (S := Nat × Value × List Int) (fun ⟨i, v, zs⟩ => [(0, .vl (.string t)), (1, .vl (.int .i64 (r))), (4, .nb (BI 31)), (5, .vl (.int .i64 0)), (6, .vl (.bool false)), (7, .vl (v)), (40, .vl (.int .i64 (t.size : Int))), (41, .vl (.int .i64 (i : Int))), (87, .ro (v) 140 (.int .u32) (zs))]) (fun ⟨i, v, zs⟩ => PrI b32 r (byl t) i zs) (fun ⟨i, v, zs⟩ => t.size - i) (0, .slice none 0 0, []) (PrI.start b32 r (byl t)) ⟨rfl, rfl, rfl, rfl, rfl, rfl, rfl, rfl, rfl, trivial⟩ ?_
    rintro ⟨i, v, zs⟩ hP
    show SC _ _ _ _ [(0, .vl (.string t)), (1, .vl (.int .i64 (r))), (4, .nb (BI 31)), (5, .vl (.int .i64 0)), (6, .vl (.bool false)), (7, .vl (v)), (40, .vl (.int .i64 (t.size : Int))), (41, .vl (.int .i64 (i : Int))), (87, .ro (v) 140 (.int .u32) (zs))] _
    refine SC.seq ?_
    by_cases hi : (i : Int) < (t.size : Int)
    ·refine SC.region ?_
     refine PW.q2 (x := .tmp 41) (y := .tmp 40) (.bool true) rfl rfl rfl rfl rfl (fun ρ W h1 h2 => by exact r_lt h1 h2 (decide_eq_true hi)) ?_
     refine PW.nil (SX.then (SC.seq (SC.cond (t := true) rfl (SC.skip (SX.then (SC.seq (SC.block (SC.seq (SC.region (PW.move rfl rfl rfl rfl rfl (PW.assign rfl rfl rfl rfl rfl (PW.nil ?_))))))))))))
     refine SX.then (SC.seq (SC.region (PW.move rfl rfl rfl rfl rfl (PW.move rfl rfl rfl rfl rfl ?_))))
     refine PW.qn [(.tmp 44, .string t), (.tmp 45, .int .i64 (i : Int))] (.int .u8 (at0 (byl t) i)) rfl rfl rfl ⟨rfl, rfl, trivial⟩ (fun ρ W h => by obtain ⟨h1, h2, _⟩ := h; exact r_sidx h1 h2 (by omega)) ?_
     refine PW.call (r := .vl (.int .i64 (dv (at0 (byl t) i)))) rfl rfl rfl rfl rfl rfl (KV.st _) rfl (k_value (byl_byte t i).1 (byl_byte t i).2) ?_
     refine PW.assign rfl rfl rfl rfl rfl (PW.nil (SX.then (SC.seq (SC.seq ?_))))
     by_cases hd : dv (at0 (byl t) i) ≥ r
     ·refine SC.region ?_
      refine PW.move rfl rfl rfl rfl rfl (PW.move rfl rfl rfl rfl rfl ?_)
      refine PW.q2 (x := .tmp 48) (y := .tmp 49) (.bool true) rfl rfl rfl rfl rfl (fun ρ W h1 h2 => by exact r_ge h1 h2 (decide_eq_true hd)) ?_
      refine PW.nil (SX.then (SC.cond (t := true) rfl (SC.seq (SC.region ?_))))
      refine PW.val (r := .kw (KI (0))) rfl rfl rfl rfl (fun a W hf => ⟨.agg #[.bool false, .slice none 0 0], by go_simp, zeroI _ w W⟩) ?_
      refine PW.store (x := .tmp 51) (r := .kw (KI (0))) rfl rfl rfl rfl rfl rfl sh_I ?_
      refine PW.assign rfl rfl rfl rfl rfl (PW.nil (SX.then (SC.ret (SX.thenR (SX.blockR (SX.thenR (SX.thenR (SX.blockR (SX.thenR ?_)))))))))
      rw [form_bad (i := i) (by rw [byl_len]; omega) hd]
      exact SX.done2 (s := 4) (t := 5) (r := .vl (.int .i64 2)) (.inl rfl) rfl rfl rfl rfl
     ·refine SC.region ?_
      refine PW.move rfl rfl rfl rfl rfl (PW.move rfl rfl rfl rfl rfl ?_)
      refine PW.q2 (x := .tmp 48) (y := .tmp 49) (.bool false) rfl rfl rfl rfl rfl (fun ρ W h1 h2 => by exact r_ge h1 h2 (decide_eq_false hd)) ?_
      refine PW.nil (SX.then (SC.cond (t := false) rfl (SC.skip (SX.then (SC.seq (SC.region (PW.move rfl rfl rfl rfl rfl ?_)))))))
      refine PW.q1 (x := .tmp 52) (.int .u64 (dv (at0 (byl t) i))) rfl rfl rfl rfl (fun ρ W h1 => by exact r_i64u h1 (by have := dv_le (at0 (byl t) i); omega)) ?_
      refine PW.assign rfl rfl rfl rfl rfl (PW.nil (SX.then (SC.seq (SC.seq (SC.region (PW.move rfl rfl rfl rfl rfl ?_))))))
      refine PW.rlen (s := 54) 87 rfl rfl rfl rfl rfl (fun ρ W A c h => r_len h) ?_
      refine PW.move rfl rfl rfl rfl rfl (PW.nil (SX.then (SC.block ?_)))
      refine SC.loop (S := Nat × List Int × Int) (fun ⟨k, ys, cc⟩ => [(0, .vl (.string t)), (1, .vl (.int .i64 (r))), (4, .nb (BI 31)), (5, .vl (.int .i64 0)), (6, .vl (.bool false)), (7, .vl (v)), (8, .vl (.int .i64 (i : Int))), (10, .vl (.int .u64 (cc))), (40, .vl (.int .i64 (t.size : Int))), (41, .vl (.int .i64 (i : Int))), (54, .vl (v)), (55, .vl (.int .i64 (zs.length : Int))), (56, .vl (.int .i64 (k : Int))), (87, .ro (v) 140 (.int .u32) (ys))]) (fun ⟨k, ys, cc⟩ => PrJ b32 r (dv (at0 (byl t) i)) zs k ys cc) (fun ⟨k, ys, cc⟩ => zs.length - k) (0, zs, dv (at0 (byl t) i)) (PrJ.start hP.dg (dv_le _).1 (dv_le _).2) ⟨rfl, rfl, rfl, rfl, rfl, rfl, rfl, rfl, rfl, rfl, rfl, rfl, rfl, rfl, trivial⟩ ?_
      rintro ⟨k, ys, cc⟩ hJ
      show SC _ _ _ _ [(0, .vl (.string t)), (1, .vl (.int .i64 (r))), (4, .nb (BI 31)), (5, .vl (.int .i64 0)), (6, .vl (.bool false)), (7, .vl (v)), (8, .vl (.int .i64 (i : Int))), (10, .vl (.int .u64 (cc))), (40, .vl (.int .i64 (t.size : Int))), (41, .vl (.int .i64 (i : Int))), (54, .vl (v)), (55, .vl (.int .i64 (zs.length : Int))), (56, .vl (.int .i64 (k : Int))), (87, .ro (v) 140 (.int .u32) (ys))] _
      refine SC.seq ?_
      by_cases hk : (k : Int) < (zs.length : Int)
      ·refine SC.region ?_
       refine PW.q2 (x := .tmp 56) (y := .tmp 55) (.bool true) rfl rfl rfl rfl rfl (fun ρ W h1 h2 => by exact r_lt h1 h2 (decide_eq_true hk)) ?_
       refine PW.nil (SX.then (SC.seq (SC.cond (t := true) rfl (SC.skip (SX.then (SC.seq (SC.block (SC.seq (SC.region (PW.move rfl rfl rfl rfl rfl ?_))))))))))
       refine PW.ridx (i := k) 87 rfl rfl rfl rfl rfl rfl rfl (by have := hJ.len; omega) (fun ρ W g c h1 h2 => r_idx h1 h2 (by have := hJ.len; omega)) ?_
       refine PW.rget (i := k) 87 rfl rfl rfl rfl rfl rfl (by have := hJ.len; omega) r_l32 ?_
       refine PW.assign rfl rfl rfl rfl rfl (PW.assign rfl rfl rfl rfl rfl (PW.nil (SX.then (SC.seq (SC.region (PW.move rfl rfl rfl rfl rfl ?_))))))
       refine PW.q1 (x := .tmp 61) (.int .u64 (at0 ys k)) rfl rfl rfl rfl (fun ρ W h1 => by exact r_64 h1 (dg32 hJ.dg k)) ?_
       refine PW.move rfl rfl rfl rfl rfl ?_
       refine PW.q1 (x := .tmp 63) (.int .u64 (r)) rfl rfl rfl rfl (fun ρ W h1 => by exact r_i64u h1 (by omega)) ?_
       refine PW.q2 (x := .tmp 62) (y := .tmp 64) (.int .u64 (at0 ys k * r)) rfl rfl rfl rfl rfl (fun ρ W h1 h2 => by exact r_mul6 h1 h2 rfl (mulr (dg32 hJ.dg k) h)) ?_
       refine PW.move rfl rfl rfl rfl rfl ?_
       refine PW.q2 (x := .tmp 65) (y := .tmp 66) (.int .u64 (at0 ys k * r + cc)) rfl rfl rfl rfl rfl (fun ρ W h1 h2 => by exact r_add6 h1 h2 rfl (addr (dg32 hJ.dg k) h hJ.c0 hJ.c1)) ?_
       refine PW.assign rfl rfl rfl rfl rfl (PW.nil (SX.then (SC.region (PW.move rfl rfl rfl rfl rfl (PW.move rfl rfl rfl rfl rfl (PW.move rfl rfl rfl rfl rfl ?_))))))
       refine PW.q1 (x := .tmp 70) (.int .u32 ((at0 ys k * r + cc) % 4294967296)) rfl rfl rfl rfl (fun ρ W h1 => by exact r_32 h1) ?_
       refine PW.move rfl rfl rfl rfl rfl ?_
       refine PW.q2 (x := .tmp 72) (y := .const (.int .u64 32)) (.int .u64 ((at0 ys k * r + cc) / 4294967296)) rfl rfl rfl rfl rfl (fun ρ W h1 h2 => by exact r_dn32 h1 h2) ?_
       refine PW.ridx (i := k) 87 rfl rfl rfl rfl rfl rfl rfl (by have := hJ.len; omega) (fun ρ W g c h1 h2 => r_idx h1 h2 (by have := hJ.len; omega)) ?_
       refine PW.rput (i := k) (x := .tmp 71) (((at0 ys k * r + cc) % 4294967296)) 87 rfl rfl rfl rfl rfl (by have := hJ.len; omega) rfl rfl r_s32 ?_
       refine PW.assign rfl rfl rfl rfl rfl (PW.nil ?_)
       refine SX.blockN ?_
       refine SX.then (SC.region ?_)
       refine PW.q2 (x := .tmp 56) (y := .const (.int .i64 1)) (.int .i64 ((k + 1 : Nat))) rfl rfl rfl rfl rfl (fun ρ W h1 h2 => by exact r_add h1 h2 (by omega) (by have := hP.len; have := byl_len t; omega)) ?_
       refine PW.move rfl rfl rfl rfl rfl (PW.nil ?_)
       refine SX.back (k + 1, ys.set k ((at0 ys k * r + cc) % 4294967296), (at0 ys k * r + cc) / 4294967296) ?_ ?_ ?_
       ·exact (hJ.step (by decide) (by omega) h.1 h.2 rfl hP.dg)
       ·exact (show zs.length - (k + 1) < zs.length - k by omega)
       ·exact ⟨rfl, rfl, rfl, rfl, rfl, rfl, rfl, rfl, rfl, rfl, rfl, rfl, rfl, rfl, trivial⟩
      ·obtain rfl : k = zs.length := by have := hJ.le; omega
       refine SC.region ?_
       refine PW.q2 (x := .tmp 56) (y := .tmp 55) (.bool false) rfl rfl rfl rfl rfl (fun ρ W h1 h2 => by exact r_lt h1 h2 (decide_eq_false hk)) ?_
       refine PW.nil (SX.then (SC.seq (SC.cond (t := false) rfl (SC.exit (SX.thenE (SX.thenE (SX.blockE (SX.then (SC.seq ?_)))))))))
       by_cases hc : 0 < cc
       ·refine SC.region ?_
        refine PW.move rfl rfl rfl rfl rfl ?_
        refine PW.q2 (x := .tmp 76) (y := .const (.int .u64 0)) (.bool true) rfl rfl rfl rfl rfl (fun ρ W h1 h2 => by exact r_gt6 h1 h2 (decide_eq_true hc)) ?_
        refine PW.nil (SX.then (SC.cond (t := true) rfl (SC.region (PW.move rfl rfl rfl rfl rfl (PW.move rfl rfl rfl rfl rfl ?_)))))
        refine PW.q1 (x := .tmp 79) (.int .u32 (cc)) rfl rfl rfl rfl (fun ρ W h1 => by exact r_32z h1 (by have := hJ.c0; have := hJ.c1; omega)) ?_
        refine PW.app (K := 87) (f := .int .u32) [(cc)] rfl rfl rfl (fun a W hf => r_b1 (hf.vl (s := 80) rfl)) rfl rfl rfl rfl rfl rfl rfl rfl Tryz.underlying22 info_u32 rfl (fun _ => rfl) (by have l1 := hJ.len; have l2 := hP.len; have l3 := byl_len t; have l4 := hP.le; unfold maxLen; show _ + 1 ≤ _; omega) (by have l1 := hJ.len; have l2 := hP.len; have l3 := byl_len t; have l4 := hP.le; show (_ + 1) * 4 ≤ _; omega) rfl fun vq3 uq3 => ?_
        refine PW.assign rfl rfl rfl rfl rfl (PW.nil ?_)
        refine SX.blockN ?_
        refine SX.then (SC.region ?_)
        refine PW.q2 (x := .tmp 41) (y := .const (.int .i64 1)) (.int .i64 ((i + 1 : Nat))) rfl rfl rfl rfl rfl (fun ρ W h1 h2 => by exact r_add h1 h2 (by omega) (by omega)) ?_
        refine PW.move rfl rfl rfl rfl rfl (PW.nil ?_)
        refine SX.back (i + 1, vq3, ys ++ [(cc)]) ?_ ?_ ?_
        ·exact (hP.yes (by decide) (by rw [byl_len]; omega) (by omega) hJ)
        ·exact (show t.size - (i + 1) < t.size - i by omega)
        ·exact ⟨rfl, rfl, rfl, rfl, rfl, rfl, rfl, rfl, rfl, trivial⟩
       ·obtain rfl : cc = 0 := by have := hJ.c0; omega
        refine SC.region (PW.move rfl rfl rfl rfl rfl ?_)
        refine PW.q2 (x := .tmp 76) (y := .const (.int .u64 0)) (.bool false) rfl rfl rfl rfl rfl (fun ρ W h1 h2 => by exact r_gt6 h1 h2 (decide_eq_false hc)) ?_
        refine PW.nil (SX.then (SC.cond (t := false) rfl (SC.skip ?_)))
        refine SX.blockN ?_
        refine SX.then (SC.region ?_)
        refine PW.q2 (x := .tmp 41) (y := .const (.int .i64 1)) (.int .i64 ((i + 1 : Nat))) rfl rfl rfl rfl rfl (fun ρ W h1 h2 => by exact r_add h1 h2 (by omega) (by omega)) ?_
        refine PW.move rfl rfl rfl rfl rfl (PW.nil ?_)
        refine SX.back (i + 1, v, ys) ?_ ?_ ?_
        ·exact (hP.no (by rw [byl_len]; omega) (by omega) hJ)
        ·exact (show t.size - (i + 1) < t.size - i by omega)
        ·exact ⟨rfl, rfl, rfl, rfl, rfl, rfl, rfl, rfl, rfl, trivial⟩
    ·obtain rfl : i = t.size := by have := hP.le; have := byl_len t; omega
     refine SC.region ?_
     refine PW.q2 (x := .tmp 41) (y := .tmp 40) (.bool false) rfl rfl rfl rfl rfl (fun ρ W h1 h2 => by exact r_lt h1 h2 (decide_eq_false hi)) ?_
     refine PW.nil (SX.then (SC.seq (SC.cond (t := false) rfl (SC.exit (SX.thenE (SX.thenE (SX.blockE (SX.then (SC.seq (SC.region (PW.move rfl rfl rfl rfl rfl (PW.move rfl rfl rfl rfl rfl ?_))))))))))))
     refine PW.callG (r := .kw (KI (sg false (pv r 0 (byl t))))) ce_made rfl rfl rfl rfl rfl (KI.st _) rfl (fun a W hf => by have h1 := hf.vl (s := 84) rfl; have h2 := hf.vl (s := 85) rfl; have own : OwF W _ _ (.int .u32) v zs := hf.ho 87 _ rfl; obtain ⟨A4, c4, e4, hc4, rd4⟩ := Own.rd own; show Calls Tryz.prog _ #[a.tmps.getD 84 undef, a.tmps.getD 85 undef] W _; rw [h1, h2, e4, show pv r 0 (byl t) = lv b32 zs by rw [hP.lv, List.take_of_length_le (by rw [byl_len]; exact Nat.le_refl _)]]; exact made_k rd4 hc4 hP.dg) ?_
     refine PW.store (x := .tmp 86) (r := .kw (KI (sg false (pv r 0 (byl t))))) rfl rfl rfl rfl rfl rfl sh_I ?_
     refine PW.assign rfl rfl rfl rfl rfl (PW.nil (SX.then (SC.ret ?_)))
     rw [form_ok (by rw [byl_len]; exact he) (fun j hj => hP.ok j (by rw [byl_len] at hj; exact hj))]
     rw [show decide (at0 (byl t) 0 = 45) = false by exact decide_eq_false (fun h9 => hm ⟨pos_of_at0 h9 (by decide), h9⟩)]
     exact SX.done2 (s := 4) (t := 5) (r := .vl (.int .i64 0)) (.inl rfl) rfl rfl rfl rfl
theorem k_parse {s : ByteArray} {r : Int} : CallOk 88 [KV (.string s), KV (.int .i64 (r))] (KPI (parseR r (byl s))) := by
 by_cases h : 2 ≤ r ∧ r ≤ 36
 ·by_cases hl : 20000 < s.size
  ·exact k_parse_long h hl
  ·exact k_parse_ok h hl
 ·exact k_parse_radix h
end Go.Proofs.YthpjmhhfcechmaaGreat.Sy
/- The reference's Digit, Parse by rules. -/
namespace Go.Proofs.YthpjmhhfcechmaaGreat.Sy
open Go Go.RowKit Ma
end Go.Proofs.YthpjmhhfcechmaaGreat.Sy
/- The reference's Floor, Shift by rules. -/
namespace Go.Proofs.YthpjmhhfcechmaaGreat.Sy
open Go Go.RowKit Ma
end Go.Proofs.YthpjmhhfcechmaaGreat.Sy
/- The reference's Text by rules. -/
namespace Go.Proofs.YthpjmhhfcechmaaGreat.Sy
open Go Go.RowKit Ma
end Go.Proofs.YthpjmhhfcechmaaGreat.Sy
