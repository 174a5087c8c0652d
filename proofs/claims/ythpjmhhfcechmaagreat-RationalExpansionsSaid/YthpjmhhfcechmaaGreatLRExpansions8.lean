/- Parts Jg, Syn, Lw, Jw, Sq, Gc, Da2, Lq, Rq, Lv, Syq, Lp, Pw, Pk, Jx, Jy, Jz, Rt, Jn, St, in one file. -/
import Init.Data.Rat.Lemmas
import Derived.Lib.RabinKarpLaws
import Derived.Test.YthpjmhhfcechmaaGreatLRExpansions2
import Derived.Test.YthpjmhhfcechmaaGreatLRExpansions3
import Derived.Test.YthpjmhhfcechmaaGreatLRExpansions4
import Derived.Test.YthpjmhhfcechmaaGreatLRExpansions5
import Derived.Test.YthpjmhhfcechmaaGreatLRExpansions6
import Derived.Test.YthpjmhhfcechmaaGreatLRExpansions7
/- The reference's Gcd, by rules. -/
set_option linter.unusedVariables false
set_option linter.unusedSimpArgs false
namespace Go.Proofs.YthpjmhhfcechmaaGreat.Sy
open Go Go.RowKit Ma
theorem ce_jgcd : CE 79 := fun args W => by go_simp
set_option maxHeartbeats 1600000 in
theorem k_jgcd0 {x y : Int} {n g : Nat} (X : bd n x) (Y : bd n y) (hn : n ≤ 300000) (hg : Nat.gcd x.natAbs y.natAbs = g) : CallOk 79 [KJ x, KJ y] (KJ (g : Int)) := by
 refine CallOk.enter (l := [.kw (KJ x), .kw (KJ y)]) 27 ce_jgcd Tryz.func79 rfl Tryz.ntmps79 (by simp) ⟨KJ.st _, rfl, KJ.st _, rfl, trivial⟩ fun w => ?_
 refine SC.seq (SC.region ?_)
 refine PW.box (x := .tmp 0) (r := .kw (KJ (x))) (BI 34) rfl rfl rfl rfl rfl bJ rfl sh_J ?_
 refine PW.box (x := .tmp 1) (r := .kw (KJ (y))) (BI 34) rfl rfl rfl rfl rfl bJ rfl sh_J ?_
 refine PW.alloc (BI 34) rfl rfl rfl rfl rfl bJ ?_
 refine PW.nil (SX.then (SC.seq ?_))
 refine SC.dx [.val 10 (.kw (KJ (x))), .val 11 (.kw (KJ (x.natAbs : Int))), .val 12 (.kw (KJ (y))), .val 13 (.kw (KJ (y.natAbs : Int))), .new 5 (BI 34), .new 6 (BI 34), .put 5 (BI 34) (.kw (KJ (x.natAbs : Int))), .put 6 (BI 34) (.kw (KJ (y.natAbs : Int)))] [([], [2]), ([0], []), ([], [3]), ([2], []), ([], []), ([], []), ([4, 1], []), ([5, 3], [])] rfl (by kernel_rfl) (by kernel_rfl) (by kernel_rfl) rfl ⟨?_, ?_, ?_, ?_, ?_, ?_, ?_, ?_, trivial⟩ ?_
 ·exact DX.load rfl rfl rfl rfl rfl rfl
 ·exact DX.call (r := .kw (KJ (x.natAbs : Int))) rfl rfl rfl rfl rfl rfl (KJ.st _) rfl (k_jabs)
 ·exact DX.load rfl rfl rfl rfl rfl rfl
 ·exact DX.call (r := .kw (KJ (y.natAbs : Int))) rfl rfl rfl rfl rfl rfl (KJ.st _) rfl (k_jabs)
 ·exact DX.alloc (BI 34) rfl rfl rfl rfl bJ rfl
 ·exact DX.alloc (BI 34) rfl rfl rfl rfl bJ rfl
 ·exact DX.store (x := .tmp 11) (r := .kw (KJ (x.natAbs : Int))) rfl rfl rfl rfl rfl rfl sh_J
 ·exact DX.store (x := .tmp 13) (r := .kw (KJ (y.natAbs : Int))) rfl rfl rfl rfl rfl rfl sh_J
 refine SX.then (SC.seq (SC.block ?_))
 refine SC.loop (S := Nat × Nat) (fun ⟨a, b⟩ => [(4, .nb (BI 34)), (5, .bx (BI 34) (KJ ((a : Int)))), (6, .bx (BI 34) (KJ ((b : Int))))]) (fun ⟨a, b⟩ => Nat.gcd a b = g ∧ bd n (a : Int) ∧ bd n (b : Int)) (fun ⟨a, b⟩ => b) (x.natAbs, y.natAbs) ⟨hg, X.abs, Y.abs⟩ ⟨rfl, rfl, rfl, trivial⟩ ?_
 rintro ⟨a, b⟩ ⟨hi, A, B2⟩
 show SC _ _ _ _ [(4, .nb (BI 34)), (5, .bx (BI 34) (KJ ((a : Int)))), (6, .bx (BI 34) (KJ ((b : Int))))] _
 refine SC.seq (SC.seq ?_)
 by_cases hb : (b : Int) = 0
 ·obtain rfl : a = g := by rw [show b = 0 by omega] at hi; simpa using hi
  refine SC.region ?_
  refine PW.load rfl rfl rfl rfl rfl rfl ?_
  refine PW.call (r := .vl (.int .i64 (sgn ((b : Int))))) rfl rfl rfl rfl rfl rfl (KV.st _) rfl (k_jsign rfl) ?_
  refine PW.q2 (x := .tmp 15) (y := .const (.int .i64 0)) (.bool false) rfl rfl rfl rfl rfl (fun ρ W h1 h2 => by exact r_neF h1 h2 (by rw [hb]; rfl)) ?_
  refine PW.nil (SX.then (SC.cond (t := false) rfl (SC.exit (SX.thenE (SX.thenE (SX.blockE (SX.then (SC.seq (SC.region ?_)))))))))
  refine PW.load rfl rfl rfl rfl rfl rfl ?_
  refine PW.store (x := .tmp 26) (r := .kw (KJ ((a : Int)))) rfl rfl rfl rfl rfl rfl sh_J ?_
  refine PW.nil (SX.then (SC.ret ?_))
  exact SX.doneC (s := 4) (.inl rfl) rfl rfl rfl
 ·refine SC.region ?_
  refine PW.load rfl rfl rfl rfl rfl rfl ?_
  refine PW.call (r := .vl (.int .i64 (sgn ((b : Int))))) rfl rfl rfl rfl rfl rfl (KV.st _) rfl (k_jsign rfl) ?_
  refine PW.q2 (x := .tmp 15) (y := .const (.int .i64 0)) (.bool true) rfl rfl rfl rfl rfl (fun ρ W h1 h2 => by exact r_neT h1 h2 (sgn_ne hb)) ?_
  refine PW.nil (SX.then (SC.cond (t := true) rfl (SC.skip (SX.then (SC.block (SC.seq (SC.region ?_)))))))
  refine PW.load rfl rfl rfl rfl rfl rfl ?_
  refine PW.load rfl rfl rfl rfl rfl rfl ?_
  refine PW.call (r := .kw (K3 (KJ (((a : Int)).tdiv ((b : Int)))) (KJ (((a : Int)).tmod ((b : Int)))) (KV (.int .i64 0)))) rfl rfl rfl rfl rfl rfl (K3.st (KJ.st _) (KJ.st _) (KV.st _)) rfl (k_jdiv A B2 (by omega) (by omega) hb) ?_
  refine PW.move rfl rfl rfl rfl rfl ?_
  refine PW.ext (r := .kw (KJ (((a : Int)).tdiv ((b : Int))))) rfl rfl rfl rfl rfl ex30 (KJ.st _) rfl ?_
  refine PW.ext (r := .kw (KJ (((a : Int)).tmod ((b : Int))))) rfl rfl rfl rfl rfl ex31 (KJ.st _) rfl ?_
  refine PW.ext (r := .vl (.int .i64 0)) rfl rfl rfl rfl rfl ex32v (KV.st _) rfl ?_
  refine PW.alloc (BI 34) rfl rfl rfl rfl rfl bJ ?_
  refine PW.alloc (BI 34) rfl rfl rfl rfl rfl bJ ?_
  refine PW.store (x := .tmp 21) (r := .kw (KJ (((a : Int)).tdiv ((b : Int))))) rfl rfl rfl rfl rfl rfl sh_J ?_
  refine PW.store (x := .tmp 22) (r := .kw (KJ (((a : Int)).tmod ((b : Int))))) rfl rfl rfl rfl rfl rfl sh_J ?_
  refine PW.assign rfl rfl rfl rfl rfl (PW.nil (SX.then ?_))
  refine SC.dx [.val 24 (.kw (KJ ((b : Int)))), .val 25 (.kw (KJ (((a : Int)).tmod ((b : Int))))), .put 5 (BI 34) (.kw (KJ ((b : Int)))), .put 6 (BI 34) (.kw (KJ (((a : Int)).tmod ((b : Int)))))] [([], [6]), ([], [8]), ([0], [5]), ([1], [6])] rfl (by kernel_rfl) (by kernel_rfl) (by kernel_rfl) rfl ⟨?_, ?_, ?_, ?_, trivial⟩ ?_
  ·exact DX.load rfl rfl rfl rfl rfl rfl
  ·exact DX.load rfl rfl rfl rfl rfl rfl
  ·exact DX.store (x := .tmp 24) (r := .kw (KJ ((b : Int)))) rfl rfl rfl rfl rfl rfl sh_J
  ·exact DX.store (x := .tmp 25) (r := .kw (KJ (((a : Int)).tmod ((b : Int))))) rfl rfl rfl rfl rfl rfl sh_J
  refine SX.blockN ?_
  refine SX.back (b, a % b) ?_ ?_ ?_
  ·exact ⟨by rw [← hi, Nat.gcd_comm a b, Nat.gcd_rec b a, Nat.gcd_comm], B2, (A.tmod (y := (b : Int)) : bd n ((a : Int).tmod (b : Int)))⟩
  ·exact (show a % b < b from Nat.mod_lt _ (by omega))
  ·exact ⟨rfl, rfl, rfl, trivial⟩
theorem k_jgcd {x y : Int} {a b : Nat} (X : bd a x) (Y : bd b y) (ha : a ≤ 300000) (hb : b ≤ 300000) : CallOk 79 [KJ x, KJ y] (KJ (Int.gcd x y : Int)) := k_jgcd0 (X.mono (Nat.le_max_left a b)) (Y.mono (Nat.le_max_right a b)) (by omega) rfl
end Go.Proofs.YthpjmhhfcechmaaGreat.Sy
/- A walk by rules: the laws' first statements: what came in as plain data. -/
namespace Go.Proofs.YthpjmhhfcechmaaGreat.Sy
open Go Go.RowKit Ma
section
variable {B N : Nat} {w0 : World} {ops : Array Oper} {o : Oper} {rest : List Oper} {fr : List (Nat × AV)} {Q : Exit → Act → World → Prop} {d : Nat}
theorem loadV_run {T : TypeId} {s : Nat} {b : BT} {v : Value} {a : Act} {W : World} (hf : Fr B N w0 fr a W) (ho : o.op = .load T (.tmp s)) (hs : look fr s = some (.bx b (KV v))) (hT : b.T = T) : (execOp a.eval o).run Tryz.prog W = .ok (.value v) W := by
 obtain ⟨p, v', e, _, ⟨cs, hs1, hc⟩, hv, st, ok⟩ := hf.ho s _ hs
 obtain rfl : v' = v := hv
 have := run_val (ok.load v' cs W p hs1 fun i x hx => (hc i x hx).1)
 unfold execOp
 rw [ho]
 show (do pure (.value (← Instr.loadAt T (a.tmps.getD s undef))) : Sem Next).run Tryz.prog W = _
 rw [e, ← hT]
 exact this
theorem PW.loadV {T : TypeId} {s : Nat} {b : BT} {v : Value} (hw : wantB ops fr o = some true) (hd : o.dst = some d) (hN : Nat.blt d N = true) (ho : o.op = .load T (.tmp s)) (hs : look fr s = some (.bx b (KV v))) (hT : b.T = T) (hk : PW B N w0 ops rest ((d, .vl v) :: fr) Q) : PW B N w0 ops (o :: rest) fr Q :=
 PW.val (r := .vl v) hw hd hN rfl (fun a W hf => ⟨_, loadV_run hf ho hs hT, rfl⟩) hk
end
section
variable {x y z : Operand} {dst : Option Tmp} {ty : TypeId} {pos : String} {after : Array Edge} {guard : Option (Nat × Bool)} {ρ : Operand → Value} {W : World}
variable {n1 n2 n3 : Bool} {A1 A2 A3 : Option Addr} {l1 l2 l3 c1 c2 c3 : Nat}
end
section
variable {n1 n2 n3 : Bool} {A1 A2 A3 : Option Addr} {l1 l2 l3 c1 c2 c3 : Nat}
theorem ns_lit2 (W : World) : Ns (W.alloc (.cells #[.bool n1, .slice A1 l1 c1, .bool n2, .slice A2 l2 c2] 24)) W.heap.size [(n1, A1, l1, c1), (n2, A2, l2, c2)] := by
 intro i n A l c e
 match i, e with
 | 0, e => simp at e; obtain ⟨rfl, rfl, rfl, rfl⟩ := e; exact ⟨by go_simp, by go_simp⟩
 | 1, e => simp at e; obtain ⟨rfl, rfl, rfl, rfl⟩ := e; exact ⟨by go_simp, by go_simp⟩
 | i + 2, e => simp at e
theorem In.lim {w : World} {A : Option Addr} {l c : Nat} {xs : List Int} (h : In w A l c xs) : l ≤ 9223372036854775807 := h.1 ▸ h.2.2.1.1
theorem of_in {w W : World} {n : Bool} {A : Option Addr} {l c : Nat} {xs : List Int} {x : Int} (h : In w A l c xs) (be : Below w.heap.size w W) (hl : l ≤ 1000000) (hx : x = sg n (lv b32 xs)) : Calls Tryz.prog 14 #[.agg #[.bool n, .slice A l c]] W (Ret W (K2 (KI x) (KJ x))) := by
 obtain ⟨rfl, _, rd, d⟩ := h
 subst hx
 exact lawof_c (Rd.below rd be) d hl
end
end Go.Proofs.YthpjmhhfcechmaaGreat.Sy
/- Plain laws for the reference's width, bits, powers of two: digits to the base 65536. No program in sight. -/
namespace Go.Proofs.YthpjmhhfcechmaaGreat.Ma
open Go
theorem at0_put_self {zs : List Int} {i : Nat} (x : Int) (h : i < zs.length) : at0 (zs.set i x) i = x := by simp [at0, List.getD_eq_getElem?_getD, h]
end Go.Proofs.YthpjmhhfcechmaaGreat.Ma
/- The reference's width, set, Two, chosen, New by rules. -/
namespace Go.Proofs.YthpjmhhfcechmaaGreat.Sy
open Go Go.RowKit Ma
theorem ce_jnew : CE 109 := fun args W => by go_simp
theorem k_jnew {x : Int} (h : -9223372036854775808 ≤ x ∧ x < 9223372036854775808) : CallOk 109 [KV (.int .i64 x)] (KJ x) := call1 ce_jnew fun W u e => by obtain rfl : u = _ := e; exact rnew_c h
end Go.Proofs.YthpjmhhfcechmaaGreat.Sy
/- A walk by rules: fractions: boxes of four cells, what is known of them. -/
namespace Go.Proofs.YthpjmhhfcechmaaGreat.Sy
open Go Go.RowKit Ma
def BQ (T : TypeId) : BT := ⟨T, fun v cs => ∃ m A l c m2 A2 l2 c2, v = .agg #[.bool m, .slice A l c, .bool m2, .slice A2 l2 c2] ∧ cs = [.bool m, .slice A l c, .bool m2, .slice A2 l2 c2]⟩
theorem four_at {x y z t : Value} {i : Nat} {u : Value} (h : [x, y, z, t][i]? = some u) : (i = 0 ∧ u = x) ∨ (i = 1 ∧ u = y) ∨ (i = 2 ∧ u = z) ∨ (i = 3 ∧ u = t) := by
 match i, h with
 | 0, h => exact .inl ⟨rfl, by simpa using h.symm⟩
 | 1, h => exact .inr (.inl ⟨rfl, by simpa using h.symm⟩)
 | 2, h => exact .inr (.inr (.inl ⟨rfl, by simpa using h.symm⟩))
 | 3, h => exact .inr (.inr (.inr ⟨rfl, by simpa using h.symm⟩))
theorem Only.setc {p : Nat} {W W1 : World} {i : Nat} {u v : Value} (h : Only p W W1) (hc : W1.cell? ⟨p, i, none⟩ = some u) (hu : ∀ k x, u ≠ .int k x) : Only p W (W1.setCell ⟨p, i, none⟩ v) := by
 refine ⟨⟨?_, ?_, ?_, ?_, fun k hk hne => ?_⟩, IntK.set h.nu hc hu, ?_⟩
 ·simpa [World.setCell] using h.gr.os
 ·simpa [World.setCell] using h.gr.tape
 ·simpa [World.setCell] using h.gr.output
 ·have := h.gr.size; simpa [World.setCell] using this
 ·rw [Below.heap_setCell _ _ _ _ (fun x => hne (by rw [x]))]; exact h.gr.block k hk hne
 ·have := h.sz; simpa [World.setCell] using this
theorem Only.refl (p : Nat) (W : World) : Only p W W := ⟨⟨rfl, rfl, rfl, Nat.le_refl _, fun _ _ _ => rfl⟩, IntK.refl W, rfl⟩
set_option maxHeartbeats 1600000 in
theorem bQ : (BQ 38).Ok := by
 refine ⟨?_, ?_, ?_, ?_, ?_⟩
 ·rintro v cs ⟨m, A, l, c, m2, A2, l2, c2, rfl, rfl⟩; simp
 ·rintro v cs W p ⟨m, A, l, c, m2, A2, l2, c2, rfl, rfl⟩ h
  have h0 := h 0 _ rfl
  have h1 := h 1 _ rfl
  have h2 := h 2 _ rfl
  have h3 := h 3 _ rfl
  show (Instr.loadAt 38 (ptr p)).run Tryz.prog W = _
  go_simp
 ·rintro v v' cs' W p ⟨cs, ⟨m, A, l, c, m2, A2, l2, c2, rfl, rfl⟩, hc⟩ ⟨m', A', l', c', m2', A2', l2', c2', rfl, rfl⟩
  obtain ⟨h0, f0⟩ := hc 0 _ rfl
  obtain ⟨h1, f1⟩ := hc 1 _ rfl
  obtain ⟨h2, f2⟩ := hc 2 _ rfl
  obtain ⟨h3, f3⟩ := hc 3 _ rfl
  clear hc
  refine ⟨(((W.setCell ⟨p, 0, none⟩ (.bool m')).setCell ⟨p, 1, none⟩ (.slice A' l' c')).setCell ⟨p, 2, none⟩ (.bool m2')).setCell ⟨p, 3, none⟩ (.slice A2' l2' c2'), ?_, ⟨_, ⟨m', A', l', c', m2', A2', l2', c2', rfl, rfl⟩, fun i x hx => ?_⟩, ?_⟩
  ·show (Instr.storeAt 38 (ptr p) _).run Tryz.prog W = _
   go_simp
  ·rcases four_at hx with ⟨rfl, rfl⟩ | ⟨rfl, rfl⟩ | ⟨rfl, rfl⟩ | ⟨rfl, rfl⟩
   ·exact ⟨by go_simp, by simp [World.frozen?_setCell, f0]⟩
   ·exact ⟨by go_simp, by simp [World.frozen?_setCell, f1]⟩
   ·exact ⟨by go_simp, by simp [World.frozen?_setCell, f2]⟩
   ·exact ⟨by go_simp, by simp [World.frozen?_setCell, f3]⟩
  ·exact ((((Only.refl p W).setc h0 (by simp)).setc (u := .slice A l c) (by go_simp) (by simp)).setc (u := .bool m2) (by go_simp) (by simp)).setc (u := .slice A2 l2 c2) (by go_simp) (by simp)
 ·refine ⟨.cells #[.bool false, .slice none 0 0, .bool false, .slice none 0 0] 38, _, _, ⟨false, none, 0, 0, false, none, 0, 0, rfl, rfl⟩, fun W => ⟨by show (Instr.alloc 38 true (.tuple #[])).run Tryz.prog W = _; go_simp, fun i x hx => ?_⟩⟩
  rcases four_at hx with ⟨rfl, rfl⟩ | ⟨rfl, rfl⟩ | ⟨rfl, rfl⟩ | ⟨rfl, rfl⟩
  all_goals exact ⟨by rw [World.cell?_alloc_at _ _ _ _ rfl]; rfl, World.frozen?_alloc_at _ _ _ _ rfl⟩
 ·rintro v cs ⟨m, A, l, c, m2, A2, l2, c2, rfl, rfl⟩
  refine ⟨.cells #[.bool m, .slice A l c, .bool m2, .slice A2 l2 c2] 38, fun W => ⟨by show (Instr.box 38 _).run Tryz.prog W = _; go_simp, fun i x hx => ?_⟩⟩
  rcases four_at hx with ⟨rfl, rfl⟩ | ⟨rfl, rfl⟩ | ⟨rfl, rfl⟩ | ⟨rfl, rfl⟩
  all_goals exact ⟨by rw [World.cell?_alloc_at _ _ _ _ rfl]; rfl, World.frozen?_alloc_at _ _ _ _ rfl⟩
set_option maxHeartbeats 1600000 in
theorem bQJ : (BQ 43).Ok := by
 refine ⟨?_, ?_, ?_, ?_, ?_⟩
 ·rintro v cs ⟨m, A, l, c, m2, A2, l2, c2, rfl, rfl⟩; simp
 ·rintro v cs W p ⟨m, A, l, c, m2, A2, l2, c2, rfl, rfl⟩ h
  have h0 := h 0 _ rfl
  have h1 := h 1 _ rfl
  have h2 := h 2 _ rfl
  have h3 := h 3 _ rfl
  show (Instr.loadAt 43 (ptr p)).run Tryz.prog W = _
  go_simp
 ·rintro v v' cs' W p ⟨cs, ⟨m, A, l, c, m2, A2, l2, c2, rfl, rfl⟩, hc⟩ ⟨m', A', l', c', m2', A2', l2', c2', rfl, rfl⟩
  obtain ⟨h0, f0⟩ := hc 0 _ rfl
  obtain ⟨h1, f1⟩ := hc 1 _ rfl
  obtain ⟨h2, f2⟩ := hc 2 _ rfl
  obtain ⟨h3, f3⟩ := hc 3 _ rfl
  clear hc
  refine ⟨(((W.setCell ⟨p, 0, none⟩ (.bool m')).setCell ⟨p, 1, none⟩ (.slice A' l' c')).setCell ⟨p, 2, none⟩ (.bool m2')).setCell ⟨p, 3, none⟩ (.slice A2' l2' c2'), ?_, ⟨_, ⟨m', A', l', c', m2', A2', l2', c2', rfl, rfl⟩, fun i x hx => ?_⟩, ?_⟩
  ·show (Instr.storeAt 43 (ptr p) _).run Tryz.prog W = _
   go_simp
  ·rcases four_at hx with ⟨rfl, rfl⟩ | ⟨rfl, rfl⟩ | ⟨rfl, rfl⟩ | ⟨rfl, rfl⟩
   ·exact ⟨by go_simp, by simp [World.frozen?_setCell, f0]⟩
   ·exact ⟨by go_simp, by simp [World.frozen?_setCell, f1]⟩
   ·exact ⟨by go_simp, by simp [World.frozen?_setCell, f2]⟩
   ·exact ⟨by go_simp, by simp [World.frozen?_setCell, f3]⟩
  ·exact ((((Only.refl p W).setc h0 (by simp)).setc (u := .slice A l c) (by go_simp) (by simp)).setc (u := .bool m2) (by go_simp) (by simp)).setc (u := .slice A2 l2 c2) (by go_simp) (by simp)
 ·refine ⟨.cells #[.bool false, .slice none 0 0, .bool false, .slice none 0 0] 43, _, _, ⟨false, none, 0, 0, false, none, 0, 0, rfl, rfl⟩, fun W => ⟨by show (Instr.alloc 43 true (.tuple #[])).run Tryz.prog W = _; go_simp, fun i x hx => ?_⟩⟩
  rcases four_at hx with ⟨rfl, rfl⟩ | ⟨rfl, rfl⟩ | ⟨rfl, rfl⟩ | ⟨rfl, rfl⟩
  all_goals exact ⟨by rw [World.cell?_alloc_at _ _ _ _ rfl]; rfl, World.frozen?_alloc_at _ _ _ _ rfl⟩
 ·rintro v cs ⟨m, A, l, c, m2, A2, l2, c2, rfl, rfl⟩
  refine ⟨.cells #[.bool m, .slice A l c, .bool m2, .slice A2 l2 c2] 43, fun W => ⟨by show (Instr.box 43 _).run Tryz.prog W = _; go_simp, fun i x hx => ?_⟩⟩
  rcases four_at hx with ⟨rfl, rfl⟩ | ⟨rfl, rfl⟩ | ⟨rfl, rfl⟩ | ⟨rfl, rfl⟩
  all_goals exact ⟨by rw [World.cell?_alloc_at _ _ _ _ rfl]; rfl, World.frozen?_alloc_at _ _ _ _ rfl⟩
set_option maxHeartbeats 1600000 in
theorem bQN : (BQ 26).Ok := by
 refine ⟨?_, ?_, ?_, ?_, ?_⟩
 ·rintro v cs ⟨m, A, l, c, m2, A2, l2, c2, rfl, rfl⟩; simp
 ·rintro v cs W p ⟨m, A, l, c, m2, A2, l2, c2, rfl, rfl⟩ h
  have h0 := h 0 _ rfl
  have h1 := h 1 _ rfl
  have h2 := h 2 _ rfl
  have h3 := h 3 _ rfl
  show (Instr.loadAt 26 (ptr p)).run Tryz.prog W = _
  go_simp
 ·rintro v v' cs' W p ⟨cs, ⟨m, A, l, c, m2, A2, l2, c2, rfl, rfl⟩, hc⟩ ⟨m', A', l', c', m2', A2', l2', c2', rfl, rfl⟩
  obtain ⟨h0, f0⟩ := hc 0 _ rfl
  obtain ⟨h1, f1⟩ := hc 1 _ rfl
  obtain ⟨h2, f2⟩ := hc 2 _ rfl
  obtain ⟨h3, f3⟩ := hc 3 _ rfl
  clear hc
  refine ⟨(((W.setCell ⟨p, 0, none⟩ (.bool m')).setCell ⟨p, 1, none⟩ (.slice A' l' c')).setCell ⟨p, 2, none⟩ (.bool m2')).setCell ⟨p, 3, none⟩ (.slice A2' l2' c2'), ?_, ⟨_, ⟨m', A', l', c', m2', A2', l2', c2', rfl, rfl⟩, fun i x hx => ?_⟩, ?_⟩
  ·show (Instr.storeAt 26 (ptr p) _).run Tryz.prog W = _
   go_simp
  ·rcases four_at hx with ⟨rfl, rfl⟩ | ⟨rfl, rfl⟩ | ⟨rfl, rfl⟩ | ⟨rfl, rfl⟩
   ·exact ⟨by go_simp, by simp [World.frozen?_setCell, f0]⟩
   ·exact ⟨by go_simp, by simp [World.frozen?_setCell, f1]⟩
   ·exact ⟨by go_simp, by simp [World.frozen?_setCell, f2]⟩
   ·exact ⟨by go_simp, by simp [World.frozen?_setCell, f3]⟩
  ·exact ((((Only.refl p W).setc h0 (by simp)).setc (u := .slice A l c) (by go_simp) (by simp)).setc (u := .bool m2) (by go_simp) (by simp)).setc (u := .slice A2 l2 c2) (by go_simp) (by simp)
 ·refine ⟨.cells #[.bool false, .slice none 0 0, .bool false, .slice none 0 0] 26, _, _, ⟨false, none, 0, 0, false, none, 0, 0, rfl, rfl⟩, fun W => ⟨by show (Instr.alloc 26 true (.tuple #[])).run Tryz.prog W = _; go_simp, fun i x hx => ?_⟩⟩
  rcases four_at hx with ⟨rfl, rfl⟩ | ⟨rfl, rfl⟩ | ⟨rfl, rfl⟩ | ⟨rfl, rfl⟩
  all_goals exact ⟨by rw [World.cell?_alloc_at _ _ _ _ rfl]; rfl, World.frozen?_alloc_at _ _ _ _ rfl⟩
 ·rintro v cs ⟨m, A, l, c, m2, A2, l2, c2, rfl, rfl⟩
  refine ⟨.cells #[.bool m, .slice A l c, .bool m2, .slice A2 l2 c2] 26, fun W => ⟨by show (Instr.box 26 _).run Tryz.prog W = _; go_simp, fun i x hx => ?_⟩⟩
  rcases four_at hx with ⟨rfl, rfl⟩ | ⟨rfl, rfl⟩ | ⟨rfl, rfl⟩ | ⟨rfl, rfl⟩
  all_goals exact ⟨by rw [World.cell?_alloc_at _ _ _ _ rfl]; rfl, World.frozen?_alloc_at _ _ _ _ rfl⟩
def KQ (n e : Int) : Know := fun v W => ∃ m A l c m2 A2 l2 c2, v = .agg #[.bool m, .slice A l c, .bool m2, .slice A2 l2 c2] ∧ RI W m A l c n ∧ RI W m2 A2 l2 c2 e
def KR3 (n d : Int) : Know := fun v W => ∃ m A l c m2 A2 l2 c2, v = .agg #[.bool m, .slice A l c, .bool m2, .slice A2 l2 c2] ∧ RJ W m A l c n ∧ RJ W m2 A2 l2 c2 d
theorem KQ.st (n e : Int) : St (KQ n e) := fun v w w' hk ⟨m, A, l, c, m2, A2, l2, c2, e1, h, h2⟩ => ⟨m, A, l, c, m2, A2, l2, c2, e1, h.kept hk, h2.kept hk⟩
theorem KR3.st (n d : Int) : St (KR3 n d) := fun v w w' hk ⟨m, A, l, c, m2, A2, l2, c2, e1, h, h2⟩ => ⟨m, A, l, c, m2, A2, l2, c2, e1, h.kept hk, h2.kept hk⟩
theorem sh_Q {T : TypeId} {n e : Int} (v : Value) (W : World) (h : KQ n e v W) : ∃ cs, (BQ T).sh v cs := by obtain ⟨m, A, l, c, m2, A2, l2, c2, rfl, _⟩ := h; exact ⟨_, m, A, l, c, m2, A2, l2, c2, rfl, rfl⟩
theorem sh_R3 {T : TypeId} {n e : Int} (v : Value) (W : World) (h : KR3 n e v W) : ∃ cs, (BQ T).sh v cs := by obtain ⟨m, A, l, c, m2, A2, l2, c2, rfl, _⟩ := h; exact ⟨_, m, A, l, c, m2, A2, l2, c2, rfl, rfl⟩
theorem holdsQ {T : TypeId} {p : Nat} {v : Value} {W : World} {m m2 : Bool} {A A2 : Option Addr} {l c l2 c2 : Nat} (hh : Holds (BQ T) p v W) (e : v = .agg #[.bool m, .slice A l c, .bool m2, .slice A2 l2 c2]) : W.cell? ⟨p, 0, none⟩ = some (.bool m) ∧ W.cell? ⟨p, 1, none⟩ = some (.slice A l c) ∧ W.cell? ⟨p, 2, none⟩ = some (.bool m2) ∧ W.cell? ⟨p, 3, none⟩ = some (.slice A2 l2 c2) := by
 subst e
 obtain ⟨cs, ⟨m', A', l', c', m2', A2', l2', c2', e1, rfl⟩, hc⟩ := hh
 simp only [Value.agg.injEq, Array.mk.injEq, List.cons.injEq, Value.bool.injEq, Value.slice.injEq, and_true] at e1
 obtain ⟨rfl, ⟨rfl, rfl, rfl⟩, rfl, rfl, rfl, rfl⟩ := e1
 exact ⟨(hc 0 _ rfl).1, (hc 1 _ rfl).1, (hc 2 _ rfl).1, (hc 3 _ rfl).1⟩
section
variable {n e : Int} {p : Nat}
theorem faQ0 (v : Value) (W : World) (hh : Holds (BQ 38) p v W) (hk : KQ n e v W) : (Instr.fieldAt 38 (ptr p) 0).run Tryz.prog W = .ok (.pointer (some ⟨p, 0, none⟩)) W := by
 obtain ⟨m, A, l, c, m2, A2, l2, c2, rfl, h, h2⟩ := hk
 obtain ⟨c0, c1, c2', c3⟩ := holdsQ hh rfl
 go_simp
theorem faQ1 (v : Value) (W : World) (hh : Holds (BQ 38) p v W) (hk : KQ n e v W) : (Instr.fieldAt 38 (ptr p) 1).run Tryz.prog W = .ok (.pointer (some ⟨p, 2, none⟩)) W := by
 obtain ⟨m, A, l, c, m2, A2, l2, c2, rfl, h, h2⟩ := hk
 obtain ⟨c0, c1, c2', c3⟩ := holdsQ hh rfl
 go_simp
theorem flQ0 (v : Value) (W : World) (hh : Holds (BQ 38) p v W) (hk : KQ n e v W) : ∃ u, (Instr.loadAt 31 (.pointer (some ⟨p, 0, none⟩))).run Tryz.prog W = .ok u W ∧ (AV.kw (KI n)).of u W := by
 obtain ⟨m, A, l, c, m2, A2, l2, c2, rfl, h, h2⟩ := hk
 obtain ⟨c0, c1, c2', c3⟩ := holdsQ hh rfl
 exact ⟨.agg #[.bool m, .slice A l c], by go_simp, _, _, _, _, rfl, h⟩
theorem flQ1 (v : Value) (W : World) (hh : Holds (BQ 38) p v W) (hk : KQ n e v W) : ∃ u, (Instr.loadAt 31 (.pointer (some ⟨p, 2, none⟩))).run Tryz.prog W = .ok u W ∧ (AV.kw (KI e)).of u W := by
 obtain ⟨m, A, l, c, m2, A2, l2, c2, rfl, h, h2⟩ := hk
 obtain ⟨c0, c1, c2', c3⟩ := holdsQ hh rfl
 exact ⟨.agg #[.bool m2, .slice A2 l2 c2], by go_simp, _, _, _, _, rfl, h2⟩
theorem fldQ0 (v : Value) (W : World) (p : Nat) (hh : Holds (BQ 38) p v W) (hk : KQ n e v W) : ∃ q u, (Instr.fieldAt 38 (ptr p) 0).run Tryz.prog W = .ok q W ∧ (Instr.loadAt 31 q).run Tryz.prog W = .ok u W ∧ (AV.kw (KI n)).of u W := by
 obtain ⟨u, h1, h2⟩ := flQ0 v W hh hk
 exact ⟨_, u, faQ0 v W hh hk, h1, h2⟩
theorem fldQ1 (v : Value) (W : World) (p : Nat) (hh : Holds (BQ 38) p v W) (hk : KQ n e v W) : ∃ q u, (Instr.fieldAt 38 (ptr p) 1).run Tryz.prog W = .ok q W ∧ (Instr.loadAt 31 q).run Tryz.prog W = .ok u W ∧ (AV.kw (KI e)).of u W := by
 obtain ⟨u, h1, h2⟩ := flQ1 v W hh hk
 exact ⟨_, u, faQ1 v W hh hk, h1, h2⟩
theorem faR0 (v : Value) (W : World) (hh : Holds (BQ 43) p v W) (hk : KR3 n e v W) : (Instr.fieldAt 43 (ptr p) 0).run Tryz.prog W = .ok (.pointer (some ⟨p, 0, none⟩)) W := by
 obtain ⟨m, A, l, c, m2, A2, l2, c2, rfl, h, h2⟩ := hk
 obtain ⟨c0, c1, c2', c3⟩ := holdsQ hh rfl
 go_simp
theorem faR1 (v : Value) (W : World) (hh : Holds (BQ 43) p v W) (hk : KR3 n e v W) : (Instr.fieldAt 43 (ptr p) 1).run Tryz.prog W = .ok (.pointer (some ⟨p, 2, none⟩)) W := by
 obtain ⟨m, A, l, c, m2, A2, l2, c2, rfl, h, h2⟩ := hk
 obtain ⟨c0, c1, c2', c3⟩ := holdsQ hh rfl
 go_simp
theorem flR0 (v : Value) (W : World) (hh : Holds (BQ 43) p v W) (hk : KR3 n e v W) : ∃ u, (Instr.loadAt 34 (.pointer (some ⟨p, 0, none⟩))).run Tryz.prog W = .ok u W ∧ (AV.kw (KJ n)).of u W := by
 obtain ⟨m, A, l, c, m2, A2, l2, c2, rfl, h, h2⟩ := hk
 obtain ⟨c0, c1, c2', c3⟩ := holdsQ hh rfl
 exact ⟨.agg #[.bool m, .slice A l c], by go_simp, _, _, _, _, rfl, h⟩
theorem flR1 (v : Value) (W : World) (hh : Holds (BQ 43) p v W) (hk : KR3 n e v W) : ∃ u, (Instr.loadAt 34 (.pointer (some ⟨p, 2, none⟩))).run Tryz.prog W = .ok u W ∧ (AV.kw (KJ e)).of u W := by
 obtain ⟨m, A, l, c, m2, A2, l2, c2, rfl, h, h2⟩ := hk
 obtain ⟨c0, c1, c2', c3⟩ := holdsQ hh rfl
 exact ⟨.agg #[.bool m2, .slice A2 l2 c2], by go_simp, _, _, _, _, rfl, h2⟩
theorem fldR0 (v : Value) (W : World) (p : Nat) (hh : Holds (BQ 43) p v W) (hk : KR3 n e v W) : ∃ q u, (Instr.fieldAt 43 (ptr p) 0).run Tryz.prog W = .ok q W ∧ (Instr.loadAt 34 q).run Tryz.prog W = .ok u W ∧ (AV.kw (KJ n)).of u W := by
 obtain ⟨u, h1, h2⟩ := flR0 v W hh hk
 exact ⟨_, u, faR0 v W hh hk, h1, h2⟩
theorem fldR1 (v : Value) (W : World) (p : Nat) (hh : Holds (BQ 43) p v W) (hk : KR3 n e v W) : ∃ q u, (Instr.fieldAt 43 (ptr p) 1).run Tryz.prog W = .ok q W ∧ (Instr.loadAt 34 q).run Tryz.prog W = .ok u W ∧ (AV.kw (KJ e)).of u W := by
 obtain ⟨u, h1, h2⟩ := flR1 v W hh hk
 exact ⟨_, u, faR1 v W hh hk, h1, h2⟩
end
section
variable {x y : Operand} {dst : Option Tmp} {ty : TypeId} {pos : String} {after : Array Edge} {guard : Option (Nat × Bool)} {ρ : Operand → Value} {W : World} {m m2 : Bool} {A A2 : Option Addr} {l c l2 c2 : Nat}
theorem r_bldQ (h1 : ρ x = .agg #[.bool m, .slice A l c]) (h2 : ρ y = .agg #[.bool m2, .slice A2 l2 c2]) : (execOp ρ ⟨dst, .build 38 #[(0, x), (1, y)], ty, pos, after, guard⟩).run Tryz.prog W = .ok (.value (.agg #[.bool m, .slice A l c, .bool m2, .slice A2 l2 c2])) W := by
 go_simp
theorem r_bldQ1 (h1 : ρ x = .agg #[.bool m, .slice A l c]) : (execOp ρ ⟨dst, .build 38 #[(0, x)], ty, pos, after, guard⟩).run Tryz.prog W = .ok (.value (.agg #[.bool m, .slice A l c, .bool false, .slice none 0 0])) W := by
 go_simp
theorem r_bldQ0 : (execOp ρ ⟨dst, .build 38 #[], ty, pos, after, guard⟩).run Tryz.prog W = .ok (.value (.agg #[.bool false, .slice none 0 0, .bool false, .slice none 0 0])) W := by
 go_simp
theorem r_bldR (h1 : ρ x = .agg #[.bool m, .slice A l c]) (h2 : ρ y = .agg #[.bool m2, .slice A2 l2 c2]) : (execOp ρ ⟨dst, .build 43 #[(0, x), (1, y)], ty, pos, after, guard⟩).run Tryz.prog W = .ok (.value (.agg #[.bool m, .slice A l c, .bool m2, .slice A2 l2 c2])) W := by
 go_simp
end
section
variable {B N : Nat} {w0 : World} {ops : Array Oper} {o : Oper} {rest : List Oper} {fr : List (Nat × AV)} {Q : Exit → Act → World → Prop} {d : Nat}
theorem DX.bldQ {n e : Int} {x y : Operand} (hw : wantB ops fr o = some true) (hd : o.dst = some d) (hN : Nat.blt d N = true) (hx : opv fr x = some (.kw (KI n))) (hy : opv fr y = some (.kw (KI e)))
  (hr : ∀ (ρ : Operand → Value) (W : World) (m m2 : Bool) (A A2 : Option Addr) (l c l2 c2 : Nat), ρ x = .agg #[.bool m, .slice A l c] → ρ y = .agg #[.bool m2, .slice A2 l2 c2] → (execOp ρ o).run Tryz.prog W = .ok (.value (.agg #[.bool m, .slice A l c, .bool m2, .slice A2 l2 c2])) W) : Eo B N w0 ops o fr (.val d (.kw (KQ n e))) :=
 DX.val (r := .kw (KQ n e)) hw hd hN rfl (fun a W hf => by
  obtain ⟨⟨m, A, l, c, e1, h1⟩, _⟩ := (opv_spec hf hx).1
  obtain ⟨⟨m2, A2, l2, c2, e2, h2⟩, _⟩ := (opv_spec hf hy).1
  exact ⟨_, hr a.eval W m m2 A A2 l c l2 c2 e1 e2, ⟨m, A, l, c, m2, A2, l2, c2, rfl, h1, h2⟩, KQ.st _ _⟩)
theorem PW.bldR {n e : Int} {x y : Operand} (hw : wantB ops fr o = some true) (hd : o.dst = some d) (hN : Nat.blt d N = true) (hx : opv fr x = some (.kw (KJ n))) (hy : opv fr y = some (.kw (KJ e)))
  (hr : ∀ (ρ : Operand → Value) (W : World) (m m2 : Bool) (A A2 : Option Addr) (l c l2 c2 : Nat), ρ x = .agg #[.bool m, .slice A l c] → ρ y = .agg #[.bool m2, .slice A2 l2 c2] → (execOp ρ o).run Tryz.prog W = .ok (.value (.agg #[.bool m, .slice A l c, .bool m2, .slice A2 l2 c2])) W) (hk : PW B N w0 ops rest ((d, .kw (KR3 n e)) :: fr) Q) : PW B N w0 ops (o :: rest) fr Q :=
 PW.val (r := .kw (KR3 n e)) hw hd hN rfl (fun a W hf => by
  obtain ⟨⟨m, A, l, c, e1, h1⟩, _⟩ := (opv_spec hf hx).1
  obtain ⟨⟨m2, A2, l2, c2, e2, h2⟩, _⟩ := (opv_spec hf hy).1
  exact ⟨_, hr a.eval W m m2 A A2 l c l2 c2 e1 e2, ⟨m, A, l, c, m2, A2, l2, c2, rfl, h1, h2⟩, KR3.st _ _⟩) hk
theorem DX.bldR {n e : Int} {x y : Operand} (hw : wantB ops fr o = some true) (hd : o.dst = some d) (hN : Nat.blt d N = true) (hx : opv fr x = some (.kw (KJ n))) (hy : opv fr y = some (.kw (KJ e)))
  (hr : ∀ (ρ : Operand → Value) (W : World) (m m2 : Bool) (A A2 : Option Addr) (l c l2 c2 : Nat), ρ x = .agg #[.bool m, .slice A l c] → ρ y = .agg #[.bool m2, .slice A2 l2 c2] → (execOp ρ o).run Tryz.prog W = .ok (.value (.agg #[.bool m, .slice A l c, .bool m2, .slice A2 l2 c2])) W) : Eo B N w0 ops o fr (.val d (.kw (KR3 n e))) :=
 DX.val (r := .kw (KR3 n e)) hw hd hN rfl (fun a W hf => by
  obtain ⟨⟨m, A, l, c, e1, h1⟩, _⟩ := (opv_spec hf hx).1
  obtain ⟨⟨m2, A2, l2, c2, e2, h2⟩, _⟩ := (opv_spec hf hy).1
  exact ⟨_, hr a.eval W m m2 A A2 l c l2 c2 e1 e2, ⟨m, A, l, c, m2, A2, l2, c2, rfl, h1, h2⟩, KR3.st _ _⟩)
theorem PW.bldQ1 {n : Int} {x : Operand} (hw : wantB ops fr o = some true) (hd : o.dst = some d) (hN : Nat.blt d N = true) (hx : opv fr x = some (.kw (KI n)))
  (hr : ∀ (ρ : Operand → Value) (W : World) (m : Bool) (A : Option Addr) (l c : Nat), ρ x = .agg #[.bool m, .slice A l c] → (execOp ρ o).run Tryz.prog W = .ok (.value (.agg #[.bool m, .slice A l c, .bool false, .slice none 0 0])) W) (hk : PW B N w0 ops rest ((d, .kw (KQ n 0)) :: fr) Q) : PW B N w0 ops (o :: rest) fr Q :=
 PW.val (r := .kw (KQ n 0)) hw hd hN rfl (fun a W hf => by
  obtain ⟨⟨m, A, l, c, e1, h1⟩, _⟩ := (opv_spec hf hx).1
  exact ⟨_, hr a.eval W m A l c e1, ⟨m, A, l, c, false, none, 0, 0, rfl, h1, RI.zero _⟩, KQ.st _ _⟩) hk
theorem zeroQ (W : World) : KQ 0 0 (.agg #[.bool false, .slice none 0 0, .bool false, .slice none 0 0]) W := ⟨false, none, 0, 0, false, none, 0, 0, rfl, RI.zero _, RI.zero _⟩
end
end Go.Proofs.YthpjmhhfcechmaaGreat.Sy
/- The contract of the program's Gcd, by rules. -/
namespace Go.Proofs.YthpjmhhfcechmaaGreat.Sy
open Go Go.RowKit Ma
theorem ce_gcd : CE 118 := fun args W => by go_simp
theorem sgn_one {x : Int} (h : 0 < x) : sgn x = 1 := by unfold sgn; rw [if_neg (by omega), if_neg (by omega)]
set_option maxHeartbeats 1600000 in
theorem k_gcd0 {x y : Int} {n g : Nat} (X : bd n x) (Y : bd n y) (hn : n ≤ 300000) (hg : Nat.gcd x.natAbs y.natAbs = g) : CallOk 118 [KI x, KI y] (KI (g : Int)) := by
 refine CallOk.enter (l := [.kw (KI x), .kw (KI y)]) 25 ce_gcd Tryz.func118 rfl Tryz.ntmps118 (by simp) ⟨KI.st _, rfl, KI.st _, rfl, trivial⟩ fun w => ?_
 refine SC.seq (SC.region ?_)
 refine PW.box (x := .tmp 0) (r := .kw (KI (x))) (BI 31) rfl rfl rfl rfl rfl bI rfl sh_I ?_
 refine PW.box (x := .tmp 1) (r := .kw (KI (y))) (BI 31) rfl rfl rfl rfl rfl bI rfl sh_I ?_
 refine PW.alloc (BI 31) rfl rfl rfl rfl rfl bI ?_
 refine PW.nil (SX.then (SC.seq ?_))
 refine SC.dx [.val 8 (.kw (KI (x))), .val 9 (.kw (KI ((x.natAbs : Int)))), .val 10 (.kw (KI (y))), .val 11 (.kw (KI ((y.natAbs : Int)))), .put 2 (BI 31) (.kw (KI ((x.natAbs : Int)))), .put 3 (BI 31) (.kw (KI ((y.natAbs : Int))))] [([], [2]), ([0], []), ([], [3]), ([2], []), ([1], [2]), ([3], [3])] rfl (by kernel_rfl) (by kernel_rfl) (by kernel_rfl) rfl ⟨?_, ?_, ?_, ?_, ?_, ?_, trivial⟩ ?_
 ·exact DX.load rfl rfl rfl rfl rfl rfl
 ·exact DX.call (r := .kw (KI ((x.natAbs : Int)))) rfl rfl rfl rfl rfl rfl (KI.st _) rfl (k_abs)
 ·exact DX.load rfl rfl rfl rfl rfl rfl
 ·exact DX.call (r := .kw (KI ((y.natAbs : Int)))) rfl rfl rfl rfl rfl rfl (KI.st _) rfl (k_abs)
 ·exact DX.store (x := .tmp 9) (r := .kw (KI ((x.natAbs : Int)))) rfl rfl rfl rfl rfl rfl sh_I
 ·exact DX.store (x := .tmp 11) (r := .kw (KI ((y.natAbs : Int)))) rfl rfl rfl rfl rfl rfl sh_I
 refine SX.then (SC.seq (SC.block ?_))
 refine SC.loop (S := Nat × Nat) (fun ⟨a, b⟩ => [(2, .bx (BI 31) (KI ((a : Int)))), (3, .bx (BI 31) (KI ((b : Int)))), (4, .nb (BI 31))]) (fun ⟨a, b⟩ => Nat.gcd a b = g ∧ bd n (a : Int) ∧ bd n (b : Int)) (fun ⟨a, b⟩ => b) (x.natAbs, y.natAbs) ⟨hg, X.abs, Y.abs⟩ ⟨rfl, rfl, rfl, trivial⟩ ?_
 rintro ⟨a, b⟩ ⟨hi, A, B⟩
 show SC _ _ _ _ [(2, .bx (BI 31) (KI ((a : Int)))), (3, .bx (BI 31) (KI ((b : Int)))), (4, .nb (BI 31))] _
 refine SC.seq (SC.seq ?_)
 by_cases hb : (b : Int) = 0
 ·obtain rfl : b = 0 := by omega
  obtain rfl : a = g := by simpa using hi
  refine SC.region ?_
  refine PW.load rfl rfl rfl rfl rfl rfl ?_
  refine PW.call (r := .vl (.int .i64 0)) rfl rfl rfl rfl rfl rfl (KV.st _) rfl (k_sign (by rw [hb]; rfl)) ?_
  refine PW.q2 (x := .tmp 13) (y := .const (.int .i64 0)) (.bool false) rfl rfl rfl rfl rfl (fun ρ W h1 h2 => by go_simp) ?_
  refine PW.nil (SX.then (SC.cond (t := false) rfl (SC.exit (SX.thenE (SX.thenE (SX.blockE (SX.then (SC.seq (SC.region ?_)))))))))
  refine PW.load rfl rfl rfl rfl rfl rfl ?_
  refine PW.store (x := .tmp 24) (r := .kw (KI ((a : Int)))) rfl rfl rfl rfl rfl rfl sh_I ?_
  refine PW.nil (SX.then (SC.ret ?_))
  exact SX.doneC (s := 4) (.inl rfl) rfl rfl rfl
 ·refine SC.region ?_
  refine PW.load rfl rfl rfl rfl rfl rfl ?_
  refine PW.call (r := .vl (.int .i64 1)) rfl rfl rfl rfl rfl rfl (KV.st _) rfl (k_sign (sgn_one (by omega))) ?_
  refine PW.q2 (x := .tmp 13) (y := .const (.int .i64 0)) (.bool true) rfl rfl rfl rfl rfl (fun ρ W h1 h2 => by go_simp) ?_
  refine PW.nil (SX.then (SC.cond (t := true) rfl (SC.skip (SX.then (SC.block (SC.seq (SC.region ?_)))))))
  refine PW.load rfl rfl rfl rfl rfl rfl ?_
  refine PW.load rfl rfl rfl rfl rfl rfl ?_
  refine PW.call (r := .kw (K3 (KI (((a : Int)).tdiv ((b : Int)))) (KI (((a : Int)).tmod ((b : Int)))) (KV (.int .i64 0)))) rfl rfl rfl rfl rfl rfl (K3.st (KI.st _) (KI.st _) (KV.st _)) rfl (k_div A (by omega) hb) ?_
  refine PW.move rfl rfl rfl rfl rfl ?_
  refine PW.ext (r := .kw (KI (((a : Int)).tdiv ((b : Int))))) rfl rfl rfl rfl rfl ex30 (KI.st _) rfl ?_
  refine PW.ext (r := .kw (KI (((a : Int)).tmod ((b : Int))))) rfl rfl rfl rfl rfl ex31 (KI.st _) rfl ?_
  refine PW.ext (r := .vl (.int .i64 0)) rfl rfl rfl rfl rfl ex32v (KV.st _) rfl ?_
  refine PW.alloc (BI 31) rfl rfl rfl rfl rfl bI ?_
  refine PW.alloc (BI 31) rfl rfl rfl rfl rfl bI ?_
  refine PW.store (x := .tmp 19) (r := .kw (KI (((a : Int)).tdiv ((b : Int))))) rfl rfl rfl rfl rfl rfl sh_I ?_
  refine PW.store (x := .tmp 20) (r := .kw (KI (((a : Int)).tmod ((b : Int))))) rfl rfl rfl rfl rfl rfl sh_I ?_
  refine PW.assign rfl rfl rfl rfl rfl (PW.nil (SX.then ?_))
  refine SC.dx [.val 22 (.kw (KI ((b : Int)))), .val 23 (.kw (KI (((a : Int)).tmod ((b : Int))))), .put 2 (BI 31) (.kw (KI ((b : Int)))), .put 3 (BI 31) (.kw (KI (((a : Int)).tmod ((b : Int)))))] [([], [3]), ([], [6]), ([0], [2]), ([1], [3])] rfl (by kernel_rfl) (by kernel_rfl) (by kernel_rfl) rfl ⟨?_, ?_, ?_, ?_, trivial⟩ ?_
  ·exact DX.load rfl rfl rfl rfl rfl rfl
  ·exact DX.load rfl rfl rfl rfl rfl rfl
  ·exact DX.store (x := .tmp 22) (r := .kw (KI ((b : Int)))) rfl rfl rfl rfl rfl rfl sh_I
  ·exact DX.store (x := .tmp 23) (r := .kw (KI (((a : Int)).tmod ((b : Int))))) rfl rfl rfl rfl rfl rfl sh_I
  refine SX.blockN ?_
  refine SX.back (b, a % b) ?_ ?_ ?_
  ·exact ⟨by rw [← hi, Nat.gcd_comm a b, Nat.gcd_rec b a, Nat.gcd_comm], B, (A.tmod (y := (b : Int)) : bd n ((a : Int).tmod (b : Int)))⟩
  ·exact (show a % b < b from Nat.mod_lt _ (by omega))
  ·exact ⟨rfl, rfl, rfl, trivial⟩
theorem k_gcd {x y : Int} {a b : Nat} (X : bd a x) (Y : bd b y) (ha : a ≤ 300000) (hb : b ≤ 300000) : CallOk 118 [KI x, KI y] (KI (Int.gcd x y : Int)) := k_gcd0 (X.mono (Nat.le_max_left a b)) (Y.mono (Nat.le_max_right a b)) (by omega) rfl
end Go.Proofs.YthpjmhhfcechmaaGreat.Sy
/- IntegerDivides: the law behind its first statements, by rules. -/
namespace Go.Proofs.YthpjmhhfcechmaaGreat.Sy
open Go Go.RowKit Ma
theorem bd.gcd {x y : Int} {a b : Nat} (X : bd a x) (Y : bd b y) : bd (max a b) (Int.gcd x y : Int) := by
 have h1 := X.mono (Nat.le_max_left a b)
 have h2 := Y.mono (Nat.le_max_right a b)
 by_cases hy : y = 0
 ·subst hy
  rw [Int.gcd_zero_right]
  exact h1.abs
 ·have h3 : Int.gcd x y ≤ y.natAbs := Nat.le_of_dvd (by omega) (Nat.gcd_dvd_right _ _)
  unfold bd at *
  omega
section
variable {x y : Operand} {dst : Option Tmp} {ty : TypeId} {pos : String} {after : Array Edge} {guard : Option (Nat × Bool)} {ρ : Operand → Value} {W : World} {a b : Int}
end
end Go.Proofs.YthpjmhhfcechmaaGreat.Sy
/- Plain laws for fractions. No program in sight. -/
namespace Go.Proofs.YthpjmhhfcechmaaGreat.Ma
open Go
def bq (a : Nat) (q : Rat) : Prop := bd a q.num ∧ bd a (q.den : Int)
theorem bq.mono {a b : Nat} {q : Rat} (h : bq a q) (hab : a ≤ b) : bq b q := ⟨h.1.mono hab, h.2.mono hab⟩
theorem den_pos (q : Rat) : (0 : Int) < (q.den : Int) := by have := q.den_nz; omega
def sgq (q : Rat) : Int := sgn q.num
def cmpq (x y : Rat) : Int := if x < y then -1 else if x = y then 0 else 1
theorem cmpq_int (x y : Rat) : cmp (x.num * y.den) (y.num * x.den) = cmpq x y := by
 unfold cmp cmpq
 by_cases h : x < y
 ·rw [if_pos h, if_pos ((Rat.lt_iff x y).1 h)]
 ·rw [if_neg h, if_neg (fun h2 => h ((Rat.lt_iff x y).2 h2))]
  by_cases e : x = y
  ·rw [if_pos e, if_pos (Rat.eq_iff_mul_eq_mul.1 e)]
  ·rw [if_neg e, if_neg (fun h2 => e (Rat.eq_iff_mul_eq_mul.2 h2))]
theorem num_pos_iff (q : Rat) : 0 < q.num ↔ 0 < q := by
 rw [Rat.lt_iff]; simp
theorem num_neg_iff (q : Rat) : q.num < 0 ↔ q < 0 := by
 rw [Rat.lt_iff]; simp
theorem sgq_eq (q : Rat) : sgq q = cmpq q 0 := by
 unfold sgq sgn cmpq
 by_cases h : q < 0
 ·rw [if_pos h, if_pos ((num_neg_iff q).2 h)]
 ·rw [if_neg h, if_neg (fun h2 => h ((num_neg_iff q).1 h2))]
  by_cases e : q = 0
  ·rw [if_pos e, if_pos (Rat.num_eq_zero.2 e)]
  ·rw [if_neg e, if_neg (fun h2 => e (Rat.num_eq_zero.1 h2))]
theorem cmpq_sub (x y : Rat) : sgq (x - y) = cmpq x y := by
 rw [sgq_eq]
 unfold cmpq
 by_cases h : x < y
 ·have : x - y < 0 := by have := (Rat.lt_iff_sub_pos x y).1 h; rw [← Rat.neg_sub, Rat.neg_lt_iff]; simpa using this
  rw [if_pos h, if_pos this]
 ·have h1 : ¬ x - y < 0 := fun h2 => h (by rw [Rat.lt_iff_sub_pos]; rw [← Rat.neg_sub, Rat.neg_lt_iff] at h2; simpa using h2)
  rw [if_neg h, if_neg h1]
  by_cases e : x = y
  ·subst e; rw [if_pos rfl, if_pos Rat.sub_self]
  ·rw [if_neg e, if_neg (fun h2 => e (by have := congrArg (· + y) h2; simpa [Rat.sub_add_cancel, Rat.zero_add] using this))]
theorem gcd_pos {n d : Int} (h : d ≠ 0) : (0 : Int) < (Int.gcd n d : Int) := by
 have : Int.gcd n d ≠ 0 := fun e => h (Int.gcd_eq_zero_iff.1 e).2
 omega
theorem num_over {n d : Int} (h : d ≠ 0) : (Rat.divInt n d).num = (if d < 0 then -n else n).tdiv (Int.gcd n d : Int) := by
 rw [Rat.num_divInt]
 have hg := gcd_pos (n := n) h
 rw [Int.gcd_comm d n]
 have hd : (Int.gcd n d : Int) ∣ n := Int.gcd_dvd_left ..
 by_cases hs : d < 0
 ·rw [if_pos hs, Int.sign_eq_neg_one_of_neg hs, Int.neg_mul, Int.one_mul]
  exact (Int.tdiv_eq_ediv_of_dvd ((Int.dvd_neg).2 hd)).symm
 ·rw [if_neg hs, Int.sign_eq_one_of_pos (by omega), Int.one_mul]
  exact (Int.tdiv_eq_ediv_of_dvd hd).symm
theorem den_over {n d : Int} (h : d ≠ 0) : ((Rat.divInt n d).den : Int) = (if d < 0 then -d else d).tdiv (Int.gcd n d : Int) := by
 rw [Rat.den_divInt, if_neg h, Int.gcd_comm d n]
 have hg := gcd_pos (n := n) h
 have e : (if d < 0 then -d else d) = (d.natAbs : Int) := by split <;> omega
 rw [e, Int.tdiv_eq_ediv_of_nonneg (by omega)]
 rfl
theorem bq.over {a b : Nat} {n d : Int} (N : bd a n) (D : bd b d) (h : d ≠ 0) : bq (max a b) (Rat.divInt n d) := by
 refine ⟨?_, ?_⟩
 ·rw [num_over h]
  refine (bd.tdiv ?_).mono (Nat.le_max_left a b)
  split
  ·exact N.neg
  ·exact N
 ·rw [den_over h]
  refine (bd.tdiv ?_).mono (Nat.le_max_right a b)
  split
  ·exact D.neg
  ·exact D
theorem add_over (x y : Rat) : x + y = Rat.divInt (x.num * (y.den : Int) + y.num * (x.den : Int)) ((x.den : Int) * (y.den : Int)) := by
 rw [Rat.add_def']
 rw [← Rat.divInt_ofNat]; simp
theorem mul_over (x y : Rat) : x * y = Rat.divInt (x.num * y.num) ((x.den : Int) * (y.den : Int)) := by
 rw [Rat.mul_def', ← Rat.divInt_ofNat]; simp
theorem div_over (x y : Rat) : x / y = Rat.divInt (x.num * (y.den : Int)) ((x.den : Int) * y.num) := by
 rw [Rat.div_def, Rat.inv_def]
 have h1 : x = Rat.divInt x.num (x.den : Int) := (Rat.num_divInt_den x).symm
 conv => lhs; rw [h1]
 rw [Rat.divInt_mul_divInt]
theorem den_mul_ne (x y : Rat) : (x.den : Int) * (y.den : Int) ≠ 0 := Int.mul_ne_zero (by have := x.den_nz; omega) (by have := y.den_nz; omega)
theorem bq.add {a b : Nat} {x y : Rat} (X : bq a x) (Y : bq b y) : bq (a + b + 1) (x + y) := by
 rw [add_over]
 have h := bq.over ((X.1.mul Y.2).add (Y.1.mul X.2)) (X.2.mul Y.2) (den_mul_ne x y)
 exact h.mono (by omega)
theorem bq.mul {a b : Nat} {x y : Rat} (X : bq a x) (Y : bq b y) : bq (a + b) (x * y) := by
 rw [mul_over]
 exact (bq.over (X.1.mul Y.1) (X.2.mul Y.2) (den_mul_ne x y)).mono (by omega)
theorem bq.div {a b : Nat} {x y : Rat} (X : bq a x) (Y : bq b y) (h : y ≠ 0) : bq (a + b) (x / y) := by
 rw [div_over]
 exact (bq.over (X.1.mul Y.2) (X.2.mul Y.1) (Int.mul_ne_zero (by have := x.den_nz; omega) (fun e => h (Rat.num_eq_zero.1 e)))).mono (by omega)
theorem bq.neg {a : Nat} {x : Rat} (X : bq a x) : bq a (-x) := ⟨X.1.neg, X.2⟩
theorem bq.sub {a b : Nat} {x y : Rat} (X : bq a x) (Y : bq b y) : bq (a + b + 1) (x - y) := by rw [Rat.sub_eq_add_neg]; exact X.add Y.neg
theorem bq.int {a : Nat} {n : Int} (N : bd (a + 1) n) : bq (a + 1) (n : Rat) := ⟨N, (bd.one.mono (by omega) : bd (a + 1) 1)⟩
theorem bq.int1 {a : Nat} {n : Int} (N : bd a n) : bq (a + 1) (n : Rat) := bq.int (N.mono (Nat.le_succ a))
end Go.Proofs.YthpjmhhfcechmaaGreat.Ma
/- The program's fractions, by rules. -/
namespace Go.Proofs.YthpjmhhfcechmaaGreat.Sy
open Go Go.RowKit Ma
theorem bd.one : bd 1 1 := bd.lit (by decide)
theorem bq.less {a : Nat} {q : Rat} (h : bq a q) : bd a ((q.den : Int) - 1) := by
 have := den_pos q
 have := h.2
 unfold bd at *
 omega
theorem sgn_lt {z : Int} : sgn z < 0 ↔ z < 0 := by unfold sgn; split <;> (try split) <;> omega
theorem sgn_eq0 {z : Int} : sgn z = 0 ↔ z = 0 := by unfold sgn; split <;> (try split) <;> omega
theorem sgn_less {x : Rat} : sgn ((x.den : Int) - 1) = 0 ↔ x.den = 1 := by rw [sgn_eq0]; omega
theorem sgq_eq0 {x : Rat} : sgq x = 0 ↔ x = 0 := by unfold sgq; rw [sgn_eq0, Rat.num_eq_zero]
theorem den_num_ne (x : Rat) {y : Rat} (h : y ≠ 0) : (x.den : Int) * y.num ≠ 0 := Int.mul_ne_zero (Int.ne_of_gt (den_pos x)) (fun e => h (Rat.num_eq_zero.1 e))
def flq (x : Rat) : Int := x.num / (x.den : Int)
theorem flq_neg {x : Rat} (h : sgn (x.num.tmod (x.den : Int)) < 0) : flq x = x.num.tdiv (x.den : Int) - 1 := by
 have h := sgn_lt.1 h
 have hd := den_pos x
 have e1 := Int.mul_tdiv_add_tmod x.num (x.den : Int)
 have e2 := Int.lt_tmod_of_pos x.num hd
 have hm := Int.tmod_lt_of_pos x.num hd
 unfold flq
 have e3 : x.num = (x.num.tmod (x.den : Int) + (x.den : Int)) + (x.den : Int) * (x.num.tdiv (x.den : Int) - 1) := by rw [Int.mul_sub]; omega
 rw [e3, Int.add_mul_ediv_left _ _ (by omega), Int.ediv_eq_zero_of_lt (by omega) (by omega), ← e3]
 omega
theorem flq_nn {x : Rat} (h : ¬ sgn (x.num.tmod (x.den : Int)) < 0) : flq x = x.num.tdiv (x.den : Int) := by
 have h : ¬ x.num.tmod (x.den : Int) < 0 := fun h2 => h (sgn_lt.2 h2)
 have hd := den_pos x
 have e1 := Int.mul_tdiv_add_tmod x.num (x.den : Int)
 have hm := Int.tmod_lt_of_pos x.num hd
 unfold flq
 have e3 : x.num = x.num.tmod (x.den : Int) + (x.den : Int) * (x.num.tdiv (x.den : Int)) := by omega
 rw [e3, Int.add_mul_ediv_left _ _ (by omega), Int.ediv_eq_zero_of_lt (by omega) (by omega), ← e3]
 omega
theorem k_one : CallOk 93 [] (KI 1) := by
 refine CallOk.enter (l := []) 2 (fun args W => by go_simp) Tryz.func93 rfl Tryz.ntmps93 (by simp) trivial fun w => ?_
 refine SC.seq (SC.region ?_)
 refine PW.alloc (BI 31) rfl rfl rfl rfl rfl bI ?_
 refine PW.nil (SX.then (SC.seq (SC.region ?_)))
 refine PW.call (r := .kw (KI (1))) rfl rfl rfl rfl rfl rfl (KI.st _) rfl (k_new (by decide)) ?_
 refine PW.store (x := .tmp 1) (r := .kw (KI (1))) rfl rfl rfl rfl rfl rfl sh_I ?_
 refine PW.nil (SX.then (SC.ret ?_))
 exact SX.doneC (s := 0) (.inl rfl) rfl rfl rfl
theorem ce_k_rden0 : CE 84 := fun args W => by go_simp
set_option maxHeartbeats 3200000 in
set_option maxRecDepth 100000 in
theorem k_rden0 {x : Rat} {a : Nat} (X : bq a x) (ha : a ≤ 50000) : CallOk 84 [KQ (x).num (((x).den : Int) - 1)] (KI ((x.den : Int) - 1 + 1)) := by
 refine CallOk.enter (l := [.kw (KQ (x).num (((x).den : Int) - 1))]) 7 ce_k_rden0 Tryz.func84 rfl Tryz.ntmps84 (by simp) ⟨(KQ.st _ _), rfl, trivial⟩ fun w => ?_
 refine SC.seq (SC.region ?_)
 refine PW.box (x := .tmp 0) (r := .kw (KQ (x).num (((x).den : Int) - 1))) (BQ 38) rfl rfl rfl rfl rfl bQ rfl sh_Q ?_
 refine PW.alloc (BI 31) rfl rfl rfl rfl rfl bI ?_
 refine PW.nil (SX.then (SC.seq ?_))
 refine SC.fix (s := 1) rfl fun p1 => ?_
 refine SC.dx [.val 3 (.vl (.pointer (some ⟨p1, 2, none⟩))), .val 4 (.kw (KI (((x).den : Int) - 1))), .val 5 (.kw (KI (1))), .val 6 (.kw (KI ((((x).den : Int) - 1) + 1))), .put 2 (BI 31) (.kw (KI ((((x).den : Int) - 1) + 1)))] [([], [1]), ([0], [1]), ([], []), ([1, 2], []), ([3], [2])] rfl (by kernel_rfl) (by kernel_rfl) (by kernel_rfl) rfl ⟨?_, ?_, ?_, ?_, ?_, trivial⟩ ?_
 ·exact DX.fa ⟨p1, 2, none⟩ rfl rfl rfl rfl rfl faQ1
 ·exact DX.fl (s := 1) (r := .kw (KI (((x).den : Int) - 1))) rfl rfl rfl rfl rfl rfl rfl (KI.st _) flQ1
 ·exact DX.call (r := .kw (KI (1))) rfl rfl rfl rfl rfl rfl (KI.st _) rfl (k_one)
 ·exact DX.call (r := .kw (KI ((((x).den : Int) - 1) + 1))) rfl rfl rfl rfl rfl rfl (KI.st _) rfl (k_add ((bq.less X)) bd.one (by omega) (by omega))
 ·exact DX.store (x := .tmp 6) (r := .kw (KI ((((x).den : Int) - 1) + 1))) rfl rfl rfl rfl rfl rfl sh_I
 refine SX.unfix (s := 1) rfl ?_
 refine SX.then (SC.ret ?_)
 exact SX.doneC (s := 2) (.inl rfl) rfl rfl rfl
theorem k_rden {x : Rat} {a : Nat} (X : bq a x) (ha : a ≤ 50000) : CallOk 84 [KQ (x).num (((x).den : Int) - 1)] (KI (x.den : Int)) := by
 have := k_rden0 X ha
 rwa [Int.sub_add_cancel] at this
theorem ce_k_rDen : CE 40 := fun args W => by go_simp
set_option maxHeartbeats 3200000 in
set_option maxRecDepth 100000 in
theorem k_rDen {x : Rat} {a : Nat} (X : bq a x) (ha : a ≤ 50000) : CallOk 40 [KQ (x).num (((x).den : Int) - 1)] (KI (x.den : Int)) := by
 refine CallOk.enter (l := [.kw (KQ (x).num (((x).den : Int) - 1))]) 5 ce_k_rDen Tryz.func40 rfl Tryz.ntmps40 (by simp) ⟨(KQ.st _ _), rfl, trivial⟩ fun w => ?_
 refine SC.seq (SC.region ?_)
 refine PW.box (x := .tmp 0) (r := .kw (KQ (x).num (((x).den : Int) - 1))) (BQ 38) rfl rfl rfl rfl rfl bQ rfl sh_Q ?_
 refine PW.alloc (BI 31) rfl rfl rfl rfl rfl bI ?_
 refine PW.nil (SX.then (SC.seq (SC.region ?_)))
 refine PW.load rfl rfl rfl rfl rfl rfl ?_
 refine PW.call (r := .kw (KI ((x.den : Int)))) rfl rfl rfl rfl rfl rfl (KI.st _) rfl (k_rden X (by omega)) ?_
 refine PW.store (x := .tmp 4) (r := .kw (KI ((x.den : Int)))) rfl rfl rfl rfl rfl rfl sh_I ?_
 refine PW.nil (SX.then (SC.ret ?_))
 exact SX.doneC (s := 2) (.inl rfl) rfl rfl rfl
theorem ce_k_rNum : CE 41 := fun args W => by go_simp
set_option maxHeartbeats 3200000 in
set_option maxRecDepth 100000 in
theorem k_rNum {x : Rat} : CallOk 41 [KQ (x).num (((x).den : Int) - 1)] (KI x.num) := by
 refine CallOk.enter (l := [.kw (KQ (x).num (((x).den : Int) - 1))]) 5 ce_k_rNum Tryz.func41 rfl Tryz.ntmps41 (by simp) ⟨(KQ.st _ _), rfl, trivial⟩ fun w => ?_
 refine SC.seq (SC.region ?_)
 refine PW.box (x := .tmp 0) (r := .kw (KQ (x).num (((x).den : Int) - 1))) (BQ 38) rfl rfl rfl rfl rfl bQ rfl sh_Q ?_
 refine PW.alloc (BI 31) rfl rfl rfl rfl rfl bI ?_
 refine PW.nil (SX.then (SC.seq (SC.region ?_)))
 refine PW.fld (r := .kw (KI ((x).num))) rfl rfl rfl rfl rfl rfl rfl rfl rfl rfl rfl fldQ0 (KI.st _) ?_
 refine PW.store (x := .tmp 4) (r := .kw (KI ((x).num))) rfl rfl rfl rfl rfl rfl sh_I ?_
 refine PW.nil (SX.then (SC.ret ?_))
 exact SX.doneC (s := 2) (.inl rfl) rfl rfl rfl
theorem ce_k_rmade : CE 75 := fun args W => by go_simp
set_option maxHeartbeats 3200000 in
set_option maxRecDepth 100000 in
theorem k_rmade {n d : Int} {a b : Nat} (N : bd a n) (D : bd b d) (h0 : d ≠ 0) (ha : a ≤ 150000) (hb : b ≤ 150000) : CallOk 75 [KI (n), KI (d)] (KQ (Rat.divInt (n) (d)).num (((Rat.divInt (n) (d)).den : Int) - 1)) := by
 refine CallOk.enter (l := [.kw (KI (n)), .kw (KI (d))]) 35 ce_k_rmade Tryz.func75 rfl Tryz.ntmps75 (by simp) ⟨(KI.st _), rfl, (KI.st _), rfl, trivial⟩ fun w => ?_
 refine SC.seq (SC.region ?_)
 refine PW.box (x := .tmp 0) (r := .kw (KI (n))) (BI 31) rfl rfl rfl rfl rfl bI rfl sh_I ?_
 refine PW.box (x := .tmp 1) (r := .kw (KI (d))) (BI 31) rfl rfl rfl rfl rfl bI rfl sh_I ?_
 refine PW.alloc (BQ 38) rfl rfl rfl rfl rfl bQ ?_
 refine PW.nil (SX.then (SC.seq (SC.seq ?_)))
 by_cases hd : sgn d < 0
 ·have hd2 : d < 0 := sgn_lt.1 hd
  refine SC.region ?_
  refine PW.load rfl rfl rfl rfl rfl rfl ?_
  refine PW.call (r := .vl (.int .i64 (sgn d))) rfl rfl rfl rfl rfl rfl (KV.st _) rfl (k_sign rfl) ?_
  refine PW.q2 (x := .tmp 7) (y := .const (.int .i64 0)) (.bool true) rfl rfl rfl rfl rfl (fun ρ W h1 h2 => by exact r_lt h1 h2 (decide_eq_true hd)) ?_
  refine PW.nil (SX.then (SC.cond (t := true) rfl ?_))
  refine SC.dx [.val 9 (.kw (KI (n))), .val 10 (.kw (KI (-n))), .val 11 (.kw (KI (d))), .val 12 (.kw (KI (-d))), .put 2 (BI 31) (.kw (KI (-n))), .put 3 (BI 31) (.kw (KI (-d)))] [([], [2]), ([0], []), ([], [3]), ([2], []), ([1], [2]), ([3], [3])] rfl (by kernel_rfl) (by kernel_rfl) (by kernel_rfl) rfl ⟨?_, ?_, ?_, ?_, ?_, ?_, trivial⟩ ?_
  ·exact DX.load rfl rfl rfl rfl rfl rfl
  ·exact DX.call (r := .kw (KI (-n))) rfl rfl rfl rfl rfl rfl (KI.st _) rfl (k_neg)
  ·exact DX.load rfl rfl rfl rfl rfl rfl
  ·exact DX.call (r := .kw (KI (-d))) rfl rfl rfl rfl rfl rfl (KI.st _) rfl (k_neg)
  ·exact DX.store (x := .tmp 10) (r := .kw (KI (-n))) rfl rfl rfl rfl rfl rfl sh_I
  ·exact DX.store (x := .tmp 12) (r := .kw (KI (-d))) rfl rfl rfl rfl rfl rfl sh_I
  refine SX.then (SC.seq (SC.region ?_))
  refine PW.load rfl rfl rfl rfl rfl rfl ?_
  refine PW.load rfl rfl rfl rfl rfl rfl ?_
  refine PW.call (r := .kw (KI ((Int.gcd (-n) (-d) : Int)))) rfl rfl rfl rfl rfl rfl (KI.st _) rfl (k_gcd N.neg D.neg (by omega) (by omega)) ?_
  refine PW.alloc (BI 31) rfl rfl rfl rfl rfl bI ?_
  refine PW.store (x := .tmp 15) (r := .kw (KI ((Int.gcd (-n) (-d) : Int)))) rfl rfl rfl rfl rfl rfl sh_I ?_
  refine PW.nil (SX.then (SC.seq (SC.region ?_)))
  refine PW.load rfl rfl rfl rfl rfl rfl ?_
  refine PW.load rfl rfl rfl rfl rfl rfl ?_
  refine PW.call (r := .kw (K3 (KI ((-n).tdiv ((Int.gcd (-n) (-d) : Int)))) (KI ((-n).tmod ((Int.gcd (-n) (-d) : Int)))) (KV (.int .i64 0)))) rfl rfl rfl rfl rfl rfl (K3.st (KI.st _) (KI.st _) (KV.st _)) rfl (k_div N.neg (by omega) ((Int.ne_of_gt (gcd_pos (by omega))))) ?_
  refine PW.move rfl rfl rfl rfl rfl ?_
  refine PW.ext (r := .kw (KI ((-n).tdiv ((Int.gcd (-n) (-d) : Int))))) rfl rfl rfl rfl rfl ex30 (KI.st _) rfl ?_
  refine PW.ext (r := .kw (KI ((-n).tmod ((Int.gcd (-n) (-d) : Int))))) rfl rfl rfl rfl rfl ex31 (KI.st _) rfl ?_
  refine PW.ext (r := .vl (.int .i64 0)) rfl rfl rfl rfl rfl ex32v (KV.st _) rfl ?_
  refine PW.store (x := .tmp 20) (r := .kw (KI ((-n).tdiv ((Int.gcd (-n) (-d) : Int))))) rfl rfl rfl rfl rfl rfl sh_I ?_
  refine PW.nil (SX.then (SC.seq (SC.region ?_)))
  refine PW.load rfl rfl rfl rfl rfl rfl ?_
  refine PW.load rfl rfl rfl rfl rfl rfl ?_
  refine PW.call (r := .kw (K3 (KI ((-d).tdiv ((Int.gcd (-n) (-d) : Int)))) (KI ((-d).tmod ((Int.gcd (-n) (-d) : Int)))) (KV (.int .i64 0)))) rfl rfl rfl rfl rfl rfl (K3.st (KI.st _) (KI.st _) (KV.st _)) rfl (k_div D.neg (by omega) ((Int.ne_of_gt (gcd_pos (by omega))))) ?_
  refine PW.move rfl rfl rfl rfl rfl ?_
  refine PW.ext (r := .kw (KI ((-d).tdiv ((Int.gcd (-n) (-d) : Int))))) rfl rfl rfl rfl rfl ex30 (KI.st _) rfl ?_
  refine PW.ext (r := .kw (KI ((-d).tmod ((Int.gcd (-n) (-d) : Int))))) rfl rfl rfl rfl rfl ex31 (KI.st _) rfl ?_
  refine PW.ext (r := .vl (.int .i64 0)) rfl rfl rfl rfl rfl ex32v (KV.st _) rfl ?_
  refine PW.store (x := .tmp 27) (r := .kw (KI ((-d).tdiv ((Int.gcd (-n) (-d) : Int))))) rfl rfl rfl rfl rfl rfl sh_I ?_
  refine PW.nil (SX.then (SC.seq ?_))
  refine SC.dx [.val 30 (.kw (KI ((-n).tdiv ((Int.gcd (-n) (-d) : Int))))), .val 31 (.kw (KI ((-d).tdiv ((Int.gcd (-n) (-d) : Int))))), .val 32 (.kw (KI (1))), .val 33 (.kw (KI (((-d).tdiv ((Int.gcd (-n) (-d) : Int))) - 1))), .val 34 (.kw (KQ ((-n).tdiv ((Int.gcd (-n) (-d) : Int))) (((-d).tdiv ((Int.gcd (-n) (-d) : Int))) - 1))), .put 4 (BQ 38) (.kw (KQ ((-n).tdiv ((Int.gcd (-n) (-d) : Int))) (((-d).tdiv ((Int.gcd (-n) (-d) : Int))) - 1)))] [([], [2]), ([], [3]), ([], []), ([1, 2], []), ([0, 3], []), ([4], [4])] rfl (by kernel_rfl) (by kernel_rfl) (by kernel_rfl) rfl ⟨?_, ?_, ?_, ?_, ?_, ?_, trivial⟩ ?_
  ·exact DX.load rfl rfl rfl rfl rfl rfl
  ·exact DX.load rfl rfl rfl rfl rfl rfl
  ·exact DX.call (r := .kw (KI (1))) rfl rfl rfl rfl rfl rfl (KI.st _) rfl (k_one)
  ·exact DX.call (r := .kw (KI (((-d).tdiv ((Int.gcd (-n) (-d) : Int))) - 1))) rfl rfl rfl rfl rfl rfl (KI.st _) rfl (k_sub ((D.neg).tdiv) bd.one (by omega) (by omega))
  ·exact DX.bldQ (x := .tmp 30) (y := .tmp 33) (n := (-n).tdiv ((Int.gcd (-n) (-d) : Int))) (e := ((-d).tdiv ((Int.gcd (-n) (-d) : Int))) - 1) rfl rfl rfl rfl rfl (fun ρ W m m2 A A2 l c l2 c2 h1 h2 => r_bldQ h1 h2)
  ·exact DX.store (x := .tmp 34) (r := .kw (KQ ((-n).tdiv ((Int.gcd (-n) (-d) : Int))) (((-d).tdiv ((Int.gcd (-n) (-d) : Int))) - 1))) rfl rfl rfl rfl rfl rfl sh_Q
  refine SX.then (SC.ret ?_)
  have eg : Int.gcd (-n) (-d) = Int.gcd n d := by simp
  rw [num_over h0, den_over h0, if_pos hd2, if_pos hd2, ← eg]
  exact SX.doneC (s := 4) (.inl rfl) rfl rfl rfl
 ·have hd2 : ¬ d < 0 := fun h => hd (sgn_lt.2 h)
  refine SC.region ?_
  refine PW.load rfl rfl rfl rfl rfl rfl ?_
  refine PW.call (r := .vl (.int .i64 (sgn d))) rfl rfl rfl rfl rfl rfl (KV.st _) rfl (k_sign rfl) ?_
  refine PW.q2 (x := .tmp 7) (y := .const (.int .i64 0)) (.bool false) rfl rfl rfl rfl rfl (fun ρ W h1 h2 => by exact r_lt h1 h2 (decide_eq_false hd)) ?_
  refine PW.nil (SX.then (SC.cond (t := false) rfl (SC.skip (SX.then (SC.seq (SC.region ?_))))))
  refine PW.load rfl rfl rfl rfl rfl rfl ?_
  refine PW.load rfl rfl rfl rfl rfl rfl ?_
  refine PW.call (r := .kw (KI ((Int.gcd n d : Int)))) rfl rfl rfl rfl rfl rfl (KI.st _) rfl (k_gcd N D (by omega) (by omega)) ?_
  refine PW.alloc (BI 31) rfl rfl rfl rfl rfl bI ?_
  refine PW.store (x := .tmp 15) (r := .kw (KI ((Int.gcd n d : Int)))) rfl rfl rfl rfl rfl rfl sh_I ?_
  refine PW.nil (SX.then (SC.seq (SC.region ?_)))
  refine PW.load rfl rfl rfl rfl rfl rfl ?_
  refine PW.load rfl rfl rfl rfl rfl rfl ?_
  refine PW.call (r := .kw (K3 (KI ((n).tdiv ((Int.gcd n d : Int)))) (KI ((n).tmod ((Int.gcd n d : Int)))) (KV (.int .i64 0)))) rfl rfl rfl rfl rfl rfl (K3.st (KI.st _) (KI.st _) (KV.st _)) rfl (k_div N (by omega) ((Int.ne_of_gt (gcd_pos (by omega))))) ?_
  refine PW.move rfl rfl rfl rfl rfl ?_
  refine PW.ext (r := .kw (KI ((n).tdiv ((Int.gcd n d : Int))))) rfl rfl rfl rfl rfl ex30 (KI.st _) rfl ?_
  refine PW.ext (r := .kw (KI ((n).tmod ((Int.gcd n d : Int))))) rfl rfl rfl rfl rfl ex31 (KI.st _) rfl ?_
  refine PW.ext (r := .vl (.int .i64 0)) rfl rfl rfl rfl rfl ex32v (KV.st _) rfl ?_
  refine PW.store (x := .tmp 20) (r := .kw (KI ((n).tdiv ((Int.gcd n d : Int))))) rfl rfl rfl rfl rfl rfl sh_I ?_
  refine PW.nil (SX.then (SC.seq (SC.region ?_)))
  refine PW.load rfl rfl rfl rfl rfl rfl ?_
  refine PW.load rfl rfl rfl rfl rfl rfl ?_
  refine PW.call (r := .kw (K3 (KI ((d).tdiv ((Int.gcd n d : Int)))) (KI ((d).tmod ((Int.gcd n d : Int)))) (KV (.int .i64 0)))) rfl rfl rfl rfl rfl rfl (K3.st (KI.st _) (KI.st _) (KV.st _)) rfl (k_div D (by omega) ((Int.ne_of_gt (gcd_pos (by omega))))) ?_
  refine PW.move rfl rfl rfl rfl rfl ?_
  refine PW.ext (r := .kw (KI ((d).tdiv ((Int.gcd n d : Int))))) rfl rfl rfl rfl rfl ex30 (KI.st _) rfl ?_
  refine PW.ext (r := .kw (KI ((d).tmod ((Int.gcd n d : Int))))) rfl rfl rfl rfl rfl ex31 (KI.st _) rfl ?_
  refine PW.ext (r := .vl (.int .i64 0)) rfl rfl rfl rfl rfl ex32v (KV.st _) rfl ?_
  refine PW.store (x := .tmp 27) (r := .kw (KI ((d).tdiv ((Int.gcd n d : Int))))) rfl rfl rfl rfl rfl rfl sh_I ?_
  refine PW.nil (SX.then (SC.seq ?_))
  refine SC.dx [.val 30 (.kw (KI ((n).tdiv ((Int.gcd n d : Int))))), .val 31 (.kw (KI ((d).tdiv ((Int.gcd n d : Int))))), .val 32 (.kw (KI (1))), .val 33 (.kw (KI (((d).tdiv ((Int.gcd n d : Int))) - 1))), .val 34 (.kw (KQ ((n).tdiv ((Int.gcd n d : Int))) (((d).tdiv ((Int.gcd n d : Int))) - 1))), .put 4 (BQ 38) (.kw (KQ ((n).tdiv ((Int.gcd n d : Int))) (((d).tdiv ((Int.gcd n d : Int))) - 1)))] [([], [2]), ([], [3]), ([], []), ([1, 2], []), ([0, 3], []), ([4], [4])] rfl (by kernel_rfl) (by kernel_rfl) (by kernel_rfl) rfl ⟨?_, ?_, ?_, ?_, ?_, ?_, trivial⟩ ?_
  ·exact DX.load rfl rfl rfl rfl rfl rfl
  ·exact DX.load rfl rfl rfl rfl rfl rfl
  ·exact DX.call (r := .kw (KI (1))) rfl rfl rfl rfl rfl rfl (KI.st _) rfl (k_one)
  ·exact DX.call (r := .kw (KI (((d).tdiv ((Int.gcd n d : Int))) - 1))) rfl rfl rfl rfl rfl rfl (KI.st _) rfl (k_sub ((D).tdiv) bd.one (by omega) (by omega))
  ·exact DX.bldQ (x := .tmp 30) (y := .tmp 33) (n := (n).tdiv ((Int.gcd n d : Int))) (e := ((d).tdiv ((Int.gcd n d : Int))) - 1) rfl rfl rfl rfl rfl (fun ρ W m m2 A A2 l c l2 c2 h1 h2 => r_bldQ h1 h2)
  ·exact DX.store (x := .tmp 34) (r := .kw (KQ ((n).tdiv ((Int.gcd n d : Int))) (((d).tdiv ((Int.gcd n d : Int))) - 1))) rfl rfl rfl rfl rfl rfl sh_Q
  refine SX.then (SC.ret ?_)
  rw [num_over h0, den_over h0, if_neg hd2, if_neg hd2]
  exact SX.doneC (s := 4) (.inl rfl) rfl rfl rfl
theorem ce_k_rnew : CE 15 := fun args W => by go_simp
set_option maxHeartbeats 3200000 in
set_option maxRecDepth 100000 in
theorem k_rnew {n d : Int} {a b : Nat} (N : bd a n) (D : bd b d) (h0 : d ≠ 0) (ha : a ≤ 150000) (hb : b ≤ 150000) : CallOk 15 [KI (n), KI (d)] (K2 (KQ (Rat.divInt (n) (d)).num (((Rat.divInt (n) (d)).den : Int) - 1)) (KV (.int .i64 0))) := by
 refine CallOk.enter (l := [.kw (KI (n)), .kw (KI (d))]) 13 ce_k_rnew Tryz.func15 rfl Tryz.ntmps15 (by simp) ⟨(KI.st _), rfl, (KI.st _), rfl, trivial⟩ fun w => ?_
 refine SC.seq (SC.region ?_)
 refine PW.box (x := .tmp 0) (r := .kw (KI (n))) (BI 31) rfl rfl rfl rfl rfl bI rfl sh_I ?_
 refine PW.box (x := .tmp 1) (r := .kw (KI (d))) (BI 31) rfl rfl rfl rfl rfl bI rfl sh_I ?_
 refine PW.alloc (BQ 38) rfl rfl rfl rfl rfl bQ ?_
 refine PW.assign rfl rfl rfl rfl rfl (PW.nil (SX.then (SC.seq (SC.seq (SC.region ?_)))))
 refine PW.load rfl rfl rfl rfl rfl rfl ?_
 refine PW.call (r := .vl (.int .i64 (sgn d))) rfl rfl rfl rfl rfl rfl (KV.st _) rfl (k_sign rfl) ?_
 refine PW.q2 (x := .tmp 7) (y := .const (.int .i64 0)) (.bool false) rfl rfl rfl rfl rfl (fun ρ W h1 h2 => by exact r_eqF h1 h2 (fun h => h0 (sgn_eq0.1 h))) ?_
 refine PW.nil (SX.then (SC.cond (t := false) rfl (SC.skip (SX.then (SC.seq (SC.region ?_))))))
 refine PW.load rfl rfl rfl rfl rfl rfl ?_
 refine PW.load rfl rfl rfl rfl rfl rfl ?_
 refine PW.call (r := .kw (KQ (Rat.divInt (n) (d)).num (((Rat.divInt (n) (d)).den : Int) - 1))) rfl rfl rfl rfl rfl rfl (KQ.st _ _) rfl (k_rmade N D h0 (by omega) (by omega)) ?_
 refine PW.store (x := .tmp 12) (r := .kw (KQ (Rat.divInt (n) (d)).num (((Rat.divInt (n) (d)).den : Int) - 1))) rfl rfl rfl rfl rfl rfl sh_Q ?_
 refine PW.assign rfl rfl rfl rfl rfl (PW.nil (SX.then (SC.ret ?_)))
 exact SX.done2 (s := 4) (t := 5) (r := .vl (.int .i64 0)) (.inl rfl) rfl rfl rfl rfl
set_option maxHeartbeats 3200000 in
set_option maxRecDepth 100000 in
theorem k_rnew0 {n d : Int} (h0 : d = 0) : CallOk 15 [KI (n), KI (d)] (K2 (KQ 0 0) (KV (.int .i64 6))) := by
 refine CallOk.enter (l := [.kw (KI (n)), .kw (KI (d))]) 13 ce_k_rnew Tryz.func15 rfl Tryz.ntmps15 (by simp) ⟨(KI.st _), rfl, (KI.st _), rfl, trivial⟩ fun w => ?_
 refine SC.seq (SC.region ?_)
 refine PW.box (x := .tmp 0) (r := .kw (KI (n))) (BI 31) rfl rfl rfl rfl rfl bI rfl sh_I ?_
 refine PW.box (x := .tmp 1) (r := .kw (KI (d))) (BI 31) rfl rfl rfl rfl rfl bI rfl sh_I ?_
 refine PW.alloc (BQ 38) rfl rfl rfl rfl rfl bQ ?_
 refine PW.assign rfl rfl rfl rfl rfl (PW.nil (SX.then (SC.seq (SC.seq (SC.region ?_)))))
 refine PW.load rfl rfl rfl rfl rfl rfl ?_
 refine PW.call (r := .vl (.int .i64 (sgn d))) rfl rfl rfl rfl rfl rfl (KV.st _) rfl (k_sign rfl) ?_
 refine PW.q2 (x := .tmp 7) (y := .const (.int .i64 0)) (.bool true) rfl rfl rfl rfl rfl (fun ρ W h1 h2 => by exact r_eqT h1 h2 (sgn_eq0.2 h0)) ?_
 refine PW.nil (SX.then (SC.cond (t := true) rfl (SC.seq (SC.region ?_))))
 refine PW.val (r := .kw (KQ (0) (0))) rfl rfl rfl rfl (fun a W hf => ⟨_, r_bldQ0, zeroQ W, KQ.st _ _⟩) ?_
 refine PW.store (x := .tmp 9) (r := .kw (KQ (0) (0))) rfl rfl rfl rfl rfl rfl sh_Q ?_
 refine PW.assign rfl rfl rfl rfl rfl (PW.nil (SX.then (SC.ret (SX.thenR ?_))))
 exact SX.done2 (s := 4) (t := 5) (r := .vl (.int .i64 6)) (.inl rfl) rfl rfl rfl rfl
theorem ce_k_rof : CE 19 := fun args W => by go_simp
set_option maxHeartbeats 3200000 in
set_option maxRecDepth 100000 in
theorem k_rof {n : Int} : CallOk 19 [KI (n)] (KQ (((n : Int) : Rat)).num (((((n : Int) : Rat)).den : Int) - 1)) := by
 refine CallOk.enter (l := [.kw (KI (n))]) 5 ce_k_rof Tryz.func19 rfl Tryz.ntmps19 (by simp) ⟨(KI.st _), rfl, trivial⟩ fun w => ?_
 refine SC.seq (SC.region ?_)
 refine PW.box (x := .tmp 0) (r := .kw (KI (n))) (BI 31) rfl rfl rfl rfl rfl bI rfl sh_I ?_
 refine PW.alloc (BQ 38) rfl rfl rfl rfl rfl bQ ?_
 refine PW.nil (SX.then (SC.seq (SC.region ?_)))
 refine PW.load rfl rfl rfl rfl rfl rfl ?_
 refine PW.bldQ1 (x := .tmp 3) (n := n) rfl rfl rfl rfl (fun ρ W m A l c h1 => r_bldQ1 h1) ?_
 refine PW.store (x := .tmp 4) (r := .kw (KQ (n) (0))) rfl rfl rfl rfl rfl rfl sh_Q ?_
 refine PW.nil (SX.then (SC.ret ?_))
 rw [Rat.num_intCast, Rat.den_intCast]
 exact SX.doneC (s := 2) (.inl rfl) rfl rfl rfl
theorem ce_k_rwhole : CE 21 := fun args W => by go_simp
set_option maxHeartbeats 3200000 in
set_option maxRecDepth 100000 in
theorem k_rwhole {x : Rat} : CallOk 21 [KQ (x).num (((x).den : Int) - 1)] (KV (.bool (decide (x.den = 1)))) := by
 refine CallOk.enter (l := [.kw (KQ (x).num (((x).den : Int) - 1))]) 7 ce_k_rwhole Tryz.func21 rfl Tryz.ntmps21 (by simp) ⟨(KQ.st _ _), rfl, trivial⟩ fun w => ?_
 refine SC.seq (SC.region ?_)
 refine PW.box (x := .tmp 0) (r := .kw (KQ (x).num (((x).den : Int) - 1))) (BQ 38) rfl rfl rfl rfl rfl bQ rfl sh_Q ?_
 refine PW.assign rfl rfl rfl rfl rfl (PW.nil (SX.then (SC.seq ?_)))
 by_cases hw : x.den = 1
 ·refine SC.region ?_
  refine PW.fld (r := .kw (KI (((x).den : Int) - 1))) rfl rfl rfl rfl rfl rfl rfl rfl rfl rfl rfl fldQ1 (KI.st _) ?_
  refine PW.call (r := .vl (.int .i64 (sgn (((x).den : Int) - 1)))) rfl rfl rfl rfl rfl rfl (KV.st _) rfl (k_sign rfl) ?_
  refine PW.q2 (x := .tmp 5) (y := .const (.int .i64 0)) (.bool true) rfl rfl rfl rfl rfl (fun ρ W h1 h2 => by exact r_eqT h1 h2 (sgn_less.2 hw)) ?_
  refine PW.assign rfl rfl rfl rfl rfl (PW.nil (SX.then (SC.ret ?_)))
  rw [decide_eq_true hw]
  exact SX.done (s := 2) (r := .vl (.bool true)) rfl rfl rfl
 ·refine SC.region ?_
  refine PW.fld (r := .kw (KI (((x).den : Int) - 1))) rfl rfl rfl rfl rfl rfl rfl rfl rfl rfl rfl fldQ1 (KI.st _) ?_
  refine PW.call (r := .vl (.int .i64 (sgn (((x).den : Int) - 1)))) rfl rfl rfl rfl rfl rfl (KV.st _) rfl (k_sign rfl) ?_
  refine PW.q2 (x := .tmp 5) (y := .const (.int .i64 0)) (.bool false) rfl rfl rfl rfl rfl (fun ρ W h1 h2 => by exact r_eqF h1 h2 (fun h => hw (sgn_less.1 h))) ?_
  refine PW.assign rfl rfl rfl rfl rfl (PW.nil (SX.then (SC.ret ?_)))
  rw [decide_eq_false hw]
  exact SX.done (s := 2) (r := .vl (.bool false)) rfl rfl rfl
theorem ce_k_rsign : CE 23 := fun args W => by go_simp
set_option maxHeartbeats 3200000 in
set_option maxRecDepth 100000 in
theorem k_rsign {x : Rat} : CallOk 23 [KQ (x).num (((x).den : Int) - 1)] (KV (.int .i64 (sgq x))) := by
 refine CallOk.enter (l := [.kw (KQ (x).num (((x).den : Int) - 1))]) 6 ce_k_rsign Tryz.func23 rfl Tryz.ntmps23 (by simp) ⟨(KQ.st _ _), rfl, trivial⟩ fun w => ?_
 refine SC.seq (SC.region ?_)
 refine PW.box (x := .tmp 0) (r := .kw (KQ (x).num (((x).den : Int) - 1))) (BQ 38) rfl rfl rfl rfl rfl bQ rfl sh_Q ?_
 refine PW.assign rfl rfl rfl rfl rfl (PW.nil (SX.then (SC.seq (SC.region ?_))))
 refine PW.fld (r := .kw (KI ((x).num))) rfl rfl rfl rfl rfl rfl rfl rfl rfl rfl rfl fldQ0 (KI.st _) ?_
 refine PW.call (r := .vl (.int .i64 (sgn ((x).num)))) rfl rfl rfl rfl rfl rfl (KV.st _) rfl (k_sign rfl) ?_
 refine PW.assign rfl rfl rfl rfl rfl (PW.nil (SX.then (SC.ret ?_)))
 exact SX.done (s := 2) (r := .vl (.int .i64 (sgn ((x).num)))) rfl rfl rfl
theorem ce_k_rcmp : CE 25 := fun args W => by go_simp
set_option maxHeartbeats 3200000 in
set_option maxRecDepth 100000 in
theorem k_rcmp {x y : Rat} {a b : Nat} (X : bq a x) (Y : bq b y) (ha : a ≤ 50000) (hb : b ≤ 50000) : CallOk 25 [KQ (x).num (((x).den : Int) - 1), KQ (y).num (((y).den : Int) - 1)] (KV (.int .i64 (cmpq x y))) := by
 refine CallOk.enter (l := [.kw (KQ (x).num (((x).den : Int) - 1)), .kw (KQ (y).num (((y).den : Int) - 1))]) 16 ce_k_rcmp Tryz.func25 rfl Tryz.ntmps25 (by simp) ⟨(KQ.st _ _), rfl, (KQ.st _ _), rfl, trivial⟩ fun w => ?_
 refine SC.seq (SC.region ?_)
 refine PW.box (x := .tmp 0) (r := .kw (KQ (x).num (((x).den : Int) - 1))) (BQ 38) rfl rfl rfl rfl rfl bQ rfl sh_Q ?_
 refine PW.box (x := .tmp 1) (r := .kw (KQ (y).num (((y).den : Int) - 1))) (BQ 38) rfl rfl rfl rfl rfl bQ rfl sh_Q ?_
 refine PW.assign rfl rfl rfl rfl rfl (PW.nil (SX.then (SC.seq ?_)))
 refine SC.fix (s := 2) rfl fun p2 => ?_
 refine SC.fix (s := 3) rfl fun p3 => ?_
 refine SC.dx [.val 5 (.vl (.pointer (some ⟨p2, 0, none⟩))), .val 6 (.kw (KI ((x).num))), .val 7 (.kw (KQ (y).num (((y).den : Int) - 1))), .val 8 (.kw (KI ((y.den : Int)))), .val 9 (.kw (KI (((x).num) * ((y.den : Int))))), .val 10 (.vl (.pointer (some ⟨p3, 0, none⟩))), .val 11 (.kw (KI ((y).num))), .val 12 (.kw (KQ (x).num (((x).den : Int) - 1))), .val 13 (.kw (KI ((x.den : Int)))), .val 14 (.kw (KI (((y).num) * ((x.den : Int))))), .val 15 (.vl (.int .i64 (cmp (((x).num) * ((y.den : Int))) (((y).num) * ((x.den : Int)))))), .val 4 (.vl (.int .i64 (cmp (((x).num) * ((y.den : Int))) (((y).num) * ((x.den : Int))))))] [([], [2]), ([0], [2]), ([], [3]), ([2], []), ([1, 3], []), ([], [3]), ([5], [3]), ([], [2]), ([7], []), ([6, 8], []), ([4, 9], []), ([10], [])] rfl (by kernel_rfl) (by kernel_rfl) (by kernel_rfl) rfl ⟨?_, ?_, ?_, ?_, ?_, ?_, ?_, ?_, ?_, ?_, ?_, ?_, trivial⟩ ?_
 ·exact DX.fa ⟨p2, 0, none⟩ rfl rfl rfl rfl rfl faQ0
 ·exact DX.fl (s := 2) (r := .kw (KI ((x).num))) rfl rfl rfl rfl rfl rfl rfl (KI.st _) flQ0
 ·exact DX.loadp rfl rfl rfl rfl rfl rfl
 ·exact DX.call (r := .kw (KI ((y.den : Int)))) rfl rfl rfl rfl rfl rfl (KI.st _) rfl (k_rden Y (by omega))
 ·exact DX.call (r := .kw (KI (((x).num) * ((y.den : Int))))) rfl rfl rfl rfl rfl rfl (KI.st _) rfl (k_mul ((X).1) Y.2 (by omega) (by omega))
 ·exact DX.fa ⟨p3, 0, none⟩ rfl rfl rfl rfl rfl faQ0
 ·exact DX.fl (s := 3) (r := .kw (KI ((y).num))) rfl rfl rfl rfl rfl rfl rfl (KI.st _) flQ0
 ·exact DX.loadp rfl rfl rfl rfl rfl rfl
 ·exact DX.call (r := .kw (KI ((x.den : Int)))) rfl rfl rfl rfl rfl rfl (KI.st _) rfl (k_rden X (by omega))
 ·exact DX.call (r := .kw (KI (((y).num) * ((x.den : Int))))) rfl rfl rfl rfl rfl rfl (KI.st _) rfl (k_mul ((Y).1) X.2 (by omega) (by omega))
 ·exact DX.call (r := .vl (.int .i64 (cmp (((x).num) * ((y.den : Int))) (((y).num) * ((x.den : Int)))))) rfl rfl rfl rfl rfl rfl (KV.st _) rfl (k_cmp rfl)
 ·exact DX.assign rfl rfl rfl rfl rfl rfl
 refine SX.unfix (s := 2) rfl ?_
 refine SX.unfix (s := 3) rfl ?_
 refine SX.then (SC.ret ?_)
 rw [← cmpq_int]
 exact SX.done (s := 4) (r := .vl (.int .i64 (cmp (((x).num) * ((y.den : Int))) (((y).num) * ((x.den : Int)))))) rfl rfl rfl
theorem ce_k_rneg : CE 48 := fun args W => by go_simp
set_option maxHeartbeats 3200000 in
set_option maxRecDepth 100000 in
theorem k_rneg {x : Rat} : CallOk 48 [KQ (x).num (((x).den : Int) - 1)] (KQ (-x).num (((-x).den : Int) - 1)) := by
 refine CallOk.enter (l := [.kw (KQ (x).num (((x).den : Int) - 1))]) 9 ce_k_rneg Tryz.func48 rfl Tryz.ntmps48 (by simp) ⟨(KQ.st _ _), rfl, trivial⟩ fun w => ?_
 refine SC.seq (SC.region ?_)
 refine PW.box (x := .tmp 0) (r := .kw (KQ (x).num (((x).den : Int) - 1))) (BQ 38) rfl rfl rfl rfl rfl bQ rfl sh_Q ?_
 refine PW.alloc (BQ 38) rfl rfl rfl rfl rfl bQ ?_
 refine PW.nil (SX.then (SC.seq ?_))
 refine SC.fix (s := 1) rfl fun p1 => ?_
 refine SC.dx [.val 3 (.vl (.pointer (some ⟨p1, 0, none⟩))), .val 4 (.kw (KI ((x).num))), .val 5 (.kw (KI (-((x).num)))), .val 6 (.vl (.pointer (some ⟨p1, 2, none⟩))), .val 7 (.kw (KI (((x).den : Int) - 1))), .val 8 (.kw (KQ (-((x).num)) (((x).den : Int) - 1))), .put 2 (BQ 38) (.kw (KQ (-((x).num)) (((x).den : Int) - 1)))] [([], [1]), ([0], [1]), ([1], []), ([], [1]), ([3], [1]), ([2, 4], []), ([5], [2])] rfl (by kernel_rfl) (by kernel_rfl) (by kernel_rfl) rfl ⟨?_, ?_, ?_, ?_, ?_, ?_, ?_, trivial⟩ ?_
 ·exact DX.fa ⟨p1, 0, none⟩ rfl rfl rfl rfl rfl faQ0
 ·exact DX.fl (s := 1) (r := .kw (KI ((x).num))) rfl rfl rfl rfl rfl rfl rfl (KI.st _) flQ0
 ·exact DX.call (r := .kw (KI (-((x).num)))) rfl rfl rfl rfl rfl rfl (KI.st _) rfl (k_neg)
 ·exact DX.fa ⟨p1, 2, none⟩ rfl rfl rfl rfl rfl faQ1
 ·exact DX.fl (s := 1) (r := .kw (KI (((x).den : Int) - 1))) rfl rfl rfl rfl rfl rfl rfl (KI.st _) flQ1
 ·exact DX.bldQ (x := .tmp 5) (y := .tmp 7) (n := -((x).num)) (e := ((x).den : Int) - 1) rfl rfl rfl rfl rfl (fun ρ W m m2 A A2 l c l2 c2 h1 h2 => r_bldQ h1 h2)
 ·exact DX.store (x := .tmp 8) (r := .kw (KQ (-((x).num)) (((x).den : Int) - 1))) rfl rfl rfl rfl rfl rfl sh_Q
 refine SX.unfix (s := 1) rfl ?_
 refine SX.then (SC.ret ?_)
 rw [Rat.neg_num, Rat.neg_den]
 exact SX.doneC (s := 2) (.inl rfl) rfl rfl rfl
theorem ce_k_radd : CE 47 := fun args W => by go_simp
set_option maxHeartbeats 3200000 in
set_option maxRecDepth 100000 in
theorem k_radd {x y : Rat} {a b : Nat} (X : bq a x) (Y : bq b y) (ha : a ≤ 50000) (hb : b ≤ 50000) : CallOk 47 [KQ (x).num (((x).den : Int) - 1), KQ (y).num (((y).den : Int) - 1)] (KQ (x + y).num (((x + y).den : Int) - 1)) := by
 refine CallOk.enter (l := [.kw (KQ (x).num (((x).den : Int) - 1)), .kw (KQ (y).num (((y).den : Int) - 1))]) 24 ce_k_radd Tryz.func47 rfl Tryz.ntmps47 (by simp) ⟨(KQ.st _ _), rfl, (KQ.st _ _), rfl, trivial⟩ fun w => ?_
 refine SC.seq (SC.region ?_)
 refine PW.box (x := .tmp 0) (r := .kw (KQ (x).num (((x).den : Int) - 1))) (BQ 38) rfl rfl rfl rfl rfl bQ rfl sh_Q ?_
 refine PW.box (x := .tmp 1) (r := .kw (KQ (y).num (((y).den : Int) - 1))) (BQ 38) rfl rfl rfl rfl rfl bQ rfl sh_Q ?_
 refine PW.alloc (BQ 38) rfl rfl rfl rfl rfl bQ ?_
 refine PW.nil (SX.then (SC.seq ?_))
 refine SC.dx [.val 7 (.kw (KQ (x).num (((x).den : Int) - 1))), .val 8 (.kw (KI ((x.den : Int)))), .val 9 (.kw (KQ (y).num (((y).den : Int) - 1))), .val 10 (.kw (KI ((y.den : Int)))), .new 5 (BI 31), .new 6 (BI 31), .put 5 (BI 31) (.kw (KI ((x.den : Int)))), .put 6 (BI 31) (.kw (KI ((y.den : Int))))] [([], [2]), ([0], []), ([], [3]), ([2], []), ([], []), ([], []), ([4, 1], []), ([5, 3], [])] rfl (by kernel_rfl) (by kernel_rfl) (by kernel_rfl) rfl ⟨?_, ?_, ?_, ?_, ?_, ?_, ?_, ?_, trivial⟩ ?_
 ·exact DX.load rfl rfl rfl rfl rfl rfl
 ·exact DX.call (r := .kw (KI ((x.den : Int)))) rfl rfl rfl rfl rfl rfl (KI.st _) rfl (k_rden X (by omega))
 ·exact DX.load rfl rfl rfl rfl rfl rfl
 ·exact DX.call (r := .kw (KI ((y.den : Int)))) rfl rfl rfl rfl rfl rfl (KI.st _) rfl (k_rden Y (by omega))
 ·exact DX.alloc (BI 31) rfl rfl rfl rfl bI rfl
 ·exact DX.alloc (BI 31) rfl rfl rfl rfl bI rfl
 ·exact DX.store (x := .tmp 8) (r := .kw (KI ((x.den : Int)))) rfl rfl rfl rfl rfl rfl sh_I
 ·exact DX.store (x := .tmp 10) (r := .kw (KI ((y.den : Int)))) rfl rfl rfl rfl rfl rfl sh_I
 refine SX.then (SC.seq ?_)
 refine SC.fix (s := 2) rfl fun p2 => ?_
 refine SC.fix (s := 3) rfl fun p3 => ?_
 refine SC.dx [.val 11 (.vl (.pointer (some ⟨p2, 0, none⟩))), .val 12 (.kw (KI ((x).num))), .val 13 (.kw (KI ((y.den : Int)))), .val 14 (.kw (KI (((x).num) * ((y.den : Int))))), .val 15 (.vl (.pointer (some ⟨p3, 0, none⟩))), .val 16 (.kw (KI ((y).num))), .val 17 (.kw (KI ((x.den : Int)))), .val 18 (.kw (KI (((y).num) * ((x.den : Int))))), .val 19 (.kw (KI ((((x).num) * ((y.den : Int))) + (((y).num) * ((x.den : Int)))))), .val 20 (.kw (KI ((x.den : Int)))), .val 21 (.kw (KI ((y.den : Int)))), .val 22 (.kw (KI (((x.den : Int)) * ((y.den : Int))))), .val 23 (.kw (KQ (Rat.divInt ((((x).num) * ((y.den : Int))) + (((y).num) * ((x.den : Int)))) (((x.den : Int)) * ((y.den : Int)))).num (((Rat.divInt ((((x).num) * ((y.den : Int))) + (((y).num) * ((x.den : Int)))) (((x.den : Int)) * ((y.den : Int)))).den : Int) - 1))), .put 4 (BQ 38) (.kw (KQ (Rat.divInt ((((x).num) * ((y.den : Int))) + (((y).num) * ((x.den : Int)))) (((x.den : Int)) * ((y.den : Int)))).num (((Rat.divInt ((((x).num) * ((y.den : Int))) + (((y).num) * ((x.den : Int)))) (((x.den : Int)) * ((y.den : Int)))).den : Int) - 1)))] [([], [2]), ([0], [2]), ([], [6]), ([1, 2], []), ([], [3]), ([4], [3]), ([], [5]), ([5, 6], []), ([3, 7], []), ([], [5]), ([], [6]), ([9, 10], []), ([8, 11], []), ([12], [4])] rfl (by kernel_rfl) (by kernel_rfl) (by kernel_rfl) rfl ⟨?_, ?_, ?_, ?_, ?_, ?_, ?_, ?_, ?_, ?_, ?_, ?_, ?_, ?_, trivial⟩ ?_
 ·exact DX.fa ⟨p2, 0, none⟩ rfl rfl rfl rfl rfl faQ0
 ·exact DX.fl (s := 2) (r := .kw (KI ((x).num))) rfl rfl rfl rfl rfl rfl rfl (KI.st _) flQ0
 ·exact DX.load rfl rfl rfl rfl rfl rfl
 ·exact DX.call (r := .kw (KI (((x).num) * ((y.den : Int))))) rfl rfl rfl rfl rfl rfl (KI.st _) rfl (k_mul ((X).1) Y.2 (by omega) (by omega))
 ·exact DX.fa ⟨p3, 0, none⟩ rfl rfl rfl rfl rfl faQ0
 ·exact DX.fl (s := 3) (r := .kw (KI ((y).num))) rfl rfl rfl rfl rfl rfl rfl (KI.st _) flQ0
 ·exact DX.load rfl rfl rfl rfl rfl rfl
 ·exact DX.call (r := .kw (KI (((y).num) * ((x.den : Int))))) rfl rfl rfl rfl rfl rfl (KI.st _) rfl (k_mul ((Y).1) X.2 (by omega) (by omega))
 ·exact DX.call (r := .kw (KI ((((x).num) * ((y.den : Int))) + (((y).num) * ((x.den : Int)))))) rfl rfl rfl rfl rfl rfl (KI.st _) rfl (k_add (((X).1).mul Y.2) (((Y).1).mul X.2) (by omega) (by omega))
 ·exact DX.load rfl rfl rfl rfl rfl rfl
 ·exact DX.load rfl rfl rfl rfl rfl rfl
 ·exact DX.call (r := .kw (KI (((x.den : Int)) * ((y.den : Int))))) rfl rfl rfl rfl rfl rfl (KI.st _) rfl (k_mul X.2 Y.2 (by omega) (by omega))
 ·exact DX.call (r := .kw (KQ (Rat.divInt ((((x).num) * ((y.den : Int))) + (((y).num) * ((x.den : Int)))) (((x.den : Int)) * ((y.den : Int)))).num (((Rat.divInt ((((x).num) * ((y.den : Int))) + (((y).num) * ((x.den : Int)))) (((x.den : Int)) * ((y.den : Int)))).den : Int) - 1))) rfl rfl rfl rfl rfl rfl (KQ.st _ _) rfl (k_rmade ((((X).1).mul Y.2).add (((Y).1).mul X.2)) (X.2.mul Y.2) (den_mul_ne x y) (by omega) (by omega))
 ·exact DX.store (x := .tmp 23) (r := .kw (KQ (Rat.divInt ((((x).num) * ((y.den : Int))) + (((y).num) * ((x.den : Int)))) (((x.den : Int)) * ((y.den : Int)))).num (((Rat.divInt ((((x).num) * ((y.den : Int))) + (((y).num) * ((x.den : Int)))) (((x.den : Int)) * ((y.den : Int)))).den : Int) - 1))) rfl rfl rfl rfl rfl rfl sh_Q
 refine SX.unfix (s := 2) rfl ?_
 refine SX.unfix (s := 3) rfl ?_
 refine SX.then (SC.ret ?_)
 rw [add_over]
 exact SX.doneC (s := 4) (.inl rfl) rfl rfl rfl
theorem ce_k_rsub : CE 43 := fun args W => by go_simp
set_option maxHeartbeats 3200000 in
set_option maxRecDepth 100000 in
theorem k_rsub {x y : Rat} {a b : Nat} (X : bq a x) (Y : bq b y) (ha : a ≤ 50000) (hb : b ≤ 50000) : CallOk 43 [KQ (x).num (((x).den : Int) - 1), KQ (y).num (((y).den : Int) - 1)] (KQ (x - y).num (((x - y).den : Int) - 1)) := by
 refine CallOk.enter (l := [.kw (KQ (x).num (((x).den : Int) - 1)), .kw (KQ (y).num (((y).den : Int) - 1))]) 9 ce_k_rsub Tryz.func43 rfl Tryz.ntmps43 (by simp) ⟨(KQ.st _ _), rfl, (KQ.st _ _), rfl, trivial⟩ fun w => ?_
 refine SC.seq (SC.region ?_)
 refine PW.box (x := .tmp 0) (r := .kw (KQ (x).num (((x).den : Int) - 1))) (BQ 38) rfl rfl rfl rfl rfl bQ rfl sh_Q ?_
 refine PW.box (x := .tmp 1) (r := .kw (KQ (y).num (((y).den : Int) - 1))) (BQ 38) rfl rfl rfl rfl rfl bQ rfl sh_Q ?_
 refine PW.alloc (BQ 38) rfl rfl rfl rfl rfl bQ ?_
 refine PW.nil (SX.then (SC.seq ?_))
 refine SC.dx [.val 5 (.kw (KQ (x).num (((x).den : Int) - 1))), .val 6 (.kw (KQ (y).num (((y).den : Int) - 1))), .val 7 (.kw (KQ (-y).num (((-y).den : Int) - 1))), .val 8 (.kw (KQ (x + (-y)).num (((x + (-y)).den : Int) - 1))), .put 4 (BQ 38) (.kw (KQ (x + (-y)).num (((x + (-y)).den : Int) - 1)))] [([], [2]), ([], [3]), ([1], []), ([0, 2], []), ([3], [4])] rfl (by kernel_rfl) (by kernel_rfl) (by kernel_rfl) rfl ⟨?_, ?_, ?_, ?_, ?_, trivial⟩ ?_
 ·exact DX.load rfl rfl rfl rfl rfl rfl
 ·exact DX.load rfl rfl rfl rfl rfl rfl
 ·exact DX.call (r := .kw (KQ (-y).num (((-y).den : Int) - 1))) rfl rfl rfl rfl rfl rfl (KQ.st _ _) rfl (k_rneg)
 ·exact DX.call (r := .kw (KQ (x + (-y)).num (((x + (-y)).den : Int) - 1))) rfl rfl rfl rfl rfl rfl (KQ.st _ _) rfl (k_radd X Y.neg (by omega) (by omega))
 ·exact DX.store (x := .tmp 8) (r := .kw (KQ (x + (-y)).num (((x + (-y)).den : Int) - 1))) rfl rfl rfl rfl rfl rfl sh_Q
 refine SX.then (SC.ret ?_)
 rw [Rat.sub_eq_add_neg]
 exact SX.doneC (s := 4) (.inl rfl) rfl rfl rfl
theorem ce_k_rdiv : CE 60 := fun args W => by go_simp
set_option maxHeartbeats 3200000 in
set_option maxRecDepth 100000 in
theorem k_rdiv {x y : Rat} {a b : Nat} (X : bq a x) (Y : bq b y) (ha : a ≤ 50000) (hb : b ≤ 50000) (h0 : y ≠ 0) : CallOk 60 [KQ (x).num (((x).den : Int) - 1), KQ (y).num (((y).den : Int) - 1)] (K2 (KQ (x / y).num (((x / y).den : Int) - 1)) (KV (.int .i64 0))) := by
 refine CallOk.enter (l := [.kw (KQ (x).num (((x).den : Int) - 1)), .kw (KQ (y).num (((y).den : Int) - 1))]) 21 ce_k_rdiv Tryz.func60 rfl Tryz.ntmps60 (by simp) ⟨(KQ.st _ _), rfl, (KQ.st _ _), rfl, trivial⟩ fun w => ?_
 refine SC.seq (SC.region ?_)
 refine PW.box (x := .tmp 0) (r := .kw (KQ (x).num (((x).den : Int) - 1))) (BQ 38) rfl rfl rfl rfl rfl bQ rfl sh_Q ?_
 refine PW.box (x := .tmp 1) (r := .kw (KQ (y).num (((y).den : Int) - 1))) (BQ 38) rfl rfl rfl rfl rfl bQ rfl sh_Q ?_
 refine PW.alloc (BQ 38) rfl rfl rfl rfl rfl bQ ?_
 refine PW.assign rfl rfl rfl rfl rfl (PW.nil (SX.then (SC.seq (SC.seq (SC.region ?_)))))
 refine PW.load rfl rfl rfl rfl rfl rfl ?_
 refine PW.call (r := .vl (.int .i64 (sgq y))) rfl rfl rfl rfl rfl rfl (KV.st _) rfl (k_rsign) ?_
 refine PW.q2 (x := .tmp 7) (y := .const (.int .i64 0)) (.bool false) rfl rfl rfl rfl rfl (fun ρ W h1 h2 => by exact r_eqF h1 h2 (fun h => h0 (sgq_eq0.1 h))) ?_
 refine PW.nil (SX.then (SC.cond (t := false) rfl (SC.skip (SX.then (SC.seq ?_)))))
 refine SC.fix (s := 2) rfl fun p2 => ?_
 refine SC.fix (s := 3) rfl fun p3 => ?_
 refine SC.dx [.val 10 (.vl (.pointer (some ⟨p2, 0, none⟩))), .val 11 (.kw (KI ((x).num))), .val 12 (.kw (KQ (y).num (((y).den : Int) - 1))), .val 13 (.kw (KI ((y.den : Int)))), .val 14 (.kw (KI (((x).num) * ((y.den : Int))))), .val 15 (.kw (KQ (x).num (((x).den : Int) - 1))), .val 16 (.kw (KI ((x.den : Int)))), .val 17 (.vl (.pointer (some ⟨p3, 0, none⟩))), .val 18 (.kw (KI ((y).num))), .val 19 (.kw (KI (((x.den : Int)) * ((y).num)))), .val 20 (.kw (KQ (Rat.divInt (((x).num) * ((y.den : Int))) (((x.den : Int)) * ((y).num))).num (((Rat.divInt (((x).num) * ((y.den : Int))) (((x.den : Int)) * ((y).num))).den : Int) - 1))), .put 4 (BQ 38) (.kw (KQ (Rat.divInt (((x).num) * ((y.den : Int))) (((x.den : Int)) * ((y).num))).num (((Rat.divInt (((x).num) * ((y.den : Int))) (((x.den : Int)) * ((y).num))).den : Int) - 1))), .val 5 (.vl (.int .i64 0))] [([], [2]), ([0], [2]), ([], [3]), ([2], []), ([1, 3], []), ([], [2]), ([5], []), ([], [3]), ([7], [3]), ([6, 8], []), ([4, 9], []), ([10], [4]), ([], [])] rfl (by kernel_rfl) (by kernel_rfl) (by kernel_rfl) rfl ⟨?_, ?_, ?_, ?_, ?_, ?_, ?_, ?_, ?_, ?_, ?_, ?_, ?_, trivial⟩ ?_
 ·exact DX.fa ⟨p2, 0, none⟩ rfl rfl rfl rfl rfl faQ0
 ·exact DX.fl (s := 2) (r := .kw (KI ((x).num))) rfl rfl rfl rfl rfl rfl rfl (KI.st _) flQ0
 ·exact DX.loadp rfl rfl rfl rfl rfl rfl
 ·exact DX.call (r := .kw (KI ((y.den : Int)))) rfl rfl rfl rfl rfl rfl (KI.st _) rfl (k_rden Y (by omega))
 ·exact DX.call (r := .kw (KI (((x).num) * ((y.den : Int))))) rfl rfl rfl rfl rfl rfl (KI.st _) rfl (k_mul ((X).1) Y.2 (by omega) (by omega))
 ·exact DX.loadp rfl rfl rfl rfl rfl rfl
 ·exact DX.call (r := .kw (KI ((x.den : Int)))) rfl rfl rfl rfl rfl rfl (KI.st _) rfl (k_rden X (by omega))
 ·exact DX.fa ⟨p3, 0, none⟩ rfl rfl rfl rfl rfl faQ0
 ·exact DX.fl (s := 3) (r := .kw (KI ((y).num))) rfl rfl rfl rfl rfl rfl rfl (KI.st _) flQ0
 ·exact DX.call (r := .kw (KI (((x.den : Int)) * ((y).num)))) rfl rfl rfl rfl rfl rfl (KI.st _) rfl (k_mul X.2 ((Y).1) (by omega) (by omega))
 ·exact DX.call (r := .kw (KQ (Rat.divInt (((x).num) * ((y.den : Int))) (((x.den : Int)) * ((y).num))).num (((Rat.divInt (((x).num) * ((y.den : Int))) (((x.den : Int)) * ((y).num))).den : Int) - 1))) rfl rfl rfl rfl rfl rfl (KQ.st _ _) rfl (k_rmade (((X).1).mul Y.2) (X.2.mul ((Y).1)) (den_num_ne x h0) (by omega) (by omega))
 ·exact DX.store (x := .tmp 20) (r := .kw (KQ (Rat.divInt (((x).num) * ((y.den : Int))) (((x.den : Int)) * ((y).num))).num (((Rat.divInt (((x).num) * ((y.den : Int))) (((x.den : Int)) * ((y).num))).den : Int) - 1))) rfl rfl rfl rfl rfl rfl sh_Q
 ·exact DX.assign rfl rfl rfl rfl rfl rfl
 refine SX.unfix (s := 2) rfl ?_
 refine SX.unfix (s := 3) rfl ?_
 refine SX.then (SC.ret ?_)
 rw [div_over]
 exact SX.done2 (s := 4) (t := 5) (r := .vl (.int .i64 0)) (.inl rfl) rfl rfl rfl rfl
set_option maxHeartbeats 3200000 in
set_option maxRecDepth 100000 in
theorem k_rdiv0 {x y : Rat} (h0 : y = 0) : CallOk 60 [KQ (x).num (((x).den : Int) - 1), KQ (y).num (((y).den : Int) - 1)] (K2 (KQ 0 0) (KV (.int .i64 6))) := by
 refine CallOk.enter (l := [.kw (KQ (x).num (((x).den : Int) - 1)), .kw (KQ (y).num (((y).den : Int) - 1))]) 21 ce_k_rdiv Tryz.func60 rfl Tryz.ntmps60 (by simp) ⟨(KQ.st _ _), rfl, (KQ.st _ _), rfl, trivial⟩ fun w => ?_
 refine SC.seq (SC.region ?_)
 refine PW.box (x := .tmp 0) (r := .kw (KQ (x).num (((x).den : Int) - 1))) (BQ 38) rfl rfl rfl rfl rfl bQ rfl sh_Q ?_
 refine PW.box (x := .tmp 1) (r := .kw (KQ (y).num (((y).den : Int) - 1))) (BQ 38) rfl rfl rfl rfl rfl bQ rfl sh_Q ?_
 refine PW.alloc (BQ 38) rfl rfl rfl rfl rfl bQ ?_
 refine PW.assign rfl rfl rfl rfl rfl (PW.nil (SX.then (SC.seq (SC.seq (SC.region ?_)))))
 refine PW.load rfl rfl rfl rfl rfl rfl ?_
 refine PW.call (r := .vl (.int .i64 (sgq y))) rfl rfl rfl rfl rfl rfl (KV.st _) rfl (k_rsign) ?_
 refine PW.q2 (x := .tmp 7) (y := .const (.int .i64 0)) (.bool true) rfl rfl rfl rfl rfl (fun ρ W h1 h2 => by exact r_eqT h1 h2 (sgq_eq0.2 h0)) ?_
 refine PW.nil (SX.then (SC.cond (t := true) rfl (SC.seq (SC.region ?_))))
 refine PW.val (r := .kw (KQ (0) (0))) rfl rfl rfl rfl (fun a W hf => ⟨_, r_bldQ0, zeroQ W, KQ.st _ _⟩) ?_
 refine PW.store (x := .tmp 9) (r := .kw (KQ (0) (0))) rfl rfl rfl rfl rfl rfl sh_Q ?_
 refine PW.assign rfl rfl rfl rfl rfl (PW.nil (SX.then (SC.ret (SX.thenR ?_))))
 exact SX.done2 (s := 4) (t := 5) (r := .vl (.int .i64 6)) (.inl rfl) rfl rfl rfl rfl
theorem ce_k_rfloor : CE 131 := fun args W => by go_simp
set_option maxHeartbeats 3200000 in
set_option maxRecDepth 100000 in
theorem k_rfloor {x : Rat} {a : Nat} (X : bq a x) (ha : a ≤ 50000) : CallOk 131 [KQ (x).num (((x).den : Int) - 1)] (KI (flq x)) := by
 refine CallOk.enter (l := [.kw (KQ (x).num (((x).den : Int) - 1))]) 22 ce_k_rfloor Tryz.func131 rfl Tryz.ntmps131 (by simp) ⟨(KQ.st _ _), rfl, trivial⟩ fun w => ?_
 refine SC.seq (SC.region ?_)
 refine PW.box (x := .tmp 0) (r := .kw (KQ (x).num (((x).den : Int) - 1))) (BQ 38) rfl rfl rfl rfl rfl bQ rfl sh_Q ?_
 refine PW.alloc (BI 31) rfl rfl rfl rfl rfl bI ?_
 refine PW.nil (SX.then (SC.seq ?_))
 refine SC.fix (s := 1) rfl fun p1 => ?_
 refine SC.dx [.val 7 (.vl (.pointer (some ⟨p1, 0, none⟩))), .val 8 (.kw (KI ((x).num))), .val 9 (.kw (KQ (x).num (((x).den : Int) - 1))), .val 10 (.kw (KI ((x.den : Int)))), .val 11 (.kw (K3 (KI (((x).num).tdiv ((x.den : Int)))) (KI (((x).num).tmod ((x.den : Int)))) (KV (.int .i64 0)))), .val 6 (.kw (K3 (KI (((x).num).tdiv ((x.den : Int)))) (KI (((x).num).tmod ((x.den : Int)))) (KV (.int .i64 0)))), .val 12 (.kw (KI (((x).num).tdiv ((x.den : Int))))), .val 13 (.kw (KI (((x).num).tmod ((x.den : Int))))), .val 14 (.vl (.int .i64 0)), .new 3 (BI 31), .new 4 (BI 31), .put 3 (BI 31) (.kw (KI (((x).num).tdiv ((x.den : Int))))), .put 4 (BI 31) (.kw (KI (((x).num).tmod ((x.den : Int))))), .val 5 (.vl (.int .i64 0))] [([], [1]), ([0], [1]), ([], [1]), ([2], []), ([1, 3], []), ([4], []), ([5], []), ([5], []), ([5], []), ([], []), ([], []), ([9, 6], []), ([10, 7], []), ([8], [])] rfl (by kernel_rfl) (by kernel_rfl) (by kernel_rfl) rfl ⟨?_, ?_, ?_, ?_, ?_, ?_, ?_, ?_, ?_, ?_, ?_, ?_, ?_, ?_, trivial⟩ ?_
 ·exact DX.fa ⟨p1, 0, none⟩ rfl rfl rfl rfl rfl faQ0
 ·exact DX.fl (s := 1) (r := .kw (KI ((x).num))) rfl rfl rfl rfl rfl rfl rfl (KI.st _) flQ0
 ·exact DX.loadp rfl rfl rfl rfl rfl rfl
 ·exact DX.call (r := .kw (KI ((x.den : Int)))) rfl rfl rfl rfl rfl rfl (KI.st _) rfl (k_rden X (by omega))
 ·exact DX.call (r := .kw (K3 (KI (((x).num).tdiv ((x.den : Int)))) (KI (((x).num).tmod ((x.den : Int)))) (KV (.int .i64 0)))) rfl rfl rfl rfl rfl rfl (K3.st (KI.st _) (KI.st _) (KV.st _)) rfl (k_div ((X).1) (by omega) ((Int.ne_of_gt (den_pos x))))
 ·exact DX.move rfl rfl rfl rfl rfl rfl
 ·exact DX.ext (r := .kw (KI (((x).num).tdiv ((x.den : Int))))) rfl rfl rfl rfl rfl ex30 (KI.st _) rfl
 ·exact DX.ext (r := .kw (KI (((x).num).tmod ((x.den : Int))))) rfl rfl rfl rfl rfl ex31 (KI.st _) rfl
 ·exact DX.ext (r := .vl (.int .i64 0)) rfl rfl rfl rfl rfl ex32v (KV.st _) rfl
 ·exact DX.alloc (BI 31) rfl rfl rfl rfl bI rfl
 ·exact DX.alloc (BI 31) rfl rfl rfl rfl bI rfl
 ·exact DX.store (x := .tmp 12) (r := .kw (KI (((x).num).tdiv ((x.den : Int))))) rfl rfl rfl rfl rfl rfl sh_I
 ·exact DX.store (x := .tmp 13) (r := .kw (KI (((x).num).tmod ((x.den : Int))))) rfl rfl rfl rfl rfl rfl sh_I
 ·exact DX.assign rfl rfl rfl rfl rfl rfl
 refine SX.unfix (s := 1) rfl ?_
 refine SX.then (SC.seq (SC.seq ?_))
 by_cases hr : sgn (x.num.tmod (x.den : Int)) < 0
 ·refine SC.region ?_
  refine PW.load rfl rfl rfl rfl rfl rfl ?_
  refine PW.call (r := .vl (.int .i64 (sgn (((x).num).tmod ((x.den : Int)))))) rfl rfl rfl rfl rfl rfl (KV.st _) rfl (k_sign rfl) ?_
  refine PW.q2 (x := .tmp 16) (y := .const (.int .i64 0)) (.bool true) rfl rfl rfl rfl rfl (fun ρ W h1 h2 => by exact r_lt h1 h2 (decide_eq_true hr)) ?_
  refine PW.nil (SX.then (SC.cond (t := true) rfl ?_))
  refine SC.dx [.val 18 (.kw (KI (((x).num).tdiv ((x.den : Int))))), .val 19 (.kw (KI (1))), .val 20 (.kw (KI ((((x).num).tdiv ((x.den : Int))) - 1))), .put 3 (BI 31) (.kw (KI ((((x).num).tdiv ((x.den : Int))) - 1)))] [([], [3]), ([], []), ([0, 1], []), ([2], [3])] rfl (by kernel_rfl) (by kernel_rfl) (by kernel_rfl) rfl ⟨?_, ?_, ?_, ?_, trivial⟩ ?_
  ·exact DX.load rfl rfl rfl rfl rfl rfl
  ·exact DX.call (r := .kw (KI (1))) rfl rfl rfl rfl rfl rfl (KI.st _) rfl (k_one)
  ·exact DX.call (r := .kw (KI ((((x).num).tdiv ((x.den : Int))) - 1))) rfl rfl rfl rfl rfl rfl (KI.st _) rfl (k_sub ((((X).1)).tdiv) bd.one (by omega) (by omega))
  ·exact DX.store (x := .tmp 20) (r := .kw (KI ((((x).num).tdiv ((x.den : Int))) - 1))) rfl rfl rfl rfl rfl rfl sh_I
  refine SX.then (SC.seq (SC.region ?_))
  refine PW.load rfl rfl rfl rfl rfl rfl ?_
  refine PW.store (x := .tmp 21) (r := .kw (KI ((((x).num).tdiv ((x.den : Int))) - 1))) rfl rfl rfl rfl rfl rfl sh_I ?_
  refine PW.nil (SX.then (SC.ret ?_))
  rw [flq_neg hr]
  exact SX.doneC (s := 2) (.inl rfl) rfl rfl rfl
 ·refine SC.region ?_
  refine PW.load rfl rfl rfl rfl rfl rfl ?_
  refine PW.call (r := .vl (.int .i64 (sgn (((x).num).tmod ((x.den : Int)))))) rfl rfl rfl rfl rfl rfl (KV.st _) rfl (k_sign rfl) ?_
  refine PW.q2 (x := .tmp 16) (y := .const (.int .i64 0)) (.bool false) rfl rfl rfl rfl rfl (fun ρ W h1 h2 => by exact r_lt h1 h2 (decide_eq_false hr)) ?_
  refine PW.nil (SX.then (SC.cond (t := false) rfl (SC.skip (SX.then (SC.seq (SC.region ?_))))))
  refine PW.load rfl rfl rfl rfl rfl rfl ?_
  refine PW.store (x := .tmp 21) (r := .kw (KI (((x).num).tdiv ((x.den : Int))))) rfl rfl rfl rfl rfl rfl sh_I ?_
  refine PW.nil (SX.then (SC.ret ?_))
  rw [flq_nn hr]
  exact SX.doneC (s := 2) (.inl rfl) rfl rfl rfl
end Go.Proofs.YthpjmhhfcechmaaGreat.Sy
/- Plain laws for the reference's lists of bits. No program in sight. -/
namespace Go.Proofs.YthpjmhhfcechmaaGreat.Ma
open Go
end Go.Proofs.YthpjmhhfcechmaaGreat.Ma
/- A walk by rules: rows of bools; rows wherever they lie, by index; boxes that hold just a value, known as something. -/
namespace Go.Proofs.YthpjmhhfcechmaaGreat.Sy
open Go Go.RowKit Ma
def sad : Value → Option Addr
 | .slice A _ _ => A
 | _ => none
section
variable {B N : Nat} {w0 : World} {ops : Array Oper} {o : Oper} {rest : List Oper} {fr : List (Nat × AV)} {Q : Exit → Act → World → Prop} {d : Nat}
theorem ridx_run {T : TypeId} {s K i : Nat} {y : Operand} {v : Value} {e : TypeId} {f : Int → Value} {zs : List Int} {a : Act} {W : World} (hf : Fr B N w0 fr a W) (ho : o.op = .indexAddr T (.tmp s) y) (hs : look fr s = some (.vl v)) (hy : opv fr y = some (.vl (.int .i64 (i : Int)))) (hK : look fr K = some (.ro v e f zs)) (hi : i < zs.length)
  (hx : ∀ (ρ : Operand → Value) (W : World) (g c : Nat), ρ (.tmp s) = .slice (some ⟨g, 0, none⟩) zs.length c → ρ y = .int .i64 (i : Int) → (execOp ρ o).run Tryz.prog W = .ok (.value (.pointer (some ⟨g, i, none⟩))) W) : (execOp a.eval o).run Tryz.prog W = .ok (.value (.pointer (padd (sad v) i))) W := by
 have ow : OwF W B e f v zs := hf.ho K _ hK
 have h1 : a.eval (.tmp s) = v := hf.ho s _ hs
 have h2 := opv_vl hf hy
 rcases ow.form with ⟨_, h⟩ | ⟨g, c, rfl, hc⟩
 ·rw [h] at hi; simp at hi
 ·rw [hx a.eval W g c h1 h2]
  show _ = Result.ok (Next.value (.pointer (some (Addr.add ⟨g, 0, none⟩ i)))) W
  rw [add_at]
theorem PW.ridx {T : TypeId} {s i : Nat} {y : Operand} {v : Value} {e : TypeId} {f : Int → Value} {zs : List Int} (K : Nat) (hw : wantB ops fr o = some true) (hd : o.dst = some d) (hN : Nat.blt d N = true) (ho : o.op = .indexAddr T (.tmp s) y) (hs : look fr s = some (.vl v)) (hy : opv fr y = some (.vl (.int .i64 (i : Int)))) (hK : look fr K = some (.ro v e f zs)) (hi : i < zs.length)
  (hx : ∀ (ρ : Operand → Value) (W : World) (g c : Nat), ρ (.tmp s) = .slice (some ⟨g, 0, none⟩) zs.length c → ρ y = .int .i64 (i : Int) → (execOp ρ o).run Tryz.prog W = .ok (.value (.pointer (some ⟨g, i, none⟩))) W) (hk : PW B N w0 ops rest ((d, .vl (.pointer (padd (sad v) i))) :: fr) Q) : PW B N w0 ops (o :: rest) fr Q :=
 PW.val (r := .vl (.pointer (padd (sad v) i))) hw hd hN rfl (fun a W hf => ⟨_, ridx_run hf ho hs hy hK hi hx, rfl⟩) hk
theorem rget_run {T : TypeId} {t K i : Nat} {v : Value} {e : TypeId} {f : Int → Value} {zs : List Int} {a : Act} {W : World} (hf : Fr B N w0 fr a W) (ho : o.op = .load T (.tmp t)) (ht : look fr t = some (.vl (.pointer (padd (sad v) i)))) (hK : look fr K = some (.ro v e f zs)) (hi : i < zs.length)
  (hl : ∀ (W : World) (p : Addr) (x : Int), W.cell? p = some (f x) → (Instr.loadAt T (.pointer (some p))).run Tryz.prog W = .ok (f x) W) : (execOp a.eval o).run Tryz.prog W = .ok (.value (f (at0 zs i))) W := by
 have ow : OwF W B e f v zs := hf.ho K _ hK
 have h1 : a.tmps.getD t undef = .pointer (padd (sad v) i) := hf.ho t _ ht
 rcases ow.form with ⟨_, h⟩ | ⟨g, c, rfl, hc⟩
 ·rw [h] at hi; simp at hi
 ·have h2 := ow.cellAt hi
  unfold execOp
  rw [ho]
  show (do pure (.value (← Instr.loadAt T (a.tmps.getD t undef))) : Sem Next).run Tryz.prog W = _
  rw [h1]
  show (do pure (.value (← Instr.loadAt T (.pointer (some (Addr.add ⟨g, 0, none⟩ i))))) : Sem Next).run Tryz.prog W = _
  rw [add_at]
  exact run_val (hl W _ _ h2)
theorem PW.rget {T : TypeId} {t i : Nat} {v : Value} {e : TypeId} {f : Int → Value} {zs : List Int} (K : Nat) (hw : wantB ops fr o = some true) (hd : o.dst = some d) (hN : Nat.blt d N = true) (ho : o.op = .load T (.tmp t)) (ht : look fr t = some (.vl (.pointer (padd (sad v) i)))) (hK : look fr K = some (.ro v e f zs)) (hi : i < zs.length)
  (hl : ∀ (W : World) (p : Addr) (x : Int), W.cell? p = some (f x) → (Instr.loadAt T (.pointer (some p))).run Tryz.prog W = .ok (f x) W) (hk : PW B N w0 ops rest ((d, .vl (f (at0 zs i))) :: fr) Q) : PW B N w0 ops (o :: rest) fr Q :=
 PW.val (r := .vl (f (at0 zs i))) hw hd hN rfl (fun a W hf => ⟨_, rget_run hf ho ht hK hi hl, rfl⟩) hk
theorem PW.rput {T : TypeId} {t i : Nat} {x : Operand} {v : Value} {e : TypeId} {f : Int → Value} {zs : List Int} (y : Int) (K : Nat) (hw : wantB ops fr o = some true) (hd : o.dst = none) (ho : o.op = .store T (.tmp t) x) (ht : look fr t = some (.vl (.pointer (padd (sad v) i)))) (hK : look fr K = some (.ro v e f zs)) (hi : i < zs.length) (hx : opv fr x = some (.vl (f y))) (hc : calmB fr = true)
  (hst : ∀ (W : World) (p : Addr) (x y : Int), W.cell? p = some (f x) → W.frozen? p = false → (Instr.storeAt T (.pointer (some p)) (f y)).run Tryz.prog W = .ok () (W.setCell p (f y))) (hk : PW B N w0 ops rest ((K, .ro v e f (zs.set i y)) :: fr) Q) : PW B N w0 ops (o :: rest) fr Q :=
 PW.step hw fun a W hf K' hK' => by
  have ow : OwF W B e f v zs := hf.ho K _ hK
  have h1 : a.tmps.getD t undef = .pointer (padd (sad v) i) := hf.ho t _ ht
  rcases ow.form with ⟨_, h⟩ | ⟨g, c, hv, hcl⟩
  ·rw [h] at hi; simp at hi
  ·subst hv
   have h3 := opv_vl hf hx
   have h4 : a.tmps.getD t undef = .pointer (some ⟨g, i, none⟩) := by
    rw [h1]
    show Value.pointer (some (Addr.add ⟨g, 0, none⟩ i)) = _
    rw [add_at]
   have e2 : (execOp a.eval o).run Tryz.prog W = .ok .skip (W.setCell ⟨g, i, none⟩ (f y)) := by
    unfold execOp
    rw [ho]
    show (do (Instr.storeAt T (a.tmps.getD t undef) (a.eval x)); pure .skip : Sem Next).run Tryz.prog W = _
    rw [h4, h3]
    exact run_skip (hst W _ _ _ (ow.cellAt hi) (ow.frozenAt i))
   unfold Oper.wp
   rw [e2]
   show K' (a.put o.dst undef) _
   rw [hd]
   exact hK' _ _ (hk _ _ (hf.rset hK hc y))
theorem rlen_run {s K : Nat} {v : Value} {e : TypeId} {f : Int → Value} {zs : List Int} {a : Act} {W : World} (hf : Fr B N w0 fr a W) (hs : look fr s = some (.vl v)) (hK : look fr K = some (.ro v e f zs))
  (hl : ∀ (ρ : Operand → Value) (W : World) (A : Option Addr) (c : Nat), ρ (.tmp s) = .slice A zs.length c → (execOp ρ o).run Tryz.prog W = .ok (.value (.int .i64 (zs.length : Int))) W) : (execOp a.eval o).run Tryz.prog W = .ok (.value (.int .i64 (zs.length : Int))) W := by
 have ow : OwF W B e f v zs := hf.ho K _ hK
 have h1 : a.eval (.tmp s) = v := hf.ho s _ hs
 rcases ow.form with ⟨rfl, rfl⟩ | ⟨g, c, rfl, hc⟩
 ·exact hl a.eval W none 0 h1
 ·exact hl a.eval W _ c h1
theorem PW.rlen {s : Nat} {v : Value} {e : TypeId} {f : Int → Value} {zs : List Int} (K : Nat) (hw : wantB ops fr o = some true) (hd : o.dst = some d) (hN : Nat.blt d N = true) (hs : look fr s = some (.vl v)) (hK : look fr K = some (.ro v e f zs))
  (hl : ∀ (ρ : Operand → Value) (W : World) (A : Option Addr) (c : Nat), ρ (.tmp s) = .slice A zs.length c → (execOp ρ o).run Tryz.prog W = .ok (.value (.int .i64 (zs.length : Int))) W) (hk : PW B N w0 ops rest ((d, .vl (.int .i64 (zs.length : Int))) :: fr) Q) : PW B N w0 ops (o :: rest) fr Q :=
 PW.val (r := .vl (.int .i64 (zs.length : Int))) hw hd hN rfl (fun a W hf => ⟨_, rlen_run hf hs hK hl, rfl⟩) hk
theorem PW.loadck {T : TypeId} {s p : Nat} {b : BT} {v : Value} {k : Know} (hw : wantB ops fr o = some true) (hd : o.dst = some d) (hN : Nat.blt d N = true) (ho : o.op = .load T (.tmp s)) (hs : look fr s = some (.bc b p v)) (hT : b.T = T) (hB : B = w0.heap.size) (hk0 : k v w0) (st : St k) (hk : PW B N w0 ops rest ((d, .kw k) :: fr) Q) : PW B N w0 ops (o :: rest) fr Q :=
 PW.val (r := .kw k) hw hd hN rfl (fun a W hf => ⟨_, loadc_run hf ho hs hT, st _ _ _ (IntK.of_below (by have := hf.be; rw [hB] at this; exact this)) hk0, st⟩) hk
theorem DX.loadck {T : TypeId} {s p : Nat} {b : BT} {v : Value} {k : Know} (hw : wantB ops fr o = some true) (hd : o.dst = some d) (hN : Nat.blt d N = true) (ho : o.op = .load T (.tmp s)) (hs : look fr s = some (.bc b p v)) (hT : b.T = T) (hB : B = w0.heap.size) (hk0 : k v w0) (st : St k) : Eo B N w0 ops o fr (.val d (.kw k)) :=
 DX.val hw hd hN rfl (fun a W hf => ⟨_, loadc_run hf ho hs hT, st _ _ _ (IntK.of_below (by have := hf.be; rw [hB] at this; exact this)) hk0, st⟩)
end
section
variable {x y : Operand} {dst : Option Tmp} {ty : TypeId} {pos : String} {after : Array Edge} {guard : Option (Nat × Bool)} {ρ : Operand → Value} {W : World}
end
end Go.Proofs.YthpjmhhfcechmaaGreat.Sy
/- Plain laws for texts of integers that are read. No program in sight. -/
namespace Go.Proofs.YthpjmhhfcechmaaGreat.Ma
open Go
def byl (s : ByteArray) : List Int := s.data.toList.map fun b => (b.toNat : Int)
theorem byl_len (s : ByteArray) : (byl s).length = s.size := by simp [byl]
theorem byl_byte (s : ByteArray) (i : Nat) : 0 ≤ at0 (byl s) i ∧ at0 (byl s) i < 256 := by
 by_cases h : i < (byl s).length
 ·rw [at0_of_lt h]
  have := (s.data.toList[i]'(by simpa [byl] using h)).toNat_lt
  simp only [byl, List.getElem_map]
  omega
 ·rw [at0_ge (by omega)]; omega
theorem byl_at (s : ByteArray) {i : Nat} (h : i < s.size) : ((s[i]'h).toNat : Int) = at0 (byl s) i := by
 rw [at0_of_lt (by rw [byl_len]; exact h)]
 simp only [byl, List.getElem_map]
 rfl
theorem byl_drop (s : ByteArray) (p : Nat) : byl (s.extract p s.size) = (byl s).drop p := by
 unfold byl
 rw [ByteArray.data_extract, Array.toList_extract]
 simp only [List.extract_eq_take_drop, List.map_take, List.map_drop]
 rw [List.take_of_length_le]
 simp
theorem byl_inj {s t : ByteArray} (h : byl s = byl t) : s = t := bytes_inj h
def dv (c : Int) : Int := if 48 ≤ c ∧ c ≤ 57 then c - 48 else if 65 ≤ c ∧ c ≤ 90 then c - 55 else if 97 ≤ c ∧ c ≤ 122 then c - 87 else 36
theorem dv_le (c : Int) : 0 ≤ dv c ∧ dv c ≤ 36 := by unfold dv; repeat' split
                                                     all_goals omega
def pv (r : Int) (v : Int) : List Int → Int
 | [] => v
 | c :: l => pv r (v * r + dv c) l
theorem pv_app (r : Int) : ∀ (l : List Int) (v c : Int), pv r v (l ++ [c]) = pv r v l * r + dv c
 | [], v, c => rfl
 | x :: l, v, c => pv_app r l _ c
def parseR (r : Int) (s : List Int) : Except Int Int :=
 if ¬ (2 ≤ r ∧ r ≤ 36) then .error 1
 else if 20000 < s.length then .error 14
 else
  let b := if at0 s 0 = 45 ∨ at0 s 0 = 43 then s.drop 1 else s
  if b = [] then .error 2
  else if b.all fun c => decide (dv c < r) then .ok (sg (decide (at0 s 0 = 45)) (pv r 0 b)) else .error 2
structure PrI (b r : Int) (ls : List Int) (i : Nat) (zs : List Int) : Prop where
 le : i ≤ ls.length
 ok : ∀ j, j < i → dv (at0 ls j) < r
 dg : Ma.dg b zs
 lv : Ma.lv b zs = pv r 0 (ls.take i)
 len : zs.length ≤ i
theorem PrI.start (b r : Int) (ls : List Int) : PrI b r ls 0 [] := ⟨by omega, fun j h => by omega, dg_nil _, by simp [Ma.lv, pv], by simp⟩
theorem take_snoc {ls : List Int} {i : Nat} (h : i < ls.length) : ls.take (i + 1) = ls.take i ++ [at0 ls i] := by
 rw [List.take_add_one, at0_of_lt h]; simp [h]
theorem pv_step {r : Int} {ls : List Int} {i : Nat} (h : i < ls.length) : pv r 0 (ls.take (i + 1)) = pv r 0 (ls.take i) * r + dv (at0 ls i) := by rw [take_snoc h, pv_app]
structure PrJ (b r d : Int) (ys : List Int) (k : Nat) (zs : List Int) (cc : Int) : Prop where
 le : k ≤ ys.length
 len : zs.length = ys.length
 dg : Ma.dg b zs
 up : zs.drop k = ys.drop k
 eq : Ma.lv b (zs.take k) + b ^ k * cc = Ma.lv b (ys.take k) * r + d
 c0 : 0 ≤ cc
 c1 : cc ≤ 36
theorem PrJ.start {b r d : Int} {ys : List Int} (h : Ma.dg b ys) (h0 : 0 ≤ d) (h1 : d ≤ 36) : PrJ b r d ys 0 ys d := ⟨by omega, rfl, h, rfl, by simp [Ma.lv], h0, h1⟩
theorem PrJ.at {b r d : Int} {ys zs : List Int} {k : Nat} {cc : Int} (h : PrJ b r d ys k zs cc) (hk : k < ys.length) : at0 zs k = at0 ys k := by
 have e := h.up
 have a1 := h.len
 have hz : k < zs.length := by rw [a1]; exact hk
 rw [List.drop_eq_getElem_cons hz, List.drop_eq_getElem_cons hk] at e
 injection e with e1 _
 rw [at0_of_lt hz, at0_of_lt hk, e1]
theorem PrJ.step {b r d : Int} {ys zs : List Int} {k : Nat} {cc n : Int} (hb : 65536 ≤ b) (h : PrJ b r d ys k zs cc) (hk : k < ys.length) (hr0 : 2 ≤ r) (hr : r ≤ 36) (hn : n = at0 zs k * r + cc) (hy : Ma.dg b ys) : PrJ b r d ys (k + 1) (zs.set k (n % b)) (n / b) := by
 have hb0 : (0 : Int) < b := by omega
 have a := dg_at hy hb0 k
 have e0 := h.at hk
 have hl := h.len
 have c0 := h.c0
 have c1 := h.c1
 have n0 : 0 ≤ n := by
  have := Int.mul_nonneg a.1 (show (0 : Int) ≤ r by omega)
  rw [hn, e0]; omega
 have n1 : n < b * 37 := by
  have h1 := Int.mul_le_mul_of_nonneg_right (show at0 ys k ≤ b - 1 by omega) (show (0 : Int) ≤ r by omega)
  have h2 := Int.mul_le_mul_of_nonneg_left hr (show (0 : Int) ≤ b - 1 by omega)
  rw [hn, e0]
  have h3 : (b - 1) * 36 = b * 36 - 36 := by omega
  omega
 have m0 := Int.emod_nonneg n (Int.ne_of_gt hb0)
 have m1 := Int.emod_lt_of_pos n hb0
 have me := Int.mul_ediv_add_emod n b
 refine ⟨by omega, by simpa using hl, dg_set h.dg _ m0 m1, ?_, ?_, Int.ediv_nonneg n0 (by omega), ?_⟩
 ·rw [List.drop_set_of_lt (by omega)]
  have := congrArg (List.drop 1) h.up
  rw [List.drop_drop, List.drop_drop] at this
  exact this
 ·have t1 : (zs.set k (n % b)).take (k + 1) = zs.take k ++ [n % b] := by
   rw [take_snoc (by simp; omega), at0_put_self _ (by omega), List.take_set_of_le (Nat.le_refl k)]
  have t2 : (zs.take k).length = k := by simp; omega
  rw [t1, lv_snoc, t2, lv_take_succ _ _ _ hk, Int.pow_succ]
  have e1 := h.eq
  rw [e0] at hn
  have e3 : b ^ k * b * (n / b) = b ^ k * (b * (n / b)) := Int.mul_assoc _ _ _
  have e4 : b ^ k * n = b ^ k * (at0 ys k * r) + b ^ k * cc := by rw [hn, Int.mul_add]
  have e5 : b ^ k * (b * (n / b)) + b ^ k * (n % b) = b ^ k * n := by rw [← Int.mul_add, me]
  have e6 : (Ma.lv b (ys.take k) + b ^ k * at0 ys k) * r = Ma.lv b (ys.take k) * r + b ^ k * (at0 ys k * r) := by rw [Int.add_mul, Int.mul_assoc]
  rw [e6, e3]
  omega
 ·have : n / b < 37 := Int.ediv_lt_of_lt_mul hb0 (by rw [Int.mul_comm]; exact n1)
  omega
theorem PrJ.fin {b r d : Int} {ys zs : List Int} {cc : Int} (h : PrJ b r d ys ys.length zs cc) : Ma.lv b zs + b ^ zs.length * cc = Ma.lv b ys * r + d := by
 have e := h.eq
 have l := h.len
 rw [List.take_of_length_le (by omega), List.take_of_length_le (Nat.le_refl _), ← l] at e
 exact e
theorem PrI.no {b r : Int} {ls ys zs : List Int} {i : Nat} (h : PrI b r ls i ys) (hi : i < ls.length) (hd : dv (at0 ls i) < r) (h2 : PrJ b r (dv (at0 ls i)) ys ys.length zs 0) : PrI b r ls (i + 1) zs := by
 have e := h2.fin
 refine ⟨by omega, fun j hj => ?_, h2.dg, ?_, by have := h2.len; have := h.len; omega⟩
 ·by_cases e : j = i
  ·subst e; exact hd
  ·exact h.ok j (by omega)
 ·rw [pv_step hi, ← h.lv]; omega
theorem PrI.yes {b r : Int} {ls ys zs : List Int} {i : Nat} {cc : Int} (hb : 65536 ≤ b) (h : PrI b r ls i ys) (hi : i < ls.length) (hd : dv (at0 ls i) < r) (h2 : PrJ b r (dv (at0 ls i)) ys ys.length zs cc) : PrI b r ls (i + 1) (zs ++ [cc]) := by
 have e := h2.fin
 refine ⟨by omega, fun j hj => ?_, dg_append.2 ⟨h2.dg, fun x hx => ?_⟩, ?_, by have := h2.len; have := h.len; simp; omega⟩
 ·by_cases e : j = i
  ·subst e; exact hd
  ·exact h.ok j (by omega)
 ·have c0 := h2.c0
  have c1 := h2.c1
  rw [List.mem_singleton] at hx
  omega
 ·rw [lv_snoc, pv_step hi, ← h.lv]; exact e
theorem all_at {ls : List Int} {r : Int} : (ls.all fun c => decide (dv c < r)) = true ↔ ∀ j, j < ls.length → dv (at0 ls j) < r := by
 rw [List.all_eq_true]
 constructor
 ·intro h j hj
  have := h _ (List.getElem_mem hj)
  rw [at0_of_lt hj]
  simpa using this
 ·intro h x hx
  obtain ⟨j, hj, rfl⟩ := List.getElem_of_mem hx
  have := h j hj
  rw [at0_of_lt hj] at this
  simpa using this
end Go.Proofs.YthpjmhhfcechmaaGreat.Ma
/- The contract of the program's Power, by rules. -/
namespace Go.Proofs.YthpjmhhfcechmaaGreat.Sy
open Go Go.RowKit Ma
end Go.Proofs.YthpjmhhfcechmaaGreat.Sy
/- The contract of the program's Power, in one; powers of powers of two. -/
namespace Go.Proofs.YthpjmhhfcechmaaGreat.Sy
open Go Go.RowKit Ma
/-! ### Powers of powers of two -/
end Go.Proofs.YthpjmhhfcechmaaGreat.Sy
/- The reference's Length, Power, Root by rules. -/
namespace Go.Proofs.YthpjmhhfcechmaaGreat.Sy
open Go Go.RowKit Ma
end Go.Proofs.YthpjmhhfcechmaaGreat.Sy
/- The reference's Bits and Of by rules. -/
namespace Go.Proofs.YthpjmhhfcechmaaGreat.Sy
open Go Go.RowKit Ma
end Go.Proofs.YthpjmhhfcechmaaGreat.Sy
/- The reference's Bit, Boole, Count, Field, Deposit by rules. -/
namespace Go.Proofs.YthpjmhhfcechmaaGreat.Sy
open Go Go.RowKit Ma
end Go.Proofs.YthpjmhhfcechmaaGreat.Sy
/- The contract of the program's Root, by rules. -/
namespace Go.Proofs.YthpjmhhfcechmaaGreat.Sy
open Go Go.RowKit Ma
section
variable {x q r : Int}
end
end Go.Proofs.YthpjmhhfcechmaaGreat.Sy
/- Odd, Int64 of the program and of the reference by rules. -/
namespace Go.Proofs.YthpjmhhfcechmaaGreat.Sy
open Go Go.RowKit Ma
section
variable {x y : Operand} {dst : Option Tmp} {ty : TypeId} {pos : String} {after : Array Edge} {guard : Option (Nat × Bool)} {ρ : Operand → Value} {W : World} {a b z : Int}
theorem r_i64u (h1 : ρ x = .int .i64 a) (h : 0 ≤ a ∧ a < 9223372036854775808) : (execOp ρ ⟨dst, .convert 3 131 x, ty, pos, after, guard⟩).run Tryz.prog W = .ok (.value (.int .u64 a)) W := by
 have e : IntKind.u64.wrap a = a := IntWalk.u64_in _ (by omega)
 go_simp
 done
end
section
variable {B N : Nat} {w0 : World} {fr : List (Nat × AV)} {fn : Func}
theorem SX.done2t {e : Exit} {s t : Nat} {u v : Value} (he : e = .ret ∨ e = .normal) (hr : fn.results = #[.tmp s, .tmp t]) (hs : look fr s = some (.vl u)) (ht : look fr t = some (.vl v)) (hB : B = w0.heap.size) : SX B N w0 e fr (bodyPost Tryz.prog fn (Ret w0 (K2 (KV u) (KV v)))) := fun a W hf => by
 have a1 : a.tmps.getD s undef = u := hf.ho s _ hs
 have a2 : a.tmps.getD t undef = v := hf.ho t _ ht
 have hrun : (results fn a.tmps).run Tryz.prog W = .ok (.tuple #[a.tmps.getD s undef, a.tmps.getD t undef]) W := by
  unfold results
  simp [hr, go_sem]
 rw [a1, a2] at hrun
 have key : a.defers = [] ∧ ∃ v', (results fn a.tmps).run Tryz.prog W = .ok v' W ∧ Ret w0 (K2 (KV u) (KV v)) (.returned v') W :=
  ⟨hf.df, _, hrun, ⟨_, rfl, ⟨u, v, rfl, rfl, rfl⟩, by have := hf.be; rw [hB] at this; exact this⟩⟩
 rcases he with rfl | rfl <;> exact key
end
end Go.Proofs.YthpjmhhfcechmaaGreat.Sy
/- A walk by rules: strings: their length, their bytes, parts of them; contracts of strings.HasPrefix, IndexByte. -/
namespace Go.Proofs.YthpjmhhfcechmaaGreat.Sy
open Go Go.RowKit Ma
section
variable {x y z : Operand} {dst : Option Tmp} {ty : TypeId} {pos : String} {after : Array Edge} {guard : Option (Nat × Bool)} {ρ : Operand → Value} {W : World} {a b : Int} {s t : ByteArray}
theorem r_slen (h1 : ρ x = .string s) : (execOp ρ ⟨dst, .call ⟨.builtin .len, #[x], #[9]⟩, ty, pos, after, guard⟩).run Tryz.prog W = .ok (.value (.int .i64 (s.size : Int))) W := by
 go_simp
theorem r_sidx {i : Nat} (h1 : ρ x = .string s) (h2 : ρ y = .int .i64 (i : Int)) (hi : i < s.size) : (execOp ρ ⟨dst, .index 9 x y, ty, pos, after, guard⟩).run Tryz.prog W = .ok (.value (.int .u8 (at0 (byl s) i))) W := by
 rw [← byl_at s hi]
 go_simp
theorem r_sfrom {p : Nat} (h1 : ρ x = .string s) (h2 : ρ y = .int .i64 (p : Int)) (hp : p ≤ s.size) : (execOp ρ ⟨dst, .slice 9 x (some y) none none, ty, pos, after, guard⟩).run Tryz.prog W = .ok (.value (.string (s.extract p s.size))) W := by
 go_simp
theorem r_seq {c : Bool} (h1 : ρ x = .string s) (h2 : ρ y = .string t) (e : (s.toList == t.toList) = c) : (execOp ρ ⟨dst, .binOp .eql 9 x y 9, ty, pos, after, guard⟩).run Tryz.prog W = .ok (.value (.bool c)) W := by
 subst e
 go_simp
theorem r_sadd (h1 : ρ x = .string s) (h2 : ρ y = .string t) (h : s.size + t.size ≤ 9223372036854775807) : (execOp ρ ⟨dst, .binOp .add 9 x y 9, ty, pos, after, guard⟩).run Tryz.prog W = .ok (.value (.string (s ++ t))) W := by
 have e := run_string_add_sum (P := Tryz.prog) W s t h
 go_simp
theorem r_ge8 {c : Bool} (h1 : ρ x = .int .u8 a) (h2 : ρ y = .int .u8 b) (e : decide (a ≥ b) = c) : (execOp ρ ⟨dst, .binOp .geq 5 x y 5, ty, pos, after, guard⟩).run Tryz.prog W = .ok (.value (.bool c)) W := by
 subst e
 go_simp
theorem r_le8 {c : Bool} (h1 : ρ x = .int .u8 a) (h2 : ρ y = .int .u8 b) (e : decide (a ≤ b) = c) : (execOp ρ ⟨dst, .binOp .leq 5 x y 5, ty, pos, after, guard⟩).run Tryz.prog W = .ok (.value (.bool c)) W := by
 subst e
 go_simp
theorem r_sub8 {c : Int} (h1 : ρ x = .int .u8 a) (h2 : ρ y = .int .u8 b) (e : a - b = c) (hc : 0 ≤ c ∧ c < 256) : (execOp ρ ⟨dst, .binOp .sub 5 x y 5, ty, pos, after, guard⟩).run Tryz.prog W = .ok (.value (.int .u8 c)) W := by
 subst e
 have e : IntKind.u8.wrap (a - b) = a - b := IntWalk.u8_in _ (by omega)
 go_simp
 done
end
theorem toList_byl (s t : ByteArray) : (s.toList == t.toList) = decide (byl s = byl t) := by
 rw [ByteArray.toList_eq, ByteArray.toList_eq]
 by_cases h : s = t
 ·subst h; simp
 ·have h1 : byl s ≠ byl t := fun e => h (byl_inj e)
  rw [decide_eq_false h1]
  rw [← Bool.not_eq_true, beq_iff_eq]
  intro e
  apply h
  cases s; cases t; congr; exact Array.toList_inj.1 e
theorem empty_eq (s : ByteArray) : (s.toList == (ByteArray.mk #[]).toList) = decide (s.size = 0) := by
 rw [toList_byl]
 congr 1
 apply propext
 show byl s = [] ↔ _
 rw [← byl_len]
 exact List.length_eq_zero_iff.symm
theorem k_hasPrefix (s p : ByteArray) {c : Bool} (e : Lib.hasPrefix s.data.toList p.data.toList = c) : CallOk 89 [KV (.string s), KV (.string p)] (KV (.bool c)) :=
 call2 (fun args W => by go_simp) fun W u v e1 e2 => by
  obtain rfl : u = _ := e1
  obtain rfl : v = _ := e2
  subst e
  exact (Tryz.strings_HasPrefix s p W).mono fun e W' ⟨e1, e2⟩ => ⟨_, e1, rfl, e2 ▸ Nw.refl _⟩
theorem k_indexByte (s : ByteArray) (c : Int) {r : Int} (e : Lib.indexByte s.data.toList c.toNat.toUInt8 = r) : CallOk 152 [KV (.string s), KV (.int .u8 c)] (KV (.int .i64 r)) :=
 call2 (fun args W => by go_simp) fun W u v e1 e2 => by
  obtain rfl : u = _ := e1
  obtain rfl : v = _ := e2
  subst e
  exact (Tryz.strings_IndexByte s c W).mono fun e W' ⟨e1, e2⟩ => ⟨_, e1, rfl, e2 ▸ Nw.refl _⟩
theorem pre_one (s : ByteArray) (b : UInt8) : Lib.hasPrefix s.data.toList [b] = decide (0 < s.size ∧ at0 (byl s) 0 = (b.toNat : Int)) := by
 unfold Lib.hasPrefix
 have hs : s.size = s.data.toList.length := by simp
 unfold byl
 rw [hs]
 cases s.data.toList with
 | nil => simp
 | cons x l =>
  simp only [List.isPrefixOf, Bool.and_true, List.length_cons, List.map_cons, at0, List.getD_cons_zero]
  by_cases h : b = x
  ·subst h; simp
  ·have h2 : ¬ ((x.toNat : Int) = (b.toNat : Int)) := fun e => h (UInt8.toNat_inj.1 (by omega)).symm
   simp [h, h2]
def ixd (c : Int) : Int := if 48 ≤ c ∧ c ≤ 57 then c - 48 else if 65 ≤ c ∧ c ≤ 90 then c - 55 else -1
theorem index_digs {c : Int} (h0 : 0 ≤ c) (h1 : c < 256) : Lib.indexByte digs.data.toList c.toNat.toUInt8 = ixd c := by
 have key : ∀ n : Fin 256, Lib.indexByte digs.data.toList n.val.toUInt8 = ixd (n.val : Int) := by decide +kernel
 have := key ⟨c.toNat, by omega⟩
 rw [Int.toNat_of_nonneg h0] at this
 exact this
def KPI : Except Int Int → Know
 | .ok z => K2 (KI z) (KV (.int .i64 0))
 | .error e => K2 (KI 0) (KV (.int .i64 e))
theorem parse_radix {r : Int} {s : List Int} (h : ¬ (2 ≤ r ∧ r ≤ 36)) : parseR r s = .error 1 := if_pos h
theorem parse_long {r : Int} {s : List Int} (h : 2 ≤ r ∧ r ≤ 36) (hl : 20000 < s.length) : parseR r s = .error 14 := by
 unfold parseR; rw [if_neg (fun x => x h), if_pos hl]
theorem parse_form {r : Int} {s b : List Int} (h : 2 ≤ r ∧ r ≤ 36) (hl : ¬ 20000 < s.length) (hb : b = if at0 s 0 = 45 ∨ at0 s 0 = 43 then s.drop 1 else s) : parseR r s = if b = [] then .error 2 else if b.all fun c => decide (dv c < r) then .ok (sg (decide (at0 s 0 = 45)) (pv r 0 b)) else .error 2 := by
 subst hb
 unfold parseR; rw [if_neg (fun x => x h), if_neg hl]
theorem form_empty {r z : Int} {b : List Int} {g : Bool} (h : b.length = 0) : (if b = [] then Except.error 2 else if b.all fun c => decide (dv c < r) then .ok (sg g (pv r 0 b)) else .error 2 : Except Int Int) = .error 2 := by
 rw [if_pos (List.eq_nil_of_length_eq_zero h)]
theorem form_bad {r : Int} {b : List Int} {g : Bool} {i : Nat} (hi : i < b.length) (h : dv (at0 b i) ≥ r) : (if b = [] then Except.error 2 else if b.all fun c => decide (dv c < r) then .ok (sg g (pv r 0 b)) else .error 2 : Except Int Int) = .error 2 := by
 have h1 : ¬ (b.all fun c => decide (dv c < r)) = true := fun h2 => by have := all_at.1 h2 i hi; omega
 rw [if_neg h1]
 split <;> rfl
theorem form_ok {r : Int} {b : List Int} {g : Bool} (h0 : ¬ b.length = 0) (h : ∀ j, j < b.length → dv (at0 b j) < r) : (if b = [] then Except.error 2 else if b.all fun c => decide (dv c < r) then .ok (sg g (pv r 0 b)) else .error 2 : Except Int Int) = .ok (sg g (pv r 0 b)) := by
 rw [if_neg (fun e => h0 (by rw [e]; rfl)), if_pos (all_at.2 h)]
end Go.Proofs.YthpjmhhfcechmaaGreat.Sy
