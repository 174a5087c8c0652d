/- Parts If, in one file. -/
import Derived.Test.YtcgkgcciogibkaaLFields8
import Derived.Test.YtcgkgcciogibkaaLFields9
/- IntegerFields: the walk, by rules. -/
set_option linter.unusedVariables false
set_option linter.unusedSimpArgs false
namespace Go.Proofs.Ytcgkgcciogibkaa
open Go.RowKit Ma Sy
theorem sh300 {x n : Int} (X : bd 8 x) (h : ¬ n > 300) : shOk x n := by have := wid_bdp X; unfold shOk; omega
theorem not_shOk {x n : Int} (hx : x ≠ 0) (h : n > 65536) : ¬ shOk x n := by unfold shOk; omega
theorem bd_sh300 {x n : Int} (X : bd 8 x) (h : ¬ n > 300) : bd 18 (sh x n) := by
  by_cases hn : 0 ≤ n
  · obtain ⟨k, rfl⟩ : ∃ k : Nat, n = k := ⟨n.toNat, by omega⟩
    exact bd.up X (k := k) (m := 10) (by omega)
  · obtain ⟨k, rfl⟩ : ∃ k : Nat, n = -(k : Int) := ⟨(-n).toNat, by omega⟩
    exact (bd.down X).mono (by omega)
theorem bd_sh0 {x n : Int} (h : x = 0) : bd 18 (sh x n) := by
  have e : sh x n = 0 := by rw [h]; unfold sh; split <;> simp
  rw [e]; exact bd.zero
theorem k_Shift_1 {x i : Int} {a : Nat} (hx : bd a x) (ha : a ≤ 300000) (h0 : -9223372036854775808 ≤ i) (h1 : i ≤ 9223372036854775807) (hs : ¬ shOk x i) : CallOk 56 [KI x, KV (.int .i64 i)] (K2 (KI 0) (KV (.int .i64 14))) := callIV ce_Shift fun W n A l c h => Shift_1 h (h.le hx ha) h0 h1 hs
theorem sz_no {a b : Int} (h : ¬ (0 ≤ a ∧ a ≤ 65536 ∧ 0 ≤ b ∧ b ≤ 65536)) : sz a b = false := by
  rw [← Bool.not_eq_true]
  intro e
  exact h (sz_bd e)
theorem k_field_bad {x a b : Int} (h : ¬ (0 ≤ a ∧ a ≤ 65536 ∧ 0 ≤ b ∧ b ≤ 65536)) : CallOk 58 [KI x, KV (.int .i64 a), KV (.int .i64 b)] (K2 (KI 0) (KV (.int .i64 1))) :=
  call3 ce_field fun W u v u' ⟨n, A, l, c, e, i1⟩ e2 e3 => by subst e; obtain rfl : v = _ := e2; obtain rfl : u' = _ := e3; exact field_1 i1 (sz_no h)
theorem k_dep_bad {x y a b : Int} (h : ¬ (0 ≤ a ∧ a ≤ 65536 ∧ 0 ≤ b ∧ b ≤ 65536)) : CallOk 60 [KI x, KI y, KV (.int .i64 a), KV (.int .i64 b)] (K2 (KI 0) (KV (.int .i64 1))) :=
  call4 ce_dep fun W u v u' v' ⟨n, A, l, c, e, i1⟩ ⟨m, B, l', d, e', i2⟩ e2 e3 => by subst e e'; obtain rfl : u' = _ := e2; obtain rfl : v' = _ := e3; exact deposit_1 i1 i2 (sz_no h)
set_option maxHeartbeats 12800000 in
set_option maxRecDepth 100000 in
theorem integerFields_walk {n1 n2 : Bool} {A1 A2 : Option Addr} {l1 l2 c1 c2 : Nat} {xs1 xs2 : List Int} {n : Int} {k : Int} {q : Int}  {w : World} (h1 : In w A1 l1 c1 xs1) (h2 : In w A2 l2 c2 xs2) (hw1 : (Lit.int .i64 n).wf = true) (hw2 : (Lit.int .i64 k).wf = true) (hw3 : (Lit.int .i64 q).wf = true) :
    Calls Try.prog 9 #[.agg #[.bool n1, .slice A1 l1 c1], .agg #[.bool n2, .slice A2 l2 c2], .int .i64 n, .int .i64 k, .int .i64 q] w (Ret w (KV (.bool true))) := by
  obtain ⟨x, hz1⟩ : ∃ z, z = sg n1 (lv b32 xs1) := ⟨_, rfl⟩
  obtain ⟨y, hz2⟩ : ∃ z, z = sg n2 (lv b32 xs2) := ⟨_, rfl⟩
  have hnr := lit_i64 hw1
  have hkr := lit_i64 hw2
  have hqr := lit_i64 hw3
  refine calls_sc (l := [.vl (.agg #[.bool n1, .slice A1 l1 c1]), .vl (.agg #[.bool n2, .slice A2 l2 c2]), .vl (.int .i64 n), .vl (.int .i64 k), .vl (.int .i64 q)]) (us := [.agg #[.bool n1, .slice A1 l1 c1], .agg #[.bool n2, .slice A2 l2 c2], .int .i64 n, .int .i64 k, .int .i64 q]) 140 Try.func9 rfl Try.ntmps9 (by simp) ⟨rfl, rfl, rfl, rfl, rfl, rfl, rfl, rfl, rfl, rfl, trivial⟩ ?_
  refine SC.seq ?_
  refine SC.region ?_
  refine PW.box (x := .tmp 0) (r := .vl (.agg #[.bool n1, .slice A1 l1 c1])) (BI 24) rfl rfl rfl rfl rfl bN rfl sh_V ?_
  refine PW.box (x := .tmp 1) (r := .vl (.agg #[.bool n2, .slice A2 l2 c2])) (BI 24) rfl rfl rfl rfl rfl bN rfl sh_V ?_
  refine PW.assign rfl rfl rfl rfl rfl ?_
  refine PW.nil ?_
  refine SX.then ?_
  refine SC.seq ?_
  refine SC.seq ?_
  by_cases hs : shB 8 [(n1, A1, l1, c1), (n2, A2, l2, c2)] = true
  · have hlehs : l1 ≤ 8 ∧ l2 ≤ 8 := by simpa [shB] using hs
    have X : bd 8 x := hz1 ▸ bd_sg h1.2.2.2 (by have := h1.1; omega)
    have Y : bd 8 y := hz2 ▸ bd_sg h2.2.2.2 (by have := h2.1; omega)
    have hl1 : l1 ≤ 8 := by omega
    have hl2 : l2 ≤ 8 := by omega
    by_cases n3 : n > 300
    · by_cases n6 : n ≤ 65536
      · refine SC.region ?_
        refine PW.loadV rfl rfl rfl rfl rfl rfl ?_
        refine PW.loadV rfl rfl rfl rfl rfl rfl ?_
        refine PW.short 8 [(n1, A1, l1, c1), (n2, A2, l2, c2)] _ rfl rfl rfl (fun a W hf => r_bN2 (hf.vl (s := 27) rfl) (hf.vl (s := 28) rfl)) (fun W => ns_lit2 W) (by simp; exact ⟨In.lim h1, In.lim h2⟩) rfl rfl hs rfl rfl rfl rfl rfl rfl ?_
        refine PW.q1 (x := .tmp 30) (.bool false) rfl rfl rfl rfl (fun ρ W h1 => by go_simp) ?_
        refine PW.move rfl rfl rfl rfl rfl ?_
        refine PW.move rfl rfl rfl rfl rfl ?_
        refine PW.q2 (x := .tmp 33) (y := .const (.int .i64 300)) (.bool true) rfl rfl rfl rfl rfl (fun ρ W h1 h2 => by exact r_gt h1 h2 (decide_eq_true n3)) ?_
        refine PW.move rfl rfl rfl rfl rfl ?_
        refine PW.move rfl rfl rfl rfl rfl ?_
        refine PW.q2 (x := .tmp 36) (y := .const (.int .i64 65536)) (.bool true) rfl rfl rfl rfl rfl (fun ρ W h1 h2 => by exact r_le h1 h2 (decide_eq_true n6)) ?_
        refine PW.pick (t := true) rfl rfl rfl rfl rfl rfl ?_
        refine PW.pick (t := false) rfl rfl rfl rfl rfl rfl ?_
        refine PW.move rfl rfl rfl rfl rfl ?_
        refine PW.skip rfl rfl rfl ?_
        refine PW.skip rfl rfl rfl ?_
        refine PW.skip rfl rfl rfl ?_
        refine PW.skip rfl rfl rfl ?_
        refine PW.skip rfl rfl rfl ?_
        refine PW.skip rfl rfl rfl ?_
        refine PW.pick (t := true) rfl rfl rfl rfl rfl rfl ?_
        refine PW.move rfl rfl rfl rfl rfl ?_
        refine PW.skip rfl rfl rfl ?_
        refine PW.skip rfl rfl rfl ?_
        refine PW.skip rfl rfl rfl ?_
        refine PW.skip rfl rfl rfl ?_
        refine PW.skip rfl rfl rfl ?_
        refine PW.skip rfl rfl rfl ?_
        refine PW.pick (t := true) rfl rfl rfl rfl rfl rfl ?_
        refine PW.nil ?_
        refine SX.then ?_
        refine SC.cond (t := true) rfl ?_
        refine SC.seq ?_
        refine SC.region ?_
        refine PW.call (r := .vl (.bool true)) rfl rfl rfl rfl rfl rfl (KV.st _) rfl (k_awake) ?_
        refine PW.assign rfl rfl rfl rfl rfl ?_
        refine PW.nil ?_
        refine SX.then ?_
        refine SC.ret ?_
        refine SX.thenR ?_
        exact SX.done (r := .vl (.bool true)) rfl rfl rfl
      · by_cases k3 : k > 300
        · by_cases k6 : k ≤ 65536
          · refine SC.region ?_
            refine PW.loadV rfl rfl rfl rfl rfl rfl ?_
            refine PW.loadV rfl rfl rfl rfl rfl rfl ?_
            refine PW.short 8 [(n1, A1, l1, c1), (n2, A2, l2, c2)] _ rfl rfl rfl (fun a W hf => r_bN2 (hf.vl (s := 27) rfl) (hf.vl (s := 28) rfl)) (fun W => ns_lit2 W) (by simp; exact ⟨In.lim h1, In.lim h2⟩) rfl rfl hs rfl rfl rfl rfl rfl rfl ?_
            refine PW.q1 (x := .tmp 30) (.bool false) rfl rfl rfl rfl (fun ρ W h1 => by go_simp) ?_
            refine PW.move rfl rfl rfl rfl rfl ?_
            refine PW.move rfl rfl rfl rfl rfl ?_
            refine PW.q2 (x := .tmp 33) (y := .const (.int .i64 300)) (.bool true) rfl rfl rfl rfl rfl (fun ρ W h1 h2 => by exact r_gt h1 h2 (decide_eq_true n3)) ?_
            refine PW.move rfl rfl rfl rfl rfl ?_
            refine PW.move rfl rfl rfl rfl rfl ?_
            refine PW.q2 (x := .tmp 36) (y := .const (.int .i64 65536)) (.bool false) rfl rfl rfl rfl rfl (fun ρ W h1 h2 => by exact r_le h1 h2 (decide_eq_false n6)) ?_
            refine PW.pick (t := true) rfl rfl rfl rfl rfl rfl ?_
            refine PW.pick (t := false) rfl rfl rfl rfl rfl rfl ?_
            refine PW.move rfl rfl rfl rfl rfl ?_
            refine PW.move rfl rfl rfl rfl rfl ?_
            refine PW.q2 (x := .tmp 41) (y := .const (.int .i64 300)) (.bool true) rfl rfl rfl rfl rfl (fun ρ W h1 h2 => by exact r_gt h1 h2 (decide_eq_true k3)) ?_
            refine PW.move rfl rfl rfl rfl rfl ?_
            refine PW.move rfl rfl rfl rfl rfl ?_
            refine PW.q2 (x := .tmp 44) (y := .const (.int .i64 65536)) (.bool true) rfl rfl rfl rfl rfl (fun ρ W h1 h2 => by exact r_le h1 h2 (decide_eq_true k6)) ?_
            refine PW.pick (t := true) rfl rfl rfl rfl rfl rfl ?_
            refine PW.pick (t := false) rfl rfl rfl rfl rfl rfl ?_
            refine PW.move rfl rfl rfl rfl rfl ?_
            refine PW.skip rfl rfl rfl ?_
            refine PW.skip rfl rfl rfl ?_
            refine PW.skip rfl rfl rfl ?_
            refine PW.skip rfl rfl rfl ?_
            refine PW.skip rfl rfl rfl ?_
            refine PW.skip rfl rfl rfl ?_
            refine PW.pick (t := true) rfl rfl rfl rfl rfl rfl ?_
            refine PW.nil ?_
            refine SX.then ?_
            refine SC.cond (t := true) rfl ?_
            refine SC.seq ?_
            refine SC.region ?_
            refine PW.call (r := .vl (.bool true)) rfl rfl rfl rfl rfl rfl (KV.st _) rfl (k_awake) ?_
            refine PW.assign rfl rfl rfl rfl rfl ?_
            refine PW.nil ?_
            refine SX.then ?_
            refine SC.ret ?_
            refine SX.thenR ?_
            exact SX.done (r := .vl (.bool true)) rfl rfl rfl
          · by_cases q3 : q > 300
            · by_cases q6 : q ≤ 65536
              · refine SC.region ?_
                refine PW.loadV rfl rfl rfl rfl rfl rfl ?_
                refine PW.loadV rfl rfl rfl rfl rfl rfl ?_
                refine PW.short 8 [(n1, A1, l1, c1), (n2, A2, l2, c2)] _ rfl rfl rfl (fun a W hf => r_bN2 (hf.vl (s := 27) rfl) (hf.vl (s := 28) rfl)) (fun W => ns_lit2 W) (by simp; exact ⟨In.lim h1, In.lim h2⟩) rfl rfl hs rfl rfl rfl rfl rfl rfl ?_
                refine PW.q1 (x := .tmp 30) (.bool false) rfl rfl rfl rfl (fun ρ W h1 => by go_simp) ?_
                refine PW.move rfl rfl rfl rfl rfl ?_
                refine PW.move rfl rfl rfl rfl rfl ?_
                refine PW.q2 (x := .tmp 33) (y := .const (.int .i64 300)) (.bool true) rfl rfl rfl rfl rfl (fun ρ W h1 h2 => by exact r_gt h1 h2 (decide_eq_true n3)) ?_
                refine PW.move rfl rfl rfl rfl rfl ?_
                refine PW.move rfl rfl rfl rfl rfl ?_
                refine PW.q2 (x := .tmp 36) (y := .const (.int .i64 65536)) (.bool false) rfl rfl rfl rfl rfl (fun ρ W h1 h2 => by exact r_le h1 h2 (decide_eq_false n6)) ?_
                refine PW.pick (t := true) rfl rfl rfl rfl rfl rfl ?_
                refine PW.pick (t := false) rfl rfl rfl rfl rfl rfl ?_
                refine PW.move rfl rfl rfl rfl rfl ?_
                refine PW.move rfl rfl rfl rfl rfl ?_
                refine PW.q2 (x := .tmp 41) (y := .const (.int .i64 300)) (.bool true) rfl rfl rfl rfl rfl (fun ρ W h1 h2 => by exact r_gt h1 h2 (decide_eq_true k3)) ?_
                refine PW.move rfl rfl rfl rfl rfl ?_
                refine PW.move rfl rfl rfl rfl rfl ?_
                refine PW.q2 (x := .tmp 44) (y := .const (.int .i64 65536)) (.bool false) rfl rfl rfl rfl rfl (fun ρ W h1 h2 => by exact r_le h1 h2 (decide_eq_false k6)) ?_
                refine PW.pick (t := true) rfl rfl rfl rfl rfl rfl ?_
                refine PW.pick (t := false) rfl rfl rfl rfl rfl rfl ?_
                refine PW.move rfl rfl rfl rfl rfl ?_
                refine PW.move rfl rfl rfl rfl rfl ?_
                refine PW.q2 (x := .tmp 49) (y := .const (.int .i64 300)) (.bool true) rfl rfl rfl rfl rfl (fun ρ W h1 h2 => by exact r_gt h1 h2 (decide_eq_true q3)) ?_
                refine PW.move rfl rfl rfl rfl rfl ?_
                refine PW.move rfl rfl rfl rfl rfl ?_
                refine PW.q2 (x := .tmp 52) (y := .const (.int .i64 65536)) (.bool true) rfl rfl rfl rfl rfl (fun ρ W h1 h2 => by exact r_le h1 h2 (decide_eq_true q6)) ?_
                refine PW.pick (t := true) rfl rfl rfl rfl rfl rfl ?_
                refine PW.pick (t := false) rfl rfl rfl rfl rfl rfl ?_
                refine PW.nil ?_
                refine SX.then ?_
                refine SC.cond (t := true) rfl ?_
                refine SC.seq ?_
                refine SC.region ?_
                refine PW.call (r := .vl (.bool true)) rfl rfl rfl rfl rfl rfl (KV.st _) rfl (k_awake) ?_
                refine PW.assign rfl rfl rfl rfl rfl ?_
                refine PW.nil ?_
                refine SX.then ?_
                refine SC.ret ?_
                refine SX.thenR ?_
                exact SX.done (r := .vl (.bool true)) rfl rfl rfl
              · refine SC.region ?_
                refine PW.loadV rfl rfl rfl rfl rfl rfl ?_
                refine PW.loadV rfl rfl rfl rfl rfl rfl ?_
                refine PW.short 8 [(n1, A1, l1, c1), (n2, A2, l2, c2)] _ rfl rfl rfl (fun a W hf => r_bN2 (hf.vl (s := 27) rfl) (hf.vl (s := 28) rfl)) (fun W => ns_lit2 W) (by simp; exact ⟨In.lim h1, In.lim h2⟩) rfl rfl hs rfl rfl rfl rfl rfl rfl ?_
                refine PW.q1 (x := .tmp 30) (.bool false) rfl rfl rfl rfl (fun ρ W h1 => by go_simp) ?_
                refine PW.move rfl rfl rfl rfl rfl ?_
                refine PW.move rfl rfl rfl rfl rfl ?_
                refine PW.q2 (x := .tmp 33) (y := .const (.int .i64 300)) (.bool true) rfl rfl rfl rfl rfl (fun ρ W h1 h2 => by exact r_gt h1 h2 (decide_eq_true n3)) ?_
                refine PW.move rfl rfl rfl rfl rfl ?_
                refine PW.move rfl rfl rfl rfl rfl ?_
                refine PW.q2 (x := .tmp 36) (y := .const (.int .i64 65536)) (.bool false) rfl rfl rfl rfl rfl (fun ρ W h1 h2 => by exact r_le h1 h2 (decide_eq_false n6)) ?_
                refine PW.pick (t := true) rfl rfl rfl rfl rfl rfl ?_
                refine PW.pick (t := false) rfl rfl rfl rfl rfl rfl ?_
                refine PW.move rfl rfl rfl rfl rfl ?_
                refine PW.move rfl rfl rfl rfl rfl ?_
                refine PW.q2 (x := .tmp 41) (y := .const (.int .i64 300)) (.bool true) rfl rfl rfl rfl rfl (fun ρ W h1 h2 => by exact r_gt h1 h2 (decide_eq_true k3)) ?_
                refine PW.move rfl rfl rfl rfl rfl ?_
                refine PW.move rfl rfl rfl rfl rfl ?_
                refine PW.q2 (x := .tmp 44) (y := .const (.int .i64 65536)) (.bool false) rfl rfl rfl rfl rfl (fun ρ W h1 h2 => by exact r_le h1 h2 (decide_eq_false k6)) ?_
                refine PW.pick (t := true) rfl rfl rfl rfl rfl rfl ?_
                refine PW.pick (t := false) rfl rfl rfl rfl rfl rfl ?_
                refine PW.move rfl rfl rfl rfl rfl ?_
                refine PW.move rfl rfl rfl rfl rfl ?_
                refine PW.q2 (x := .tmp 49) (y := .const (.int .i64 300)) (.bool true) rfl rfl rfl rfl rfl (fun ρ W h1 h2 => by exact r_gt h1 h2 (decide_eq_true q3)) ?_
                refine PW.move rfl rfl rfl rfl rfl ?_
                refine PW.move rfl rfl rfl rfl rfl ?_
                refine PW.q2 (x := .tmp 52) (y := .const (.int .i64 65536)) (.bool false) rfl rfl rfl rfl rfl (fun ρ W h1 h2 => by exact r_le h1 h2 (decide_eq_false q6)) ?_
                refine PW.pick (t := true) rfl rfl rfl rfl rfl rfl ?_
                refine PW.pick (t := false) rfl rfl rfl rfl rfl rfl ?_
                refine PW.nil ?_
                refine SX.then ?_
                refine SC.cond (t := false) rfl ?_
                refine SC.skip ?_
                refine SX.then ?_
                refine SC.seq ?_
                refine SC.region ?_
                refine PW.loadV rfl rfl rfl rfl rfl rfl ?_
                refine PW.callG (r := .kw (K2 (KI (x)) (KJ (x)))) ce_of rfl rfl rfl rfl rfl (K2.st (KI.st _) (KJ.st _)) rfl (fun a W hf => by have e1 := hf.vl (s := 58) rfl; show Calls Try.prog _ #[a.tmps.getD 58 undef] W _; rw [e1]; exact of_in h1 hf.be (by omega) hz1) ?_
                refine PW.move rfl rfl rfl rfl rfl ?_
                refine PW.ext (r := .kw (KI (x))) rfl rfl rfl rfl rfl ex20 (KI.st _) rfl ?_
                refine PW.ext (r := .kw (KJ (x))) rfl rfl rfl rfl rfl ex21 (KJ.st _) rfl ?_
                refine PW.alloc (BI 28) rfl rfl rfl rfl rfl bI ?_
                refine PW.alloc (BI 31) rfl rfl rfl rfl rfl bJ ?_
                refine PW.store (x := .tmp 60) (r := .kw (KI (x))) rfl rfl rfl rfl rfl rfl sh_I ?_
                refine PW.store (x := .tmp 61) (r := .kw (KJ (x))) rfl rfl rfl rfl rfl rfl sh_J ?_
                refine PW.nil ?_
                refine SX.then ?_
                refine SC.seq ?_
                refine SC.region ?_
                refine PW.loadV rfl rfl rfl rfl rfl rfl ?_
                refine PW.callG (r := .kw (K2 (KI (y)) (KJ (y)))) ce_of rfl rfl rfl rfl rfl (K2.st (KI.st _) (KJ.st _)) rfl (fun a W hf => by have e1 := hf.vl (s := 63) rfl; show Calls Try.prog _ #[a.tmps.getD 63 undef] W _; rw [e1]; exact of_in h2 hf.be (by omega) hz2) ?_
                refine PW.move rfl rfl rfl rfl rfl ?_
                refine PW.ext (r := .kw (KI (y))) rfl rfl rfl rfl rfl ex20 (KI.st _) rfl ?_
                refine PW.ext (r := .kw (KJ (y))) rfl rfl rfl rfl rfl ex21 (KJ.st _) rfl ?_
                refine PW.alloc (BI 28) rfl rfl rfl rfl rfl bI ?_
                refine PW.alloc (BI 31) rfl rfl rfl rfl rfl bJ ?_
                refine PW.store (x := .tmp 65) (r := .kw (KI (y))) rfl rfl rfl rfl rfl rfl sh_I ?_
                refine PW.store (x := .tmp 66) (r := .kw (KJ (y))) rfl rfl rfl rfl rfl rfl sh_J ?_
                refine PW.nil ?_
                refine SX.then ?_
                refine SC.seq ?_
                by_cases x0 : x = 0
                · refine SC.region ?_
                  refine PW.load rfl rfl rfl rfl rfl rfl ?_
                  refine PW.move rfl rfl rfl rfl rfl ?_
                  refine PW.call (r := .kw (K2 (KI (sh x n)) (KV (.int .i64 0)))) rfl rfl rfl rfl rfl rfl (K2.st (KI.st _) (KV.st _)) rfl (k_Shift X (by decide) hnr.1 hnr.2 (.inr (.inl x0))) ?_
                  refine PW.move rfl rfl rfl rfl rfl ?_
                  refine PW.ext (r := .kw (KI (sh x n))) rfl rfl rfl rfl rfl ex20 (KI.st _) rfl ?_
                  refine PW.ext (r := .vl (.int .i64 0)) rfl rfl rfl rfl rfl ex21v (KV.st _) rfl ?_
                  refine PW.alloc (BI 28) rfl rfl rfl rfl rfl bI ?_
                  refine PW.store (x := .tmp 71) (r := .kw (KI (sh x n))) rfl rfl rfl rfl rfl rfl sh_I ?_
                  refine PW.assign rfl rfl rfl rfl rfl ?_
                  refine PW.nil ?_
                  refine SX.then ?_
                  refine SC.seq ?_
                  refine SC.region ?_
                  refine PW.load rfl rfl rfl rfl rfl rfl ?_
                  refine PW.move rfl rfl rfl rfl rfl ?_
                  refine PW.call (r := .kw (K2 (KJ (sh x n)) (KV (.int .i64 0)))) rfl rfl rfl rfl rfl rfl (K2.st (KJ.st _) (KV.st _)) rfl (k_jshift X (by decide) hnr.1 hnr.2 (.inr (.inl x0))) ?_
                  refine PW.move rfl rfl rfl rfl rfl ?_
                  refine PW.ext (r := .kw (KJ (sh x n))) rfl rfl rfl rfl rfl ex20 (KJ.st _) rfl ?_
                  refine PW.ext (r := .vl (.int .i64 0)) rfl rfl rfl rfl rfl ex21v (KV.st _) rfl ?_
                  refine PW.alloc (BI 31) rfl rfl rfl rfl rfl bJ ?_
                  refine PW.store (x := .tmp 77) (r := .kw (KJ (sh x n))) rfl rfl rfl rfl rfl rfl sh_J ?_
                  refine PW.assign rfl rfl rfl rfl rfl ?_
                  refine PW.nil ?_
                  refine SX.then ?_
                  refine SC.seq ?_
                  by_cases kq : 0 ≤ k ∧ k ≤ 65536 ∧ 0 ≤ q ∧ q ≤ 65536
                  · obtain ⟨kn, rfl⟩ : ∃ m : Nat, k = m := ⟨k.toNat, by omega⟩
                    obtain ⟨qn, rfl⟩ : ∃ m : Nat, q = m := ⟨q.toNat, by omega⟩
                    refine SC.region ?_
                    refine PW.load rfl rfl rfl rfl rfl rfl ?_
                    refine PW.move rfl rfl rfl rfl rfl ?_
                    refine PW.move rfl rfl rfl rfl rfl ?_
                    refine PW.call (r := .kw (K2 (KI (fld x kn qn)) (KV (.int .i64 0)))) rfl rfl rfl rfl rfl rfl (K2.st (KI.st _) (KV.st _)) rfl (k_field X (by decide) (by omega) (by omega)) ?_
                    refine PW.move rfl rfl rfl rfl rfl ?_
                    refine PW.ext (r := .kw (KI (fld x kn qn))) rfl rfl rfl rfl rfl ex20 (KI.st _) rfl ?_
                    refine PW.ext (r := .vl (.int .i64 0)) rfl rfl rfl rfl rfl ex21v (KV.st _) rfl ?_
                    refine PW.alloc (BI 28) rfl rfl rfl rfl rfl bI ?_
                    refine PW.store (x := .tmp 84) (r := .kw (KI (fld x kn qn))) rfl rfl rfl rfl rfl rfl sh_I ?_
                    refine PW.assign rfl rfl rfl rfl rfl ?_
                    refine PW.nil ?_
                    refine SX.then ?_
                    refine SC.seq ?_
                    refine SC.region ?_
                    refine PW.load rfl rfl rfl rfl rfl rfl ?_
                    refine PW.move rfl rfl rfl rfl rfl ?_
                    refine PW.move rfl rfl rfl rfl rfl ?_
                    refine PW.call (r := .kw (K2 (KJ (fld x kn qn)) (KV (.int .i64 0)))) rfl rfl rfl rfl rfl rfl (K2.st (KJ.st _) (KV.st _)) rfl (k_jfield X (by decide) (by omega) (by omega)) ?_
                    refine PW.move rfl rfl rfl rfl rfl ?_
                    refine PW.ext (r := .kw (KJ (fld x kn qn))) rfl rfl rfl rfl rfl ex20 (KJ.st _) rfl ?_
                    refine PW.ext (r := .vl (.int .i64 0)) rfl rfl rfl rfl rfl ex21v (KV.st _) rfl ?_
                    refine PW.alloc (BI 31) rfl rfl rfl rfl rfl bJ ?_
                    refine PW.store (x := .tmp 91) (r := .kw (KJ (fld x kn qn))) rfl rfl rfl rfl rfl rfl sh_J ?_
                    refine PW.assign rfl rfl rfl rfl rfl ?_
                    refine PW.nil ?_
                    refine SX.then ?_
                    refine SC.seq ?_
                    refine SC.region ?_
                    refine PW.load rfl rfl rfl rfl rfl rfl ?_
                    refine PW.load rfl rfl rfl rfl rfl rfl ?_
                    refine PW.move rfl rfl rfl rfl rfl ?_
                    refine PW.move rfl rfl rfl rfl rfl ?_
                    refine PW.call (r := .kw (K2 (KI (dep x y kn qn)) (KV (.int .i64 0)))) rfl rfl rfl rfl rfl rfl (K2.st (KI.st _) (KV.st _)) rfl (k_dep X Y (by decide) (by decide) (by omega) (by omega)) ?_
                    refine PW.move rfl rfl rfl rfl rfl ?_
                    refine PW.ext (r := .kw (KI (dep x y kn qn))) rfl rfl rfl rfl rfl ex20 (KI.st _) rfl ?_
                    refine PW.ext (r := .vl (.int .i64 0)) rfl rfl rfl rfl rfl ex21v (KV.st _) rfl ?_
                    refine PW.alloc (BI 28) rfl rfl rfl rfl rfl bI ?_
                    refine PW.store (x := .tmp 99) (r := .kw (KI (dep x y kn qn))) rfl rfl rfl rfl rfl rfl sh_I ?_
                    refine PW.assign rfl rfl rfl rfl rfl ?_
                    refine PW.nil ?_
                    refine SX.then ?_
                    refine SC.seq ?_
                    refine SC.region ?_
                    refine PW.load rfl rfl rfl rfl rfl rfl ?_
                    refine PW.load rfl rfl rfl rfl rfl rfl ?_
                    refine PW.move rfl rfl rfl rfl rfl ?_
                    refine PW.move rfl rfl rfl rfl rfl ?_
                    refine PW.call (r := .kw (K2 (KJ (dep x y kn qn)) (KV (.int .i64 0)))) rfl rfl rfl rfl rfl rfl (K2.st (KJ.st _) (KV.st _)) rfl (k_jdep X Y (by decide) (by decide) (by omega) (by omega)) ?_
                    refine PW.move rfl rfl rfl rfl rfl ?_
                    refine PW.ext (r := .kw (KJ (dep x y kn qn))) rfl rfl rfl rfl rfl ex20 (KJ.st _) rfl ?_
                    refine PW.ext (r := .vl (.int .i64 0)) rfl rfl rfl rfl rfl ex21v (KV.st _) rfl ?_
                    refine PW.alloc (BI 31) rfl rfl rfl rfl rfl bJ ?_
                    refine PW.store (x := .tmp 107) (r := .kw (KJ (dep x y kn qn))) rfl rfl rfl rfl rfl rfl sh_J ?_
                    refine PW.assign rfl rfl rfl rfl rfl ?_
                    refine PW.nil ?_
                    refine SX.then ?_
                    refine SC.seq ?_
                    refine SC.region ?_
                    refine PW.move rfl rfl rfl rfl rfl ?_
                    refine PW.move rfl rfl rfl rfl rfl ?_
                    refine PW.q2 (x := .tmp 109) (y := .tmp 110) (.bool true) rfl rfl rfl rfl rfl (fun ρ W h1 h2 => by go_simp) ?_
                    refine PW.move rfl rfl rfl rfl rfl ?_
                    refine PW.load rfl rfl rfl rfl rfl rfl ?_
                    refine PW.load rfl rfl rfl rfl rfl rfl ?_
                    refine PW.call (r := .vl (.bool true)) rfl rfl rfl rfl rfl rfl (KV.st _) rfl (k_is ((bd_sh0 x0)) (by first | decide | omega) rfl) ?_
                    refine PW.pick (t := true) rfl rfl rfl rfl rfl rfl ?_
                    refine PW.move rfl rfl rfl rfl rfl ?_
                    refine PW.move rfl rfl rfl rfl rfl ?_
                    refine PW.move rfl rfl rfl rfl rfl ?_
                    refine PW.q2 (x := .tmp 118) (y := .tmp 119) (.bool true) rfl rfl rfl rfl rfl (fun ρ W h1 h2 => by go_simp) ?_
                    refine PW.pick (t := true) rfl rfl rfl rfl rfl rfl ?_
                    refine PW.move rfl rfl rfl rfl rfl ?_
                    refine PW.load rfl rfl rfl rfl rfl rfl ?_
                    refine PW.load rfl rfl rfl rfl rfl rfl ?_
                    refine PW.call (r := .vl (.bool true)) rfl rfl rfl rfl rfl rfl (KV.st _) rfl (k_is ((bd.fld X (k := kn) (p := qn) (m := 10) (by omega))) (by first | decide | omega) rfl) ?_
                    refine PW.pick (t := true) rfl rfl rfl rfl rfl rfl ?_
                    refine PW.move rfl rfl rfl rfl rfl ?_
                    refine PW.move rfl rfl rfl rfl rfl ?_
                    refine PW.move rfl rfl rfl rfl rfl ?_
                    refine PW.q2 (x := .tmp 128) (y := .tmp 129) (.bool true) rfl rfl rfl rfl rfl (fun ρ W h1 h2 => by go_simp) ?_
                    refine PW.pick (t := true) rfl rfl rfl rfl rfl rfl ?_
                    refine PW.move rfl rfl rfl rfl rfl ?_
                    refine PW.load rfl rfl rfl rfl rfl rfl ?_
                    refine PW.load rfl rfl rfl rfl rfl rfl ?_
                    refine PW.call (r := .vl (.bool true)) rfl rfl rfl rfl rfl rfl (KV.st _) rfl (k_is ((bd.dep X Y (k := kn) (p := qn) (m := 10) (q := 10) (by omega) (by omega))) (by first | decide | omega) rfl) ?_
                    refine PW.pick (t := true) rfl rfl rfl rfl rfl rfl ?_
                    refine PW.move rfl rfl rfl rfl rfl ?_
                    refine PW.call (r := .vl (.bool true)) rfl rfl rfl rfl rfl rfl (KV.st _) rfl (k_awake) ?_
                    refine PW.pick (t := true) rfl rfl rfl rfl rfl rfl ?_
                    refine PW.assign rfl rfl rfl rfl rfl ?_
                    refine PW.nil ?_
                    refine SX.then ?_
                    refine SC.ret ?_
                    exact SX.done (r := .vl (.bool true)) rfl rfl rfl
                  · refine SC.region ?_
                    refine PW.load rfl rfl rfl rfl rfl rfl ?_
                    refine PW.move rfl rfl rfl rfl rfl ?_
                    refine PW.move rfl rfl rfl rfl rfl ?_
                    refine PW.call (r := .kw (K2 (KI (0)) (KV (.int .i64 1)))) rfl rfl rfl rfl rfl rfl (K2.st (KI.st _) (KV.st _)) rfl (k_field_bad kq) ?_
                    refine PW.move rfl rfl rfl rfl rfl ?_
                    refine PW.ext (r := .kw (KI (0))) rfl rfl rfl rfl rfl ex20 (KI.st _) rfl ?_
                    refine PW.ext (r := .vl (.int .i64 1)) rfl rfl rfl rfl rfl ex21v (KV.st _) rfl ?_
                    refine PW.alloc (BI 28) rfl rfl rfl rfl rfl bI ?_
                    refine PW.store (x := .tmp 84) (r := .kw (KI (0))) rfl rfl rfl rfl rfl rfl sh_I ?_
                    refine PW.assign rfl rfl rfl rfl rfl ?_
                    refine PW.nil ?_
                    refine SX.then ?_
                    refine SC.seq ?_
                    refine SC.region ?_
                    refine PW.load rfl rfl rfl rfl rfl rfl ?_
                    refine PW.move rfl rfl rfl rfl rfl ?_
                    refine PW.move rfl rfl rfl rfl rfl ?_
                    refine PW.call (r := .kw (K2 (KJ (0)) (KV (.int .i64 1)))) rfl rfl rfl rfl rfl rfl (K2.st (KJ.st _) (KV.st _)) rfl (k_jfield_bad (by omega)) ?_
                    refine PW.move rfl rfl rfl rfl rfl ?_
                    refine PW.ext (r := .kw (KJ (0))) rfl rfl rfl rfl rfl ex20 (KJ.st _) rfl ?_
                    refine PW.ext (r := .vl (.int .i64 1)) rfl rfl rfl rfl rfl ex21v (KV.st _) rfl ?_
                    refine PW.alloc (BI 31) rfl rfl rfl rfl rfl bJ ?_
                    refine PW.store (x := .tmp 91) (r := .kw (KJ (0))) rfl rfl rfl rfl rfl rfl sh_J ?_
                    refine PW.assign rfl rfl rfl rfl rfl ?_
                    refine PW.nil ?_
                    refine SX.then ?_
                    refine SC.seq ?_
                    refine SC.region ?_
                    refine PW.load rfl rfl rfl rfl rfl rfl ?_
                    refine PW.load rfl rfl rfl rfl rfl rfl ?_
                    refine PW.move rfl rfl rfl rfl rfl ?_
                    refine PW.move rfl rfl rfl rfl rfl ?_
                    refine PW.call (r := .kw (K2 (KI (0)) (KV (.int .i64 1)))) rfl rfl rfl rfl rfl rfl (K2.st (KI.st _) (KV.st _)) rfl (k_dep_bad kq) ?_
                    refine PW.move rfl rfl rfl rfl rfl ?_
                    refine PW.ext (r := .kw (KI (0))) rfl rfl rfl rfl rfl ex20 (KI.st _) rfl ?_
                    refine PW.ext (r := .vl (.int .i64 1)) rfl rfl rfl rfl rfl ex21v (KV.st _) rfl ?_
                    refine PW.alloc (BI 28) rfl rfl rfl rfl rfl bI ?_
                    refine PW.store (x := .tmp 99) (r := .kw (KI (0))) rfl rfl rfl rfl rfl rfl sh_I ?_
                    refine PW.assign rfl rfl rfl rfl rfl ?_
                    refine PW.nil ?_
                    refine SX.then ?_
                    refine SC.seq ?_
                    refine SC.region ?_
                    refine PW.load rfl rfl rfl rfl rfl rfl ?_
                    refine PW.load rfl rfl rfl rfl rfl rfl ?_
                    refine PW.move rfl rfl rfl rfl rfl ?_
                    refine PW.move rfl rfl rfl rfl rfl ?_
                    refine PW.call (r := .kw (K2 (KJ (0)) (KV (.int .i64 1)))) rfl rfl rfl rfl rfl rfl (K2.st (KJ.st _) (KV.st _)) rfl (k_jdep_bad (by omega)) ?_
                    refine PW.move rfl rfl rfl rfl rfl ?_
                    refine PW.ext (r := .kw (KJ (0))) rfl rfl rfl rfl rfl ex20 (KJ.st _) rfl ?_
                    refine PW.ext (r := .vl (.int .i64 1)) rfl rfl rfl rfl rfl ex21v (KV.st _) rfl ?_
                    refine PW.alloc (BI 31) rfl rfl rfl rfl rfl bJ ?_
                    refine PW.store (x := .tmp 107) (r := .kw (KJ (0))) rfl rfl rfl rfl rfl rfl sh_J ?_
                    refine PW.assign rfl rfl rfl rfl rfl ?_
                    refine PW.nil ?_
                    refine SX.then ?_
                    refine SC.seq ?_
                    refine SC.region ?_
                    refine PW.move rfl rfl rfl rfl rfl ?_
                    refine PW.move rfl rfl rfl rfl rfl ?_
                    refine PW.q2 (x := .tmp 109) (y := .tmp 110) (.bool true) rfl rfl rfl rfl rfl (fun ρ W h1 h2 => by go_simp) ?_
                    refine PW.move rfl rfl rfl rfl rfl ?_
                    refine PW.load rfl rfl rfl rfl rfl rfl ?_
                    refine PW.load rfl rfl rfl rfl rfl rfl ?_
                    refine PW.call (r := .vl (.bool true)) rfl rfl rfl rfl rfl rfl (KV.st _) rfl (k_is ((bd_sh0 x0)) (by first | decide | omega) rfl) ?_
                    refine PW.pick (t := true) rfl rfl rfl rfl rfl rfl ?_
                    refine PW.move rfl rfl rfl rfl rfl ?_
                    refine PW.move rfl rfl rfl rfl rfl ?_
                    refine PW.move rfl rfl rfl rfl rfl ?_
                    refine PW.q2 (x := .tmp 118) (y := .tmp 119) (.bool true) rfl rfl rfl rfl rfl (fun ρ W h1 h2 => by go_simp) ?_
                    refine PW.pick (t := true) rfl rfl rfl rfl rfl rfl ?_
                    refine PW.move rfl rfl rfl rfl rfl ?_
                    refine PW.load rfl rfl rfl rfl rfl rfl ?_
                    refine PW.load rfl rfl rfl rfl rfl rfl ?_
                    refine PW.call (r := .vl (.bool true)) rfl rfl rfl rfl rfl rfl (KV.st _) rfl (k_is (bd.zero (a := 1)) (by first | decide | omega) rfl) ?_
                    refine PW.pick (t := true) rfl rfl rfl rfl rfl rfl ?_
                    refine PW.move rfl rfl rfl rfl rfl ?_
                    refine PW.move rfl rfl rfl rfl rfl ?_
                    refine PW.move rfl rfl rfl rfl rfl ?_
                    refine PW.q2 (x := .tmp 128) (y := .tmp 129) (.bool true) rfl rfl rfl rfl rfl (fun ρ W h1 h2 => by go_simp) ?_
                    refine PW.pick (t := true) rfl rfl rfl rfl rfl rfl ?_
                    refine PW.move rfl rfl rfl rfl rfl ?_
                    refine PW.load rfl rfl rfl rfl rfl rfl ?_
                    refine PW.load rfl rfl rfl rfl rfl rfl ?_
                    refine PW.call (r := .vl (.bool true)) rfl rfl rfl rfl rfl rfl (KV.st _) rfl (k_is (bd.zero (a := 1)) (by first | decide | omega) rfl) ?_
                    refine PW.pick (t := true) rfl rfl rfl rfl rfl rfl ?_
                    refine PW.move rfl rfl rfl rfl rfl ?_
                    refine PW.call (r := .vl (.bool true)) rfl rfl rfl rfl rfl rfl (KV.st _) rfl (k_awake) ?_
                    refine PW.pick (t := true) rfl rfl rfl rfl rfl rfl ?_
                    refine PW.assign rfl rfl rfl rfl rfl ?_
                    refine PW.nil ?_
                    refine SX.then ?_
                    refine SC.ret ?_
                    exact SX.done (r := .vl (.bool true)) rfl rfl rfl
                · refine SC.region ?_
                  refine PW.load rfl rfl rfl rfl rfl rfl ?_
                  refine PW.move rfl rfl rfl rfl rfl ?_
                  refine PW.call (r := .kw (K2 (KI (0)) (KV (.int .i64 14)))) rfl rfl rfl rfl rfl rfl (K2.st (KI.st _) (KV.st _)) rfl (k_Shift_1 X (by decide) hnr.1 hnr.2 (not_shOk x0 (by omega))) ?_
                  refine PW.move rfl rfl rfl rfl rfl ?_
                  refine PW.ext (r := .kw (KI (0))) rfl rfl rfl rfl rfl ex20 (KI.st _) rfl ?_
                  refine PW.ext (r := .vl (.int .i64 14)) rfl rfl rfl rfl rfl ex21v (KV.st _) rfl ?_
                  refine PW.alloc (BI 28) rfl rfl rfl rfl rfl bI ?_
                  refine PW.store (x := .tmp 71) (r := .kw (KI (0))) rfl rfl rfl rfl rfl rfl sh_I ?_
                  refine PW.assign rfl rfl rfl rfl rfl ?_
                  refine PW.nil ?_
                  refine SX.then ?_
                  refine SC.seq ?_
                  refine SC.region ?_
                  refine PW.load rfl rfl rfl rfl rfl rfl ?_
                  refine PW.move rfl rfl rfl rfl rfl ?_
                  refine PW.call (r := .kw (K2 (KJ (0)) (KV (.int .i64 14)))) rfl rfl rfl rfl rfl rfl (K2.st (KJ.st _) (KV.st _)) rfl (k_jshift_1 X (by decide) hnr.2 (not_shOk x0 (by omega))) ?_
                  refine PW.move rfl rfl rfl rfl rfl ?_
                  refine PW.ext (r := .kw (KJ (0))) rfl rfl rfl rfl rfl ex20 (KJ.st _) rfl ?_
                  refine PW.ext (r := .vl (.int .i64 14)) rfl rfl rfl rfl rfl ex21v (KV.st _) rfl ?_
                  refine PW.alloc (BI 31) rfl rfl rfl rfl rfl bJ ?_
                  refine PW.store (x := .tmp 77) (r := .kw (KJ (0))) rfl rfl rfl rfl rfl rfl sh_J ?_
                  refine PW.assign rfl rfl rfl rfl rfl ?_
                  refine PW.nil ?_
                  refine SX.then ?_
                  refine SC.seq ?_
                  by_cases kq : 0 ≤ k ∧ k ≤ 65536 ∧ 0 ≤ q ∧ q ≤ 65536
                  · obtain ⟨kn, rfl⟩ : ∃ m : Nat, k = m := ⟨k.toNat, by omega⟩
                    obtain ⟨qn, rfl⟩ : ∃ m : Nat, q = m := ⟨q.toNat, by omega⟩
                    refine SC.region ?_
                    refine PW.load rfl rfl rfl rfl rfl rfl ?_
                    refine PW.move rfl rfl rfl rfl rfl ?_
                    refine PW.move rfl rfl rfl rfl rfl ?_
                    refine PW.call (r := .kw (K2 (KI (fld x kn qn)) (KV (.int .i64 0)))) rfl rfl rfl rfl rfl rfl (K2.st (KI.st _) (KV.st _)) rfl (k_field X (by decide) (by omega) (by omega)) ?_
                    refine PW.move rfl rfl rfl rfl rfl ?_
                    refine PW.ext (r := .kw (KI (fld x kn qn))) rfl rfl rfl rfl rfl ex20 (KI.st _) rfl ?_
                    refine PW.ext (r := .vl (.int .i64 0)) rfl rfl rfl rfl rfl ex21v (KV.st _) rfl ?_
                    refine PW.alloc (BI 28) rfl rfl rfl rfl rfl bI ?_
                    refine PW.store (x := .tmp 84) (r := .kw (KI (fld x kn qn))) rfl rfl rfl rfl rfl rfl sh_I ?_
                    refine PW.assign rfl rfl rfl rfl rfl ?_
                    refine PW.nil ?_
                    refine SX.then ?_
                    refine SC.seq ?_
                    refine SC.region ?_
                    refine PW.load rfl rfl rfl rfl rfl rfl ?_
                    refine PW.move rfl rfl rfl rfl rfl ?_
                    refine PW.move rfl rfl rfl rfl rfl ?_
                    refine PW.call (r := .kw (K2 (KJ (fld x kn qn)) (KV (.int .i64 0)))) rfl rfl rfl rfl rfl rfl (K2.st (KJ.st _) (KV.st _)) rfl (k_jfield X (by decide) (by omega) (by omega)) ?_
                    refine PW.move rfl rfl rfl rfl rfl ?_
                    refine PW.ext (r := .kw (KJ (fld x kn qn))) rfl rfl rfl rfl rfl ex20 (KJ.st _) rfl ?_
                    refine PW.ext (r := .vl (.int .i64 0)) rfl rfl rfl rfl rfl ex21v (KV.st _) rfl ?_
                    refine PW.alloc (BI 31) rfl rfl rfl rfl rfl bJ ?_
                    refine PW.store (x := .tmp 91) (r := .kw (KJ (fld x kn qn))) rfl rfl rfl rfl rfl rfl sh_J ?_
                    refine PW.assign rfl rfl rfl rfl rfl ?_
                    refine PW.nil ?_
                    refine SX.then ?_
                    refine SC.seq ?_
                    refine SC.region ?_
                    refine PW.load rfl rfl rfl rfl rfl rfl ?_
                    refine PW.load rfl rfl rfl rfl rfl rfl ?_
                    refine PW.move rfl rfl rfl rfl rfl ?_
                    refine PW.move rfl rfl rfl rfl rfl ?_
                    refine PW.call (r := .kw (K2 (KI (dep x y kn qn)) (KV (.int .i64 0)))) rfl rfl rfl rfl rfl rfl (K2.st (KI.st _) (KV.st _)) rfl (k_dep X Y (by decide) (by decide) (by omega) (by omega)) ?_
                    refine PW.move rfl rfl rfl rfl rfl ?_
                    refine PW.ext (r := .kw (KI (dep x y kn qn))) rfl rfl rfl rfl rfl ex20 (KI.st _) rfl ?_
                    refine PW.ext (r := .vl (.int .i64 0)) rfl rfl rfl rfl rfl ex21v (KV.st _) rfl ?_
                    refine PW.alloc (BI 28) rfl rfl rfl rfl rfl bI ?_
                    refine PW.store (x := .tmp 99) (r := .kw (KI (dep x y kn qn))) rfl rfl rfl rfl rfl rfl sh_I ?_
                    refine PW.assign rfl rfl rfl rfl rfl ?_
                    refine PW.nil ?_
                    refine SX.then ?_
                    refine SC.seq ?_
                    refine SC.region ?_
                    refine PW.load rfl rfl rfl rfl rfl rfl ?_
                    refine PW.load rfl rfl rfl rfl rfl rfl ?_
                    refine PW.move rfl rfl rfl rfl rfl ?_
                    refine PW.move rfl rfl rfl rfl rfl ?_
                    refine PW.call (r := .kw (K2 (KJ (dep x y kn qn)) (KV (.int .i64 0)))) rfl rfl rfl rfl rfl rfl (K2.st (KJ.st _) (KV.st _)) rfl (k_jdep X Y (by decide) (by decide) (by omega) (by omega)) ?_
                    refine PW.move rfl rfl rfl rfl rfl ?_
                    refine PW.ext (r := .kw (KJ (dep x y kn qn))) rfl rfl rfl rfl rfl ex20 (KJ.st _) rfl ?_
                    refine PW.ext (r := .vl (.int .i64 0)) rfl rfl rfl rfl rfl ex21v (KV.st _) rfl ?_
                    refine PW.alloc (BI 31) rfl rfl rfl rfl rfl bJ ?_
                    refine PW.store (x := .tmp 107) (r := .kw (KJ (dep x y kn qn))) rfl rfl rfl rfl rfl rfl sh_J ?_
                    refine PW.assign rfl rfl rfl rfl rfl ?_
                    refine PW.nil ?_
                    refine SX.then ?_
                    refine SC.seq ?_
                    refine SC.region ?_
                    refine PW.move rfl rfl rfl rfl rfl ?_
                    refine PW.move rfl rfl rfl rfl rfl ?_
                    refine PW.q2 (x := .tmp 109) (y := .tmp 110) (.bool true) rfl rfl rfl rfl rfl (fun ρ W h1 h2 => by go_simp) ?_
                    refine PW.move rfl rfl rfl rfl rfl ?_
                    refine PW.load rfl rfl rfl rfl rfl rfl ?_
                    refine PW.load rfl rfl rfl rfl rfl rfl ?_
                    refine PW.call (r := .vl (.bool true)) rfl rfl rfl rfl rfl rfl (KV.st _) rfl (k_is (bd.zero (a := 1)) (by first | decide | omega) rfl) ?_
                    refine PW.pick (t := true) rfl rfl rfl rfl rfl rfl ?_
                    refine PW.move rfl rfl rfl rfl rfl ?_
                    refine PW.move rfl rfl rfl rfl rfl ?_
                    refine PW.move rfl rfl rfl rfl rfl ?_
                    refine PW.q2 (x := .tmp 118) (y := .tmp 119) (.bool true) rfl rfl rfl rfl rfl (fun ρ W h1 h2 => by go_simp) ?_
                    refine PW.pick (t := true) rfl rfl rfl rfl rfl rfl ?_
                    refine PW.move rfl rfl rfl rfl rfl ?_
                    refine PW.load rfl rfl rfl rfl rfl rfl ?_
                    refine PW.load rfl rfl rfl rfl rfl rfl ?_
                    refine PW.call (r := .vl (.bool true)) rfl rfl rfl rfl rfl rfl (KV.st _) rfl (k_is ((bd.fld X (k := kn) (p := qn) (m := 10) (by omega))) (by first | decide | omega) rfl) ?_
                    refine PW.pick (t := true) rfl rfl rfl rfl rfl rfl ?_
                    refine PW.move rfl rfl rfl rfl rfl ?_
                    refine PW.move rfl rfl rfl rfl rfl ?_
                    refine PW.move rfl rfl rfl rfl rfl ?_
                    refine PW.q2 (x := .tmp 128) (y := .tmp 129) (.bool true) rfl rfl rfl rfl rfl (fun ρ W h1 h2 => by go_simp) ?_
                    refine PW.pick (t := true) rfl rfl rfl rfl rfl rfl ?_
                    refine PW.move rfl rfl rfl rfl rfl ?_
                    refine PW.load rfl rfl rfl rfl rfl rfl ?_
                    refine PW.load rfl rfl rfl rfl rfl rfl ?_
                    refine PW.call (r := .vl (.bool true)) rfl rfl rfl rfl rfl rfl (KV.st _) rfl (k_is ((bd.dep X Y (k := kn) (p := qn) (m := 10) (q := 10) (by omega) (by omega))) (by first | decide | omega) rfl) ?_
                    refine PW.pick (t := true) rfl rfl rfl rfl rfl rfl ?_
                    refine PW.move rfl rfl rfl rfl rfl ?_
                    refine PW.call (r := .vl (.bool true)) rfl rfl rfl rfl rfl rfl (KV.st _) rfl (k_awake) ?_
                    refine PW.pick (t := true) rfl rfl rfl rfl rfl rfl ?_
                    refine PW.assign rfl rfl rfl rfl rfl ?_
                    refine PW.nil ?_
                    refine SX.then ?_
                    refine SC.ret ?_
                    exact SX.done (r := .vl (.bool true)) rfl rfl rfl
                  · refine SC.region ?_
                    refine PW.load rfl rfl rfl rfl rfl rfl ?_
                    refine PW.move rfl rfl rfl rfl rfl ?_
                    refine PW.move rfl rfl rfl rfl rfl ?_
                    refine PW.call (r := .kw (K2 (KI (0)) (KV (.int .i64 1)))) rfl rfl rfl rfl rfl rfl (K2.st (KI.st _) (KV.st _)) rfl (k_field_bad kq) ?_
                    refine PW.move rfl rfl rfl rfl rfl ?_
                    refine PW.ext (r := .kw (KI (0))) rfl rfl rfl rfl rfl ex20 (KI.st _) rfl ?_
                    refine PW.ext (r := .vl (.int .i64 1)) rfl rfl rfl rfl rfl ex21v (KV.st _) rfl ?_
                    refine PW.alloc (BI 28) rfl rfl rfl rfl rfl bI ?_
                    refine PW.store (x := .tmp 84) (r := .kw (KI (0))) rfl rfl rfl rfl rfl rfl sh_I ?_
                    refine PW.assign rfl rfl rfl rfl rfl ?_
                    refine PW.nil ?_
                    refine SX.then ?_
                    refine SC.seq ?_
                    refine SC.region ?_
                    refine PW.load rfl rfl rfl rfl rfl rfl ?_
                    refine PW.move rfl rfl rfl rfl rfl ?_
                    refine PW.move rfl rfl rfl rfl rfl ?_
                    refine PW.call (r := .kw (K2 (KJ (0)) (KV (.int .i64 1)))) rfl rfl rfl rfl rfl rfl (K2.st (KJ.st _) (KV.st _)) rfl (k_jfield_bad (by omega)) ?_
                    refine PW.move rfl rfl rfl rfl rfl ?_
                    refine PW.ext (r := .kw (KJ (0))) rfl rfl rfl rfl rfl ex20 (KJ.st _) rfl ?_
                    refine PW.ext (r := .vl (.int .i64 1)) rfl rfl rfl rfl rfl ex21v (KV.st _) rfl ?_
                    refine PW.alloc (BI 31) rfl rfl rfl rfl rfl bJ ?_
                    refine PW.store (x := .tmp 91) (r := .kw (KJ (0))) rfl rfl rfl rfl rfl rfl sh_J ?_
                    refine PW.assign rfl rfl rfl rfl rfl ?_
                    refine PW.nil ?_
                    refine SX.then ?_
                    refine SC.seq ?_
                    refine SC.region ?_
                    refine PW.load rfl rfl rfl rfl rfl rfl ?_
                    refine PW.load rfl rfl rfl rfl rfl rfl ?_
                    refine PW.move rfl rfl rfl rfl rfl ?_
                    refine PW.move rfl rfl rfl rfl rfl ?_
                    refine PW.call (r := .kw (K2 (KI (0)) (KV (.int .i64 1)))) rfl rfl rfl rfl rfl rfl (K2.st (KI.st _) (KV.st _)) rfl (k_dep_bad kq) ?_
                    refine PW.move rfl rfl rfl rfl rfl ?_
                    refine PW.ext (r := .kw (KI (0))) rfl rfl rfl rfl rfl ex20 (KI.st _) rfl ?_
                    refine PW.ext (r := .vl (.int .i64 1)) rfl rfl rfl rfl rfl ex21v (KV.st _) rfl ?_
                    refine PW.alloc (BI 28) rfl rfl rfl rfl rfl bI ?_
                    refine PW.store (x := .tmp 99) (r := .kw (KI (0))) rfl rfl rfl rfl rfl rfl sh_I ?_
                    refine PW.assign rfl rfl rfl rfl rfl ?_
                    refine PW.nil ?_
                    refine SX.then ?_
                    refine SC.seq ?_
                    refine SC.region ?_
                    refine PW.load rfl rfl rfl rfl rfl rfl ?_
                    refine PW.load rfl rfl rfl rfl rfl rfl ?_
                    refine PW.move rfl rfl rfl rfl rfl ?_
                    refine PW.move rfl rfl rfl rfl rfl ?_
                    refine PW.call (r := .kw (K2 (KJ (0)) (KV (.int .i64 1)))) rfl rfl rfl rfl rfl rfl (K2.st (KJ.st _) (KV.st _)) rfl (k_jdep_bad (by omega)) ?_
                    refine PW.move rfl rfl rfl rfl rfl ?_
                    refine PW.ext (r := .kw (KJ (0))) rfl rfl rfl rfl rfl ex20 (KJ.st _) rfl ?_
                    refine PW.ext (r := .vl (.int .i64 1)) rfl rfl rfl rfl rfl ex21v (KV.st _) rfl ?_
                    refine PW.alloc (BI 31) rfl rfl rfl rfl rfl bJ ?_
                    refine PW.store (x := .tmp 107) (r := .kw (KJ (0))) rfl rfl rfl rfl rfl rfl sh_J ?_
                    refine PW.assign rfl rfl rfl rfl rfl ?_
                    refine PW.nil ?_
                    refine SX.then ?_
                    refine SC.seq ?_
                    refine SC.region ?_
                    refine PW.move rfl rfl rfl rfl rfl ?_
                    refine PW.move rfl rfl rfl rfl rfl ?_
                    refine PW.q2 (x := .tmp 109) (y := .tmp 110) (.bool true) rfl rfl rfl rfl rfl (fun ρ W h1 h2 => by go_simp) ?_
                    refine PW.move rfl rfl rfl rfl rfl ?_
                    refine PW.load rfl rfl rfl rfl rfl rfl ?_
                    refine PW.load rfl rfl rfl rfl rfl rfl ?_
                    refine PW.call (r := .vl (.bool true)) rfl rfl rfl rfl rfl rfl (KV.st _) rfl (k_is (bd.zero (a := 1)) (by first | decide | omega) rfl) ?_
                    refine PW.pick (t := true) rfl rfl rfl rfl rfl rfl ?_
                    refine PW.move rfl rfl rfl rfl rfl ?_
                    refine PW.move rfl rfl rfl rfl rfl ?_
                    refine PW.move rfl rfl rfl rfl rfl ?_
                    refine PW.q2 (x := .tmp 118) (y := .tmp 119) (.bool true) rfl rfl rfl rfl rfl (fun ρ W h1 h2 => by go_simp) ?_
                    refine PW.pick (t := true) rfl rfl rfl rfl rfl rfl ?_
                    refine PW.move rfl rfl rfl rfl rfl ?_
                    refine PW.load rfl rfl rfl rfl rfl rfl ?_
                    refine PW.load rfl rfl rfl rfl rfl rfl ?_
                    refine PW.call (r := .vl (.bool true)) rfl rfl rfl rfl rfl rfl (KV.st _) rfl (k_is (bd.zero (a := 1)) (by first | decide | omega) rfl) ?_
                    refine PW.pick (t := true) rfl rfl rfl rfl rfl rfl ?_
                    refine PW.move rfl rfl rfl rfl rfl ?_
                    refine PW.move rfl rfl rfl rfl rfl ?_
                    refine PW.move rfl rfl rfl rfl rfl ?_
                    refine PW.q2 (x := .tmp 128) (y := .tmp 129) (.bool true) rfl rfl rfl rfl rfl (fun ρ W h1 h2 => by go_simp) ?_
                    refine PW.pick (t := true) rfl rfl rfl rfl rfl rfl ?_
                    refine PW.move rfl rfl rfl rfl rfl ?_
                    refine PW.load rfl rfl rfl rfl rfl rfl ?_
                    refine PW.load rfl rfl rfl rfl rfl rfl ?_
                    refine PW.call (r := .vl (.bool true)) rfl rfl rfl rfl rfl rfl (KV.st _) rfl (k_is (bd.zero (a := 1)) (by first | decide | omega) rfl) ?_
                    refine PW.pick (t := true) rfl rfl rfl rfl rfl rfl ?_
                    refine PW.move rfl rfl rfl rfl rfl ?_
                    refine PW.call (r := .vl (.bool true)) rfl rfl rfl rfl rfl rfl (KV.st _) rfl (k_awake) ?_
                    refine PW.pick (t := true) rfl rfl rfl rfl rfl rfl ?_
                    refine PW.assign rfl rfl rfl rfl rfl ?_
                    refine PW.nil ?_
                    refine SX.then ?_
                    refine SC.ret ?_
                    exact SX.done (r := .vl (.bool true)) rfl rfl rfl
            · refine SC.region ?_
              refine PW.loadV rfl rfl rfl rfl rfl rfl ?_
              refine PW.loadV rfl rfl rfl rfl rfl rfl ?_
              refine PW.short 8 [(n1, A1, l1, c1), (n2, A2, l2, c2)] _ rfl rfl rfl (fun a W hf => r_bN2 (hf.vl (s := 27) rfl) (hf.vl (s := 28) rfl)) (fun W => ns_lit2 W) (by simp; exact ⟨In.lim h1, In.lim h2⟩) rfl rfl hs rfl rfl rfl rfl rfl rfl ?_
              refine PW.q1 (x := .tmp 30) (.bool false) rfl rfl rfl rfl (fun ρ W h1 => by go_simp) ?_
              refine PW.move rfl rfl rfl rfl rfl ?_
              refine PW.move rfl rfl rfl rfl rfl ?_
              refine PW.q2 (x := .tmp 33) (y := .const (.int .i64 300)) (.bool true) rfl rfl rfl rfl rfl (fun ρ W h1 h2 => by exact r_gt h1 h2 (decide_eq_true n3)) ?_
              refine PW.move rfl rfl rfl rfl rfl ?_
              refine PW.move rfl rfl rfl rfl rfl ?_
              refine PW.q2 (x := .tmp 36) (y := .const (.int .i64 65536)) (.bool false) rfl rfl rfl rfl rfl (fun ρ W h1 h2 => by exact r_le h1 h2 (decide_eq_false n6)) ?_
              refine PW.pick (t := true) rfl rfl rfl rfl rfl rfl ?_
              refine PW.pick (t := false) rfl rfl rfl rfl rfl rfl ?_
              refine PW.move rfl rfl rfl rfl rfl ?_
              refine PW.move rfl rfl rfl rfl rfl ?_
              refine PW.q2 (x := .tmp 41) (y := .const (.int .i64 300)) (.bool true) rfl rfl rfl rfl rfl (fun ρ W h1 h2 => by exact r_gt h1 h2 (decide_eq_true k3)) ?_
              refine PW.move rfl rfl rfl rfl rfl ?_
              refine PW.move rfl rfl rfl rfl rfl ?_
              refine PW.q2 (x := .tmp 44) (y := .const (.int .i64 65536)) (.bool false) rfl rfl rfl rfl rfl (fun ρ W h1 h2 => by exact r_le h1 h2 (decide_eq_false k6)) ?_
              refine PW.pick (t := true) rfl rfl rfl rfl rfl rfl ?_
              refine PW.pick (t := false) rfl rfl rfl rfl rfl rfl ?_
              refine PW.move rfl rfl rfl rfl rfl ?_
              refine PW.move rfl rfl rfl rfl rfl ?_
              refine PW.q2 (x := .tmp 49) (y := .const (.int .i64 300)) (.bool false) rfl rfl rfl rfl rfl (fun ρ W h1 h2 => by exact r_gt h1 h2 (decide_eq_false q3)) ?_
              refine PW.move rfl rfl rfl rfl rfl ?_
              refine PW.skip rfl rfl rfl ?_
              refine PW.skip rfl rfl rfl ?_
              refine PW.pick (t := false) rfl rfl rfl rfl rfl rfl ?_
              refine PW.pick (t := false) rfl rfl rfl rfl rfl rfl ?_
              refine PW.nil ?_
              refine SX.then ?_
              refine SC.cond (t := false) rfl ?_
              refine SC.skip ?_
              refine SX.then ?_
              refine SC.seq ?_
              refine SC.region ?_
              refine PW.loadV rfl rfl rfl rfl rfl rfl ?_
              refine PW.callG (r := .kw (K2 (KI (x)) (KJ (x)))) ce_of rfl rfl rfl rfl rfl (K2.st (KI.st _) (KJ.st _)) rfl (fun a W hf => by have e1 := hf.vl (s := 58) rfl; show Calls Try.prog _ #[a.tmps.getD 58 undef] W _; rw [e1]; exact of_in h1 hf.be (by omega) hz1) ?_
              refine PW.move rfl rfl rfl rfl rfl ?_
              refine PW.ext (r := .kw (KI (x))) rfl rfl rfl rfl rfl ex20 (KI.st _) rfl ?_
              refine PW.ext (r := .kw (KJ (x))) rfl rfl rfl rfl rfl ex21 (KJ.st _) rfl ?_
              refine PW.alloc (BI 28) rfl rfl rfl rfl rfl bI ?_
              refine PW.alloc (BI 31) rfl rfl rfl rfl rfl bJ ?_
              refine PW.store (x := .tmp 60) (r := .kw (KI (x))) rfl rfl rfl rfl rfl rfl sh_I ?_
              refine PW.store (x := .tmp 61) (r := .kw (KJ (x))) rfl rfl rfl rfl rfl rfl sh_J ?_
              refine PW.nil ?_
              refine SX.then ?_
              refine SC.seq ?_
              refine SC.region ?_
              refine PW.loadV rfl rfl rfl rfl rfl rfl ?_
              refine PW.callG (r := .kw (K2 (KI (y)) (KJ (y)))) ce_of rfl rfl rfl rfl rfl (K2.st (KI.st _) (KJ.st _)) rfl (fun a W hf => by have e1 := hf.vl (s := 63) rfl; show Calls Try.prog _ #[a.tmps.getD 63 undef] W _; rw [e1]; exact of_in h2 hf.be (by omega) hz2) ?_
              refine PW.move rfl rfl rfl rfl rfl ?_
              refine PW.ext (r := .kw (KI (y))) rfl rfl rfl rfl rfl ex20 (KI.st _) rfl ?_
              refine PW.ext (r := .kw (KJ (y))) rfl rfl rfl rfl rfl ex21 (KJ.st _) rfl ?_
              refine PW.alloc (BI 28) rfl rfl rfl rfl rfl bI ?_
              refine PW.alloc (BI 31) rfl rfl rfl rfl rfl bJ ?_
              refine PW.store (x := .tmp 65) (r := .kw (KI (y))) rfl rfl rfl rfl rfl rfl sh_I ?_
              refine PW.store (x := .tmp 66) (r := .kw (KJ (y))) rfl rfl rfl rfl rfl rfl sh_J ?_
              refine PW.nil ?_
              refine SX.then ?_
              refine SC.seq ?_
              by_cases x0 : x = 0
              · refine SC.region ?_
                refine PW.load rfl rfl rfl rfl rfl rfl ?_
                refine PW.move rfl rfl rfl rfl rfl ?_
                refine PW.call (r := .kw (K2 (KI (sh x n)) (KV (.int .i64 0)))) rfl rfl rfl rfl rfl rfl (K2.st (KI.st _) (KV.st _)) rfl (k_Shift X (by decide) hnr.1 hnr.2 (.inr (.inl x0))) ?_
                refine PW.move rfl rfl rfl rfl rfl ?_
                refine PW.ext (r := .kw (KI (sh x n))) rfl rfl rfl rfl rfl ex20 (KI.st _) rfl ?_
                refine PW.ext (r := .vl (.int .i64 0)) rfl rfl rfl rfl rfl ex21v (KV.st _) rfl ?_
                refine PW.alloc (BI 28) rfl rfl rfl rfl rfl bI ?_
                refine PW.store (x := .tmp 71) (r := .kw (KI (sh x n))) rfl rfl rfl rfl rfl rfl sh_I ?_
                refine PW.assign rfl rfl rfl rfl rfl ?_
                refine PW.nil ?_
                refine SX.then ?_
                refine SC.seq ?_
                refine SC.region ?_
                refine PW.load rfl rfl rfl rfl rfl rfl ?_
                refine PW.move rfl rfl rfl rfl rfl ?_
                refine PW.call (r := .kw (K2 (KJ (sh x n)) (KV (.int .i64 0)))) rfl rfl rfl rfl rfl rfl (K2.st (KJ.st _) (KV.st _)) rfl (k_jshift X (by decide) hnr.1 hnr.2 (.inr (.inl x0))) ?_
                refine PW.move rfl rfl rfl rfl rfl ?_
                refine PW.ext (r := .kw (KJ (sh x n))) rfl rfl rfl rfl rfl ex20 (KJ.st _) rfl ?_
                refine PW.ext (r := .vl (.int .i64 0)) rfl rfl rfl rfl rfl ex21v (KV.st _) rfl ?_
                refine PW.alloc (BI 31) rfl rfl rfl rfl rfl bJ ?_
                refine PW.store (x := .tmp 77) (r := .kw (KJ (sh x n))) rfl rfl rfl rfl rfl rfl sh_J ?_
                refine PW.assign rfl rfl rfl rfl rfl ?_
                refine PW.nil ?_
                refine SX.then ?_
                refine SC.seq ?_
                by_cases kq : 0 ≤ k ∧ k ≤ 65536 ∧ 0 ≤ q ∧ q ≤ 65536
                · obtain ⟨kn, rfl⟩ : ∃ m : Nat, k = m := ⟨k.toNat, by omega⟩
                  obtain ⟨qn, rfl⟩ : ∃ m : Nat, q = m := ⟨q.toNat, by omega⟩
                  refine SC.region ?_
                  refine PW.load rfl rfl rfl rfl rfl rfl ?_
                  refine PW.move rfl rfl rfl rfl rfl ?_
                  refine PW.move rfl rfl rfl rfl rfl ?_
                  refine PW.call (r := .kw (K2 (KI (fld x kn qn)) (KV (.int .i64 0)))) rfl rfl rfl rfl rfl rfl (K2.st (KI.st _) (KV.st _)) rfl (k_field X (by decide) (by omega) (by omega)) ?_
                  refine PW.move rfl rfl rfl rfl rfl ?_
                  refine PW.ext (r := .kw (KI (fld x kn qn))) rfl rfl rfl rfl rfl ex20 (KI.st _) rfl ?_
                  refine PW.ext (r := .vl (.int .i64 0)) rfl rfl rfl rfl rfl ex21v (KV.st _) rfl ?_
                  refine PW.alloc (BI 28) rfl rfl rfl rfl rfl bI ?_
                  refine PW.store (x := .tmp 84) (r := .kw (KI (fld x kn qn))) rfl rfl rfl rfl rfl rfl sh_I ?_
                  refine PW.assign rfl rfl rfl rfl rfl ?_
                  refine PW.nil ?_
                  refine SX.then ?_
                  refine SC.seq ?_
                  refine SC.region ?_
                  refine PW.load rfl rfl rfl rfl rfl rfl ?_
                  refine PW.move rfl rfl rfl rfl rfl ?_
                  refine PW.move rfl rfl rfl rfl rfl ?_
                  refine PW.call (r := .kw (K2 (KJ (fld x kn qn)) (KV (.int .i64 0)))) rfl rfl rfl rfl rfl rfl (K2.st (KJ.st _) (KV.st _)) rfl (k_jfield X (by decide) (by omega) (by omega)) ?_
                  refine PW.move rfl rfl rfl rfl rfl ?_
                  refine PW.ext (r := .kw (KJ (fld x kn qn))) rfl rfl rfl rfl rfl ex20 (KJ.st _) rfl ?_
                  refine PW.ext (r := .vl (.int .i64 0)) rfl rfl rfl rfl rfl ex21v (KV.st _) rfl ?_
                  refine PW.alloc (BI 31) rfl rfl rfl rfl rfl bJ ?_
                  refine PW.store (x := .tmp 91) (r := .kw (KJ (fld x kn qn))) rfl rfl rfl rfl rfl rfl sh_J ?_
                  refine PW.assign rfl rfl rfl rfl rfl ?_
                  refine PW.nil ?_
                  refine SX.then ?_
                  refine SC.seq ?_
                  refine SC.region ?_
                  refine PW.load rfl rfl rfl rfl rfl rfl ?_
                  refine PW.load rfl rfl rfl rfl rfl rfl ?_
                  refine PW.move rfl rfl rfl rfl rfl ?_
                  refine PW.move rfl rfl rfl rfl rfl ?_
                  refine PW.call (r := .kw (K2 (KI (dep x y kn qn)) (KV (.int .i64 0)))) rfl rfl rfl rfl rfl rfl (K2.st (KI.st _) (KV.st _)) rfl (k_dep X Y (by decide) (by decide) (by omega) (by omega)) ?_
                  refine PW.move rfl rfl rfl rfl rfl ?_
                  refine PW.ext (r := .kw (KI (dep x y kn qn))) rfl rfl rfl rfl rfl ex20 (KI.st _) rfl ?_
                  refine PW.ext (r := .vl (.int .i64 0)) rfl rfl rfl rfl rfl ex21v (KV.st _) rfl ?_
                  refine PW.alloc (BI 28) rfl rfl rfl rfl rfl bI ?_
                  refine PW.store (x := .tmp 99) (r := .kw (KI (dep x y kn qn))) rfl rfl rfl rfl rfl rfl sh_I ?_
                  refine PW.assign rfl rfl rfl rfl rfl ?_
                  refine PW.nil ?_
                  refine SX.then ?_
                  refine SC.seq ?_
                  refine SC.region ?_
                  refine PW.load rfl rfl rfl rfl rfl rfl ?_
                  refine PW.load rfl rfl rfl rfl rfl rfl ?_
                  refine PW.move rfl rfl rfl rfl rfl ?_
                  refine PW.move rfl rfl rfl rfl rfl ?_
                  refine PW.call (r := .kw (K2 (KJ (dep x y kn qn)) (KV (.int .i64 0)))) rfl rfl rfl rfl rfl rfl (K2.st (KJ.st _) (KV.st _)) rfl (k_jdep X Y (by decide) (by decide) (by omega) (by omega)) ?_
                  refine PW.move rfl rfl rfl rfl rfl ?_
                  refine PW.ext (r := .kw (KJ (dep x y kn qn))) rfl rfl rfl rfl rfl ex20 (KJ.st _) rfl ?_
                  refine PW.ext (r := .vl (.int .i64 0)) rfl rfl rfl rfl rfl ex21v (KV.st _) rfl ?_
                  refine PW.alloc (BI 31) rfl rfl rfl rfl rfl bJ ?_
                  refine PW.store (x := .tmp 107) (r := .kw (KJ (dep x y kn qn))) rfl rfl rfl rfl rfl rfl sh_J ?_
                  refine PW.assign rfl rfl rfl rfl rfl ?_
                  refine PW.nil ?_
                  refine SX.then ?_
                  refine SC.seq ?_
                  refine SC.region ?_
                  refine PW.move rfl rfl rfl rfl rfl ?_
                  refine PW.move rfl rfl rfl rfl rfl ?_
                  refine PW.q2 (x := .tmp 109) (y := .tmp 110) (.bool true) rfl rfl rfl rfl rfl (fun ρ W h1 h2 => by go_simp) ?_
                  refine PW.move rfl rfl rfl rfl rfl ?_
                  refine PW.load rfl rfl rfl rfl rfl rfl ?_
                  refine PW.load rfl rfl rfl rfl rfl rfl ?_
                  refine PW.call (r := .vl (.bool true)) rfl rfl rfl rfl rfl rfl (KV.st _) rfl (k_is ((bd_sh0 x0)) (by first | decide | omega) rfl) ?_
                  refine PW.pick (t := true) rfl rfl rfl rfl rfl rfl ?_
                  refine PW.move rfl rfl rfl rfl rfl ?_
                  refine PW.move rfl rfl rfl rfl rfl ?_
                  refine PW.move rfl rfl rfl rfl rfl ?_
                  refine PW.q2 (x := .tmp 118) (y := .tmp 119) (.bool true) rfl rfl rfl rfl rfl (fun ρ W h1 h2 => by go_simp) ?_
                  refine PW.pick (t := true) rfl rfl rfl rfl rfl rfl ?_
                  refine PW.move rfl rfl rfl rfl rfl ?_
                  refine PW.load rfl rfl rfl rfl rfl rfl ?_
                  refine PW.load rfl rfl rfl rfl rfl rfl ?_
                  refine PW.call (r := .vl (.bool true)) rfl rfl rfl rfl rfl rfl (KV.st _) rfl (k_is ((bd.fld X (k := kn) (p := qn) (m := 10) (by omega))) (by first | decide | omega) rfl) ?_
                  refine PW.pick (t := true) rfl rfl rfl rfl rfl rfl ?_
                  refine PW.move rfl rfl rfl rfl rfl ?_
                  refine PW.move rfl rfl rfl rfl rfl ?_
                  refine PW.move rfl rfl rfl rfl rfl ?_
                  refine PW.q2 (x := .tmp 128) (y := .tmp 129) (.bool true) rfl rfl rfl rfl rfl (fun ρ W h1 h2 => by go_simp) ?_
                  refine PW.pick (t := true) rfl rfl rfl rfl rfl rfl ?_
                  refine PW.move rfl rfl rfl rfl rfl ?_
                  refine PW.load rfl rfl rfl rfl rfl rfl ?_
                  refine PW.load rfl rfl rfl rfl rfl rfl ?_
                  refine PW.call (r := .vl (.bool true)) rfl rfl rfl rfl rfl rfl (KV.st _) rfl (k_is ((bd.dep X Y (k := kn) (p := qn) (m := 10) (q := 10) (by omega) (by omega))) (by first | decide | omega) rfl) ?_
                  refine PW.pick (t := true) rfl rfl rfl rfl rfl rfl ?_
                  refine PW.move rfl rfl rfl rfl rfl ?_
                  refine PW.call (r := .vl (.bool true)) rfl rfl rfl rfl rfl rfl (KV.st _) rfl (k_awake) ?_
                  refine PW.pick (t := true) rfl rfl rfl rfl rfl rfl ?_
                  refine PW.assign rfl rfl rfl rfl rfl ?_
                  refine PW.nil ?_
                  refine SX.then ?_
                  refine SC.ret ?_
                  exact SX.done (r := .vl (.bool true)) rfl rfl rfl
                · refine SC.region ?_
                  refine PW.load rfl rfl rfl rfl rfl rfl ?_
                  refine PW.move rfl rfl rfl rfl rfl ?_
                  refine PW.move rfl rfl rfl rfl rfl ?_
                  refine PW.call (r := .kw (K2 (KI (0)) (KV (.int .i64 1)))) rfl rfl rfl rfl rfl rfl (K2.st (KI.st _) (KV.st _)) rfl (k_field_bad kq) ?_
                  refine PW.move rfl rfl rfl rfl rfl ?_
                  refine PW.ext (r := .kw (KI (0))) rfl rfl rfl rfl rfl ex20 (KI.st _) rfl ?_
                  refine PW.ext (r := .vl (.int .i64 1)) rfl rfl rfl rfl rfl ex21v (KV.st _) rfl ?_
                  refine PW.alloc (BI 28) rfl rfl rfl rfl rfl bI ?_
                  refine PW.store (x := .tmp 84) (r := .kw (KI (0))) rfl rfl rfl rfl rfl rfl sh_I ?_
                  refine PW.assign rfl rfl rfl rfl rfl ?_
                  refine PW.nil ?_
                  refine SX.then ?_
                  refine SC.seq ?_
                  refine SC.region ?_
                  refine PW.load rfl rfl rfl rfl rfl rfl ?_
                  refine PW.move rfl rfl rfl rfl rfl ?_
                  refine PW.move rfl rfl rfl rfl rfl ?_
                  refine PW.call (r := .kw (K2 (KJ (0)) (KV (.int .i64 1)))) rfl rfl rfl rfl rfl rfl (K2.st (KJ.st _) (KV.st _)) rfl (k_jfield_bad (by omega)) ?_
                  refine PW.move rfl rfl rfl rfl rfl ?_
                  refine PW.ext (r := .kw (KJ (0))) rfl rfl rfl rfl rfl ex20 (KJ.st _) rfl ?_
                  refine PW.ext (r := .vl (.int .i64 1)) rfl rfl rfl rfl rfl ex21v (KV.st _) rfl ?_
                  refine PW.alloc (BI 31) rfl rfl rfl rfl rfl bJ ?_
                  refine PW.store (x := .tmp 91) (r := .kw (KJ (0))) rfl rfl rfl rfl rfl rfl sh_J ?_
                  refine PW.assign rfl rfl rfl rfl rfl ?_
                  refine PW.nil ?_
                  refine SX.then ?_
                  refine SC.seq ?_
                  refine SC.region ?_
                  refine PW.load rfl rfl rfl rfl rfl rfl ?_
                  refine PW.load rfl rfl rfl rfl rfl rfl ?_
                  refine PW.move rfl rfl rfl rfl rfl ?_
                  refine PW.move rfl rfl rfl rfl rfl ?_
                  refine PW.call (r := .kw (K2 (KI (0)) (KV (.int .i64 1)))) rfl rfl rfl rfl rfl rfl (K2.st (KI.st _) (KV.st _)) rfl (k_dep_bad kq) ?_
                  refine PW.move rfl rfl rfl rfl rfl ?_
                  refine PW.ext (r := .kw (KI (0))) rfl rfl rfl rfl rfl ex20 (KI.st _) rfl ?_
                  refine PW.ext (r := .vl (.int .i64 1)) rfl rfl rfl rfl rfl ex21v (KV.st _) rfl ?_
                  refine PW.alloc (BI 28) rfl rfl rfl rfl rfl bI ?_
                  refine PW.store (x := .tmp 99) (r := .kw (KI (0))) rfl rfl rfl rfl rfl rfl sh_I ?_
                  refine PW.assign rfl rfl rfl rfl rfl ?_
                  refine PW.nil ?_
                  refine SX.then ?_
                  refine SC.seq ?_
                  refine SC.region ?_
                  refine PW.load rfl rfl rfl rfl rfl rfl ?_
                  refine PW.load rfl rfl rfl rfl rfl rfl ?_
                  refine PW.move rfl rfl rfl rfl rfl ?_
                  refine PW.move rfl rfl rfl rfl rfl ?_
                  refine PW.call (r := .kw (K2 (KJ (0)) (KV (.int .i64 1)))) rfl rfl rfl rfl rfl rfl (K2.st (KJ.st _) (KV.st _)) rfl (k_jdep_bad (by omega)) ?_
                  refine PW.move rfl rfl rfl rfl rfl ?_
                  refine PW.ext (r := .kw (KJ (0))) rfl rfl rfl rfl rfl ex20 (KJ.st _) rfl ?_
                  refine PW.ext (r := .vl (.int .i64 1)) rfl rfl rfl rfl rfl ex21v (KV.st _) rfl ?_
                  refine PW.alloc (BI 31) rfl rfl rfl rfl rfl bJ ?_
                  refine PW.store (x := .tmp 107) (r := .kw (KJ (0))) rfl rfl rfl rfl rfl rfl sh_J ?_
                  refine PW.assign rfl rfl rfl rfl rfl ?_
                  refine PW.nil ?_
                  refine SX.then ?_
                  refine SC.seq ?_
                  refine SC.region ?_
                  refine PW.move rfl rfl rfl rfl rfl ?_
                  refine PW.move rfl rfl rfl rfl rfl ?_
                  refine PW.q2 (x := .tmp 109) (y := .tmp 110) (.bool true) rfl rfl rfl rfl rfl (fun ρ W h1 h2 => by go_simp) ?_
                  refine PW.move rfl rfl rfl rfl rfl ?_
                  refine PW.load rfl rfl rfl rfl rfl rfl ?_
                  refine PW.load rfl rfl rfl rfl rfl rfl ?_
                  refine PW.call (r := .vl (.bool true)) rfl rfl rfl rfl rfl rfl (KV.st _) rfl (k_is ((bd_sh0 x0)) (by first | decide | omega) rfl) ?_
                  refine PW.pick (t := true) rfl rfl rfl rfl rfl rfl ?_
                  refine PW.move rfl rfl rfl rfl rfl ?_
                  refine PW.move rfl rfl rfl rfl rfl ?_
                  refine PW.move rfl rfl rfl rfl rfl ?_
                  refine PW.q2 (x := .tmp 118) (y := .tmp 119) (.bool true) rfl rfl rfl rfl rfl (fun ρ W h1 h2 => by go_simp) ?_
                  refine PW.pick (t := true) rfl rfl rfl rfl rfl rfl ?_
                  refine PW.move rfl rfl rfl rfl rfl ?_
                  refine PW.load rfl rfl rfl rfl rfl rfl ?_
                  refine PW.load rfl rfl rfl rfl rfl rfl ?_
                  refine PW.call (r := .vl (.bool true)) rfl rfl rfl rfl rfl rfl (KV.st _) rfl (k_is (bd.zero (a := 1)) (by first | decide | omega) rfl) ?_
                  refine PW.pick (t := true) rfl rfl rfl rfl rfl rfl ?_
                  refine PW.move rfl rfl rfl rfl rfl ?_
                  refine PW.move rfl rfl rfl rfl rfl ?_
                  refine PW.move rfl rfl rfl rfl rfl ?_
                  refine PW.q2 (x := .tmp 128) (y := .tmp 129) (.bool true) rfl rfl rfl rfl rfl (fun ρ W h1 h2 => by go_simp) ?_
                  refine PW.pick (t := true) rfl rfl rfl rfl rfl rfl ?_
                  refine PW.move rfl rfl rfl rfl rfl ?_
                  refine PW.load rfl rfl rfl rfl rfl rfl ?_
                  refine PW.load rfl rfl rfl rfl rfl rfl ?_
                  refine PW.call (r := .vl (.bool true)) rfl rfl rfl rfl rfl rfl (KV.st _) rfl (k_is (bd.zero (a := 1)) (by first | decide | omega) rfl) ?_
                  refine PW.pick (t := true) rfl rfl rfl rfl rfl rfl ?_
                  refine PW.move rfl rfl rfl rfl rfl ?_
                  refine PW.call (r := .vl (.bool true)) rfl rfl rfl rfl rfl rfl (KV.st _) rfl (k_awake) ?_
                  refine PW.pick (t := true) rfl rfl rfl rfl rfl rfl ?_
                  refine PW.assign rfl rfl rfl rfl rfl ?_
                  refine PW.nil ?_
                  refine SX.then ?_
                  refine SC.ret ?_
                  exact SX.done (r := .vl (.bool true)) rfl rfl rfl
              · refine SC.region ?_
                refine PW.load rfl rfl rfl rfl rfl rfl ?_
                refine PW.move rfl rfl rfl rfl rfl ?_
                refine PW.call (r := .kw (K2 (KI (0)) (KV (.int .i64 14)))) rfl rfl rfl rfl rfl rfl (K2.st (KI.st _) (KV.st _)) rfl (k_Shift_1 X (by decide) hnr.1 hnr.2 (not_shOk x0 (by omega))) ?_
                refine PW.move rfl rfl rfl rfl rfl ?_
                refine PW.ext (r := .kw (KI (0))) rfl rfl rfl rfl rfl ex20 (KI.st _) rfl ?_
                refine PW.ext (r := .vl (.int .i64 14)) rfl rfl rfl rfl rfl ex21v (KV.st _) rfl ?_
                refine PW.alloc (BI 28) rfl rfl rfl rfl rfl bI ?_
                refine PW.store (x := .tmp 71) (r := .kw (KI (0))) rfl rfl rfl rfl rfl rfl sh_I ?_
                refine PW.assign rfl rfl rfl rfl rfl ?_
                refine PW.nil ?_
                refine SX.then ?_
                refine SC.seq ?_
                refine SC.region ?_
                refine PW.load rfl rfl rfl rfl rfl rfl ?_
                refine PW.move rfl rfl rfl rfl rfl ?_
                refine PW.call (r := .kw (K2 (KJ (0)) (KV (.int .i64 14)))) rfl rfl rfl rfl rfl rfl (K2.st (KJ.st _) (KV.st _)) rfl (k_jshift_1 X (by decide) hnr.2 (not_shOk x0 (by omega))) ?_
                refine PW.move rfl rfl rfl rfl rfl ?_
                refine PW.ext (r := .kw (KJ (0))) rfl rfl rfl rfl rfl ex20 (KJ.st _) rfl ?_
                refine PW.ext (r := .vl (.int .i64 14)) rfl rfl rfl rfl rfl ex21v (KV.st _) rfl ?_
                refine PW.alloc (BI 31) rfl rfl rfl rfl rfl bJ ?_
                refine PW.store (x := .tmp 77) (r := .kw (KJ (0))) rfl rfl rfl rfl rfl rfl sh_J ?_
                refine PW.assign rfl rfl rfl rfl rfl ?_
                refine PW.nil ?_
                refine SX.then ?_
                refine SC.seq ?_
                by_cases kq : 0 ≤ k ∧ k ≤ 65536 ∧ 0 ≤ q ∧ q ≤ 65536
                · obtain ⟨kn, rfl⟩ : ∃ m : Nat, k = m := ⟨k.toNat, by omega⟩
                  obtain ⟨qn, rfl⟩ : ∃ m : Nat, q = m := ⟨q.toNat, by omega⟩
                  refine SC.region ?_
                  refine PW.load rfl rfl rfl rfl rfl rfl ?_
                  refine PW.move rfl rfl rfl rfl rfl ?_
                  refine PW.move rfl rfl rfl rfl rfl ?_
                  refine PW.call (r := .kw (K2 (KI (fld x kn qn)) (KV (.int .i64 0)))) rfl rfl rfl rfl rfl rfl (K2.st (KI.st _) (KV.st _)) rfl (k_field X (by decide) (by omega) (by omega)) ?_
                  refine PW.move rfl rfl rfl rfl rfl ?_
                  refine PW.ext (r := .kw (KI (fld x kn qn))) rfl rfl rfl rfl rfl ex20 (KI.st _) rfl ?_
                  refine PW.ext (r := .vl (.int .i64 0)) rfl rfl rfl rfl rfl ex21v (KV.st _) rfl ?_
                  refine PW.alloc (BI 28) rfl rfl rfl rfl rfl bI ?_
                  refine PW.store (x := .tmp 84) (r := .kw (KI (fld x kn qn))) rfl rfl rfl rfl rfl rfl sh_I ?_
                  refine PW.assign rfl rfl rfl rfl rfl ?_
                  refine PW.nil ?_
                  refine SX.then ?_
                  refine SC.seq ?_
                  refine SC.region ?_
                  refine PW.load rfl rfl rfl rfl rfl rfl ?_
                  refine PW.move rfl rfl rfl rfl rfl ?_
                  refine PW.move rfl rfl rfl rfl rfl ?_
                  refine PW.call (r := .kw (K2 (KJ (fld x kn qn)) (KV (.int .i64 0)))) rfl rfl rfl rfl rfl rfl (K2.st (KJ.st _) (KV.st _)) rfl (k_jfield X (by decide) (by omega) (by omega)) ?_
                  refine PW.move rfl rfl rfl rfl rfl ?_
                  refine PW.ext (r := .kw (KJ (fld x kn qn))) rfl rfl rfl rfl rfl ex20 (KJ.st _) rfl ?_
                  refine PW.ext (r := .vl (.int .i64 0)) rfl rfl rfl rfl rfl ex21v (KV.st _) rfl ?_
                  refine PW.alloc (BI 31) rfl rfl rfl rfl rfl bJ ?_
                  refine PW.store (x := .tmp 91) (r := .kw (KJ (fld x kn qn))) rfl rfl rfl rfl rfl rfl sh_J ?_
                  refine PW.assign rfl rfl rfl rfl rfl ?_
                  refine PW.nil ?_
                  refine SX.then ?_
                  refine SC.seq ?_
                  refine SC.region ?_
                  refine PW.load rfl rfl rfl rfl rfl rfl ?_
                  refine PW.load rfl rfl rfl rfl rfl rfl ?_
                  refine PW.move rfl rfl rfl rfl rfl ?_
                  refine PW.move rfl rfl rfl rfl rfl ?_
                  refine PW.call (r := .kw (K2 (KI (dep x y kn qn)) (KV (.int .i64 0)))) rfl rfl rfl rfl rfl rfl (K2.st (KI.st _) (KV.st _)) rfl (k_dep X Y (by decide) (by decide) (by omega) (by omega)) ?_
                  refine PW.move rfl rfl rfl rfl rfl ?_
                  refine PW.ext (r := .kw (KI (dep x y kn qn))) rfl rfl rfl rfl rfl ex20 (KI.st _) rfl ?_
                  refine PW.ext (r := .vl (.int .i64 0)) rfl rfl rfl rfl rfl ex21v (KV.st _) rfl ?_
                  refine PW.alloc (BI 28) rfl rfl rfl rfl rfl bI ?_
                  refine PW.store (x := .tmp 99) (r := .kw (KI (dep x y kn qn))) rfl rfl rfl rfl rfl rfl sh_I ?_
                  refine PW.assign rfl rfl rfl rfl rfl ?_
                  refine PW.nil ?_
                  refine SX.then ?_
                  refine SC.seq ?_
                  refine SC.region ?_
                  refine PW.load rfl rfl rfl rfl rfl rfl ?_
                  refine PW.load rfl rfl rfl rfl rfl rfl ?_
                  refine PW.move rfl rfl rfl rfl rfl ?_
                  refine PW.move rfl rfl rfl rfl rfl ?_
                  refine PW.call (r := .kw (K2 (KJ (dep x y kn qn)) (KV (.int .i64 0)))) rfl rfl rfl rfl rfl rfl (K2.st (KJ.st _) (KV.st _)) rfl (k_jdep X Y (by decide) (by decide) (by omega) (by omega)) ?_
                  refine PW.move rfl rfl rfl rfl rfl ?_
                  refine PW.ext (r := .kw (KJ (dep x y kn qn))) rfl rfl rfl rfl rfl ex20 (KJ.st _) rfl ?_
                  refine PW.ext (r := .vl (.int .i64 0)) rfl rfl rfl rfl rfl ex21v (KV.st _) rfl ?_
                  refine PW.alloc (BI 31) rfl rfl rfl rfl rfl bJ ?_
                  refine PW.store (x := .tmp 107) (r := .kw (KJ (dep x y kn qn))) rfl rfl rfl rfl rfl rfl sh_J ?_
                  refine PW.assign rfl rfl rfl rfl rfl ?_
                  refine PW.nil ?_
                  refine SX.then ?_
                  refine SC.seq ?_
                  refine SC.region ?_
                  refine PW.move rfl rfl rfl rfl rfl ?_
                  refine PW.move rfl rfl rfl rfl rfl ?_
                  refine PW.q2 (x := .tmp 109) (y := .tmp 110) (.bool true) rfl rfl rfl rfl rfl (fun ρ W h1 h2 => by go_simp) ?_
                  refine PW.move rfl rfl rfl rfl rfl ?_
                  refine PW.load rfl rfl rfl rfl rfl rfl ?_
                  refine PW.load rfl rfl rfl rfl rfl rfl ?_
                  refine PW.call (r := .vl (.bool true)) rfl rfl rfl rfl rfl rfl (KV.st _) rfl (k_is (bd.zero (a := 1)) (by first | decide | omega) rfl) ?_
                  refine PW.pick (t := true) rfl rfl rfl rfl rfl rfl ?_
                  refine PW.move rfl rfl rfl rfl rfl ?_
                  refine PW.move rfl rfl rfl rfl rfl ?_
                  refine PW.move rfl rfl rfl rfl rfl ?_
                  refine PW.q2 (x := .tmp 118) (y := .tmp 119) (.bool true) rfl rfl rfl rfl rfl (fun ρ W h1 h2 => by go_simp) ?_
                  refine PW.pick (t := true) rfl rfl rfl rfl rfl rfl ?_
                  refine PW.move rfl rfl rfl rfl rfl ?_
                  refine PW.load rfl rfl rfl rfl rfl rfl ?_
                  refine PW.load rfl rfl rfl rfl rfl rfl ?_
                  refine PW.call (r := .vl (.bool true)) rfl rfl rfl rfl rfl rfl (KV.st _) rfl (k_is ((bd.fld X (k := kn) (p := qn) (m := 10) (by omega))) (by first | decide | omega) rfl) ?_
                  refine PW.pick (t := true) rfl rfl rfl rfl rfl rfl ?_
                  refine PW.move rfl rfl rfl rfl rfl ?_
                  refine PW.move rfl rfl rfl rfl rfl ?_
                  refine PW.move rfl rfl rfl rfl rfl ?_
                  refine PW.q2 (x := .tmp 128) (y := .tmp 129) (.bool true) rfl rfl rfl rfl rfl (fun ρ W h1 h2 => by go_simp) ?_
                  refine PW.pick (t := true) rfl rfl rfl rfl rfl rfl ?_
                  refine PW.move rfl rfl rfl rfl rfl ?_
                  refine PW.load rfl rfl rfl rfl rfl rfl ?_
                  refine PW.load rfl rfl rfl rfl rfl rfl ?_
                  refine PW.call (r := .vl (.bool true)) rfl rfl rfl rfl rfl rfl (KV.st _) rfl (k_is ((bd.dep X Y (k := kn) (p := qn) (m := 10) (q := 10) (by omega) (by omega))) (by first | decide | omega) rfl) ?_
                  refine PW.pick (t := true) rfl rfl rfl rfl rfl rfl ?_
                  refine PW.move rfl rfl rfl rfl rfl ?_
                  refine PW.call (r := .vl (.bool true)) rfl rfl rfl rfl rfl rfl (KV.st _) rfl (k_awake) ?_
                  refine PW.pick (t := true) rfl rfl rfl rfl rfl rfl ?_
                  refine PW.assign rfl rfl rfl rfl rfl ?_
                  refine PW.nil ?_
                  refine SX.then ?_
                  refine SC.ret ?_
                  exact SX.done (r := .vl (.bool true)) rfl rfl rfl
                · refine SC.region ?_
                  refine PW.load rfl rfl rfl rfl rfl rfl ?_
                  refine PW.move rfl rfl rfl rfl rfl ?_
                  refine PW.move rfl rfl rfl rfl rfl ?_
                  refine PW.call (r := .kw (K2 (KI (0)) (KV (.int .i64 1)))) rfl rfl rfl rfl rfl rfl (K2.st (KI.st _) (KV.st _)) rfl (k_field_bad kq) ?_
                  refine PW.move rfl rfl rfl rfl rfl ?_
                  refine PW.ext (r := .kw (KI (0))) rfl rfl rfl rfl rfl ex20 (KI.st _) rfl ?_
                  refine PW.ext (r := .vl (.int .i64 1)) rfl rfl rfl rfl rfl ex21v (KV.st _) rfl ?_
                  refine PW.alloc (BI 28) rfl rfl rfl rfl rfl bI ?_
                  refine PW.store (x := .tmp 84) (r := .kw (KI (0))) rfl rfl rfl rfl rfl rfl sh_I ?_
                  refine PW.assign rfl rfl rfl rfl rfl ?_
                  refine PW.nil ?_
                  refine SX.then ?_
                  refine SC.seq ?_
                  refine SC.region ?_
                  refine PW.load rfl rfl rfl rfl rfl rfl ?_
                  refine PW.move rfl rfl rfl rfl rfl ?_
                  refine PW.move rfl rfl rfl rfl rfl ?_
                  refine PW.call (r := .kw (K2 (KJ (0)) (KV (.int .i64 1)))) rfl rfl rfl rfl rfl rfl (K2.st (KJ.st _) (KV.st _)) rfl (k_jfield_bad (by omega)) ?_
                  refine PW.move rfl rfl rfl rfl rfl ?_
                  refine PW.ext (r := .kw (KJ (0))) rfl rfl rfl rfl rfl ex20 (KJ.st _) rfl ?_
                  refine PW.ext (r := .vl (.int .i64 1)) rfl rfl rfl rfl rfl ex21v (KV.st _) rfl ?_
                  refine PW.alloc (BI 31) rfl rfl rfl rfl rfl bJ ?_
                  refine PW.store (x := .tmp 91) (r := .kw (KJ (0))) rfl rfl rfl rfl rfl rfl sh_J ?_
                  refine PW.assign rfl rfl rfl rfl rfl ?_
                  refine PW.nil ?_
                  refine SX.then ?_
                  refine SC.seq ?_
                  refine SC.region ?_
                  refine PW.load rfl rfl rfl rfl rfl rfl ?_
                  refine PW.load rfl rfl rfl rfl rfl rfl ?_
                  refine PW.move rfl rfl rfl rfl rfl ?_
                  refine PW.move rfl rfl rfl rfl rfl ?_
                  refine PW.call (r := .kw (K2 (KI (0)) (KV (.int .i64 1)))) rfl rfl rfl rfl rfl rfl (K2.st (KI.st _) (KV.st _)) rfl (k_dep_bad kq) ?_
                  refine PW.move rfl rfl rfl rfl rfl ?_
                  refine PW.ext (r := .kw (KI (0))) rfl rfl rfl rfl rfl ex20 (KI.st _) rfl ?_
                  refine PW.ext (r := .vl (.int .i64 1)) rfl rfl rfl rfl rfl ex21v (KV.st _) rfl ?_
                  refine PW.alloc (BI 28) rfl rfl rfl rfl rfl bI ?_
                  refine PW.store (x := .tmp 99) (r := .kw (KI (0))) rfl rfl rfl rfl rfl rfl sh_I ?_
                  refine PW.assign rfl rfl rfl rfl rfl ?_
                  refine PW.nil ?_
                  refine SX.then ?_
                  refine SC.seq ?_
                  refine SC.region ?_
                  refine PW.load rfl rfl rfl rfl rfl rfl ?_
                  refine PW.load rfl rfl rfl rfl rfl rfl ?_
                  refine PW.move rfl rfl rfl rfl rfl ?_
                  refine PW.move rfl rfl rfl rfl rfl ?_
                  refine PW.call (r := .kw (K2 (KJ (0)) (KV (.int .i64 1)))) rfl rfl rfl rfl rfl rfl (K2.st (KJ.st _) (KV.st _)) rfl (k_jdep_bad (by omega)) ?_
                  refine PW.move rfl rfl rfl rfl rfl ?_
                  refine PW.ext (r := .kw (KJ (0))) rfl rfl rfl rfl rfl ex20 (KJ.st _) rfl ?_
                  refine PW.ext (r := .vl (.int .i64 1)) rfl rfl rfl rfl rfl ex21v (KV.st _) rfl ?_
                  refine PW.alloc (BI 31) rfl rfl rfl rfl rfl bJ ?_
                  refine PW.store (x := .tmp 107) (r := .kw (KJ (0))) rfl rfl rfl rfl rfl rfl sh_J ?_
                  refine PW.assign rfl rfl rfl rfl rfl ?_
                  refine PW.nil ?_
                  refine SX.then ?_
                  refine SC.seq ?_
                  refine SC.region ?_
                  refine PW.move rfl rfl rfl rfl rfl ?_
                  refine PW.move rfl rfl rfl rfl rfl ?_
                  refine PW.q2 (x := .tmp 109) (y := .tmp 110) (.bool true) rfl rfl rfl rfl rfl (fun ρ W h1 h2 => by go_simp) ?_
                  refine PW.move rfl rfl rfl rfl rfl ?_
                  refine PW.load rfl rfl rfl rfl rfl rfl ?_
                  refine PW.load rfl rfl rfl rfl rfl rfl ?_
                  refine PW.call (r := .vl (.bool true)) rfl rfl rfl rfl rfl rfl (KV.st _) rfl (k_is (bd.zero (a := 1)) (by first | decide | omega) rfl) ?_
                  refine PW.pick (t := true) rfl rfl rfl rfl rfl rfl ?_
                  refine PW.move rfl rfl rfl rfl rfl ?_
                  refine PW.move rfl rfl rfl rfl rfl ?_
                  refine PW.move rfl rfl rfl rfl rfl ?_
                  refine PW.q2 (x := .tmp 118) (y := .tmp 119) (.bool true) rfl rfl rfl rfl rfl (fun ρ W h1 h2 => by go_simp) ?_
                  refine PW.pick (t := true) rfl rfl rfl rfl rfl rfl ?_
                  refine PW.move rfl rfl rfl rfl rfl ?_
                  refine PW.load rfl rfl rfl rfl rfl rfl ?_
                  refine PW.load rfl rfl rfl rfl rfl rfl ?_
                  refine PW.call (r := .vl (.bool true)) rfl rfl rfl rfl rfl rfl (KV.st _) rfl (k_is (bd.zero (a := 1)) (by first | decide | omega) rfl) ?_
                  refine PW.pick (t := true) rfl rfl rfl rfl rfl rfl ?_
                  refine PW.move rfl rfl rfl rfl rfl ?_
                  refine PW.move rfl rfl rfl rfl rfl ?_
                  refine PW.move rfl rfl rfl rfl rfl ?_
                  refine PW.q2 (x := .tmp 128) (y := .tmp 129) (.bool true) rfl rfl rfl rfl rfl (fun ρ W h1 h2 => by go_simp) ?_
                  refine PW.pick (t := true) rfl rfl rfl rfl rfl rfl ?_
                  refine PW.move rfl rfl rfl rfl rfl ?_
                  refine PW.load rfl rfl rfl rfl rfl rfl ?_
                  refine PW.load rfl rfl rfl rfl rfl rfl ?_
                  refine PW.call (r := .vl (.bool true)) rfl rfl rfl rfl rfl rfl (KV.st _) rfl (k_is (bd.zero (a := 1)) (by first | decide | omega) rfl) ?_
                  refine PW.pick (t := true) rfl rfl rfl rfl rfl rfl ?_
                  refine PW.move rfl rfl rfl rfl rfl ?_
                  refine PW.call (r := .vl (.bool true)) rfl rfl rfl rfl rfl rfl (KV.st _) rfl (k_awake) ?_
                  refine PW.pick (t := true) rfl rfl rfl rfl rfl rfl ?_
                  refine PW.assign rfl rfl rfl rfl rfl ?_
                  refine PW.nil ?_
                  refine SX.then ?_
                  refine SC.ret ?_
                  exact SX.done (r := .vl (.bool true)) rfl rfl rfl
        · by_cases q3 : q > 300
          · by_cases q6 : q ≤ 65536
            · refine SC.region ?_
              refine PW.loadV rfl rfl rfl rfl rfl rfl ?_
              refine PW.loadV rfl rfl rfl rfl rfl rfl ?_
              refine PW.short 8 [(n1, A1, l1, c1), (n2, A2, l2, c2)] _ rfl rfl rfl (fun a W hf => r_bN2 (hf.vl (s := 27) rfl) (hf.vl (s := 28) rfl)) (fun W => ns_lit2 W) (by simp; exact ⟨In.lim h1, In.lim h2⟩) rfl rfl hs rfl rfl rfl rfl rfl rfl ?_
              refine PW.q1 (x := .tmp 30) (.bool false) rfl rfl rfl rfl (fun ρ W h1 => by go_simp) ?_
              refine PW.move rfl rfl rfl rfl rfl ?_
              refine PW.move rfl rfl rfl rfl rfl ?_
              refine PW.q2 (x := .tmp 33) (y := .const (.int .i64 300)) (.bool true) rfl rfl rfl rfl rfl (fun ρ W h1 h2 => by exact r_gt h1 h2 (decide_eq_true n3)) ?_
              refine PW.move rfl rfl rfl rfl rfl ?_
              refine PW.move rfl rfl rfl rfl rfl ?_
              refine PW.q2 (x := .tmp 36) (y := .const (.int .i64 65536)) (.bool false) rfl rfl rfl rfl rfl (fun ρ W h1 h2 => by exact r_le h1 h2 (decide_eq_false n6)) ?_
              refine PW.pick (t := true) rfl rfl rfl rfl rfl rfl ?_
              refine PW.pick (t := false) rfl rfl rfl rfl rfl rfl ?_
              refine PW.move rfl rfl rfl rfl rfl ?_
              refine PW.move rfl rfl rfl rfl rfl ?_
              refine PW.q2 (x := .tmp 41) (y := .const (.int .i64 300)) (.bool false) rfl rfl rfl rfl rfl (fun ρ W h1 h2 => by exact r_gt h1 h2 (decide_eq_false k3)) ?_
              refine PW.move rfl rfl rfl rfl rfl ?_
              refine PW.skip rfl rfl rfl ?_
              refine PW.skip rfl rfl rfl ?_
              refine PW.pick (t := false) rfl rfl rfl rfl rfl rfl ?_
              refine PW.pick (t := false) rfl rfl rfl rfl rfl rfl ?_
              refine PW.move rfl rfl rfl rfl rfl ?_
              refine PW.move rfl rfl rfl rfl rfl ?_
              refine PW.q2 (x := .tmp 49) (y := .const (.int .i64 300)) (.bool true) rfl rfl rfl rfl rfl (fun ρ W h1 h2 => by exact r_gt h1 h2 (decide_eq_true q3)) ?_
              refine PW.move rfl rfl rfl rfl rfl ?_
              refine PW.move rfl rfl rfl rfl rfl ?_
              refine PW.q2 (x := .tmp 52) (y := .const (.int .i64 65536)) (.bool true) rfl rfl rfl rfl rfl (fun ρ W h1 h2 => by exact r_le h1 h2 (decide_eq_true q6)) ?_
              refine PW.pick (t := true) rfl rfl rfl rfl rfl rfl ?_
              refine PW.pick (t := false) rfl rfl rfl rfl rfl rfl ?_
              refine PW.nil ?_
              refine SX.then ?_
              refine SC.cond (t := true) rfl ?_
              refine SC.seq ?_
              refine SC.region ?_
              refine PW.call (r := .vl (.bool true)) rfl rfl rfl rfl rfl rfl (KV.st _) rfl (k_awake) ?_
              refine PW.assign rfl rfl rfl rfl rfl ?_
              refine PW.nil ?_
              refine SX.then ?_
              refine SC.ret ?_
              refine SX.thenR ?_
              exact SX.done (r := .vl (.bool true)) rfl rfl rfl
            · refine SC.region ?_
              refine PW.loadV rfl rfl rfl rfl rfl rfl ?_
              refine PW.loadV rfl rfl rfl rfl rfl rfl ?_
              refine PW.short 8 [(n1, A1, l1, c1), (n2, A2, l2, c2)] _ rfl rfl rfl (fun a W hf => r_bN2 (hf.vl (s := 27) rfl) (hf.vl (s := 28) rfl)) (fun W => ns_lit2 W) (by simp; exact ⟨In.lim h1, In.lim h2⟩) rfl rfl hs rfl rfl rfl rfl rfl rfl ?_
              refine PW.q1 (x := .tmp 30) (.bool false) rfl rfl rfl rfl (fun ρ W h1 => by go_simp) ?_
              refine PW.move rfl rfl rfl rfl rfl ?_
              refine PW.move rfl rfl rfl rfl rfl ?_
              refine PW.q2 (x := .tmp 33) (y := .const (.int .i64 300)) (.bool true) rfl rfl rfl rfl rfl (fun ρ W h1 h2 => by exact r_gt h1 h2 (decide_eq_true n3)) ?_
              refine PW.move rfl rfl rfl rfl rfl ?_
              refine PW.move rfl rfl rfl rfl rfl ?_
              refine PW.q2 (x := .tmp 36) (y := .const (.int .i64 65536)) (.bool false) rfl rfl rfl rfl rfl (fun ρ W h1 h2 => by exact r_le h1 h2 (decide_eq_false n6)) ?_
              refine PW.pick (t := true) rfl rfl rfl rfl rfl rfl ?_
              refine PW.pick (t := false) rfl rfl rfl rfl rfl rfl ?_
              refine PW.move rfl rfl rfl rfl rfl ?_
              refine PW.move rfl rfl rfl rfl rfl ?_
              refine PW.q2 (x := .tmp 41) (y := .const (.int .i64 300)) (.bool false) rfl rfl rfl rfl rfl (fun ρ W h1 h2 => by exact r_gt h1 h2 (decide_eq_false k3)) ?_
              refine PW.move rfl rfl rfl rfl rfl ?_
              refine PW.skip rfl rfl rfl ?_
              refine PW.skip rfl rfl rfl ?_
              refine PW.pick (t := false) rfl rfl rfl rfl rfl rfl ?_
              refine PW.pick (t := false) rfl rfl rfl rfl rfl rfl ?_
              refine PW.move rfl rfl rfl rfl rfl ?_
              refine PW.move rfl rfl rfl rfl rfl ?_
              refine PW.q2 (x := .tmp 49) (y := .const (.int .i64 300)) (.bool true) rfl rfl rfl rfl rfl (fun ρ W h1 h2 => by exact r_gt h1 h2 (decide_eq_true q3)) ?_
              refine PW.move rfl rfl rfl rfl rfl ?_
              refine PW.move rfl rfl rfl rfl rfl ?_
              refine PW.q2 (x := .tmp 52) (y := .const (.int .i64 65536)) (.bool false) rfl rfl rfl rfl rfl (fun ρ W h1 h2 => by exact r_le h1 h2 (decide_eq_false q6)) ?_
              refine PW.pick (t := true) rfl rfl rfl rfl rfl rfl ?_
              refine PW.pick (t := false) rfl rfl rfl rfl rfl rfl ?_
              refine PW.nil ?_
              refine SX.then ?_
              refine SC.cond (t := false) rfl ?_
              refine SC.skip ?_
              refine SX.then ?_
              refine SC.seq ?_
              refine SC.region ?_
              refine PW.loadV rfl rfl rfl rfl rfl rfl ?_
              refine PW.callG (r := .kw (K2 (KI (x)) (KJ (x)))) ce_of rfl rfl rfl rfl rfl (K2.st (KI.st _) (KJ.st _)) rfl (fun a W hf => by have e1 := hf.vl (s := 58) rfl; show Calls Try.prog _ #[a.tmps.getD 58 undef] W _; rw [e1]; exact of_in h1 hf.be (by omega) hz1) ?_
              refine PW.move rfl rfl rfl rfl rfl ?_
              refine PW.ext (r := .kw (KI (x))) rfl rfl rfl rfl rfl ex20 (KI.st _) rfl ?_
              refine PW.ext (r := .kw (KJ (x))) rfl rfl rfl rfl rfl ex21 (KJ.st _) rfl ?_
              refine PW.alloc (BI 28) rfl rfl rfl rfl rfl bI ?_
              refine PW.alloc (BI 31) rfl rfl rfl rfl rfl bJ ?_
              refine PW.store (x := .tmp 60) (r := .kw (KI (x))) rfl rfl rfl rfl rfl rfl sh_I ?_
              refine PW.store (x := .tmp 61) (r := .kw (KJ (x))) rfl rfl rfl rfl rfl rfl sh_J ?_
              refine PW.nil ?_
              refine SX.then ?_
              refine SC.seq ?_
              refine SC.region ?_
              refine PW.loadV rfl rfl rfl rfl rfl rfl ?_
              refine PW.callG (r := .kw (K2 (KI (y)) (KJ (y)))) ce_of rfl rfl rfl rfl rfl (K2.st (KI.st _) (KJ.st _)) rfl (fun a W hf => by have e1 := hf.vl (s := 63) rfl; show Calls Try.prog _ #[a.tmps.getD 63 undef] W _; rw [e1]; exact of_in h2 hf.be (by omega) hz2) ?_
              refine PW.move rfl rfl rfl rfl rfl ?_
              refine PW.ext (r := .kw (KI (y))) rfl rfl rfl rfl rfl ex20 (KI.st _) rfl ?_
              refine PW.ext (r := .kw (KJ (y))) rfl rfl rfl rfl rfl ex21 (KJ.st _) rfl ?_
              refine PW.alloc (BI 28) rfl rfl rfl rfl rfl bI ?_
              refine PW.alloc (BI 31) rfl rfl rfl rfl rfl bJ ?_
              refine PW.store (x := .tmp 65) (r := .kw (KI (y))) rfl rfl rfl rfl rfl rfl sh_I ?_
              refine PW.store (x := .tmp 66) (r := .kw (KJ (y))) rfl rfl rfl rfl rfl rfl sh_J ?_
              refine PW.nil ?_
              refine SX.then ?_
              refine SC.seq ?_
              by_cases x0 : x = 0
              · refine SC.region ?_
                refine PW.load rfl rfl rfl rfl rfl rfl ?_
                refine PW.move rfl rfl rfl rfl rfl ?_
                refine PW.call (r := .kw (K2 (KI (sh x n)) (KV (.int .i64 0)))) rfl rfl rfl rfl rfl rfl (K2.st (KI.st _) (KV.st _)) rfl (k_Shift X (by decide) hnr.1 hnr.2 (.inr (.inl x0))) ?_
                refine PW.move rfl rfl rfl rfl rfl ?_
                refine PW.ext (r := .kw (KI (sh x n))) rfl rfl rfl rfl rfl ex20 (KI.st _) rfl ?_
                refine PW.ext (r := .vl (.int .i64 0)) rfl rfl rfl rfl rfl ex21v (KV.st _) rfl ?_
                refine PW.alloc (BI 28) rfl rfl rfl rfl rfl bI ?_
                refine PW.store (x := .tmp 71) (r := .kw (KI (sh x n))) rfl rfl rfl rfl rfl rfl sh_I ?_
                refine PW.assign rfl rfl rfl rfl rfl ?_
                refine PW.nil ?_
                refine SX.then ?_
                refine SC.seq ?_
                refine SC.region ?_
                refine PW.load rfl rfl rfl rfl rfl rfl ?_
                refine PW.move rfl rfl rfl rfl rfl ?_
                refine PW.call (r := .kw (K2 (KJ (sh x n)) (KV (.int .i64 0)))) rfl rfl rfl rfl rfl rfl (K2.st (KJ.st _) (KV.st _)) rfl (k_jshift X (by decide) hnr.1 hnr.2 (.inr (.inl x0))) ?_
                refine PW.move rfl rfl rfl rfl rfl ?_
                refine PW.ext (r := .kw (KJ (sh x n))) rfl rfl rfl rfl rfl ex20 (KJ.st _) rfl ?_
                refine PW.ext (r := .vl (.int .i64 0)) rfl rfl rfl rfl rfl ex21v (KV.st _) rfl ?_
                refine PW.alloc (BI 31) rfl rfl rfl rfl rfl bJ ?_
                refine PW.store (x := .tmp 77) (r := .kw (KJ (sh x n))) rfl rfl rfl rfl rfl rfl sh_J ?_
                refine PW.assign rfl rfl rfl rfl rfl ?_
                refine PW.nil ?_
                refine SX.then ?_
                refine SC.seq ?_
                by_cases kq : 0 ≤ k ∧ k ≤ 65536 ∧ 0 ≤ q ∧ q ≤ 65536
                · obtain ⟨kn, rfl⟩ : ∃ m : Nat, k = m := ⟨k.toNat, by omega⟩
                  obtain ⟨qn, rfl⟩ : ∃ m : Nat, q = m := ⟨q.toNat, by omega⟩
                  refine SC.region ?_
                  refine PW.load rfl rfl rfl rfl rfl rfl ?_
                  refine PW.move rfl rfl rfl rfl rfl ?_
                  refine PW.move rfl rfl rfl rfl rfl ?_
                  refine PW.call (r := .kw (K2 (KI (fld x kn qn)) (KV (.int .i64 0)))) rfl rfl rfl rfl rfl rfl (K2.st (KI.st _) (KV.st _)) rfl (k_field X (by decide) (by omega) (by omega)) ?_
                  refine PW.move rfl rfl rfl rfl rfl ?_
                  refine PW.ext (r := .kw (KI (fld x kn qn))) rfl rfl rfl rfl rfl ex20 (KI.st _) rfl ?_
                  refine PW.ext (r := .vl (.int .i64 0)) rfl rfl rfl rfl rfl ex21v (KV.st _) rfl ?_
                  refine PW.alloc (BI 28) rfl rfl rfl rfl rfl bI ?_
                  refine PW.store (x := .tmp 84) (r := .kw (KI (fld x kn qn))) rfl rfl rfl rfl rfl rfl sh_I ?_
                  refine PW.assign rfl rfl rfl rfl rfl ?_
                  refine PW.nil ?_
                  refine SX.then ?_
                  refine SC.seq ?_
                  refine SC.region ?_
                  refine PW.load rfl rfl rfl rfl rfl rfl ?_
                  refine PW.move rfl rfl rfl rfl rfl ?_
                  refine PW.move rfl rfl rfl rfl rfl ?_
                  refine PW.call (r := .kw (K2 (KJ (fld x kn qn)) (KV (.int .i64 0)))) rfl rfl rfl rfl rfl rfl (K2.st (KJ.st _) (KV.st _)) rfl (k_jfield X (by decide) (by omega) (by omega)) ?_
                  refine PW.move rfl rfl rfl rfl rfl ?_
                  refine PW.ext (r := .kw (KJ (fld x kn qn))) rfl rfl rfl rfl rfl ex20 (KJ.st _) rfl ?_
                  refine PW.ext (r := .vl (.int .i64 0)) rfl rfl rfl rfl rfl ex21v (KV.st _) rfl ?_
                  refine PW.alloc (BI 31) rfl rfl rfl rfl rfl bJ ?_
                  refine PW.store (x := .tmp 91) (r := .kw (KJ (fld x kn qn))) rfl rfl rfl rfl rfl rfl sh_J ?_
                  refine PW.assign rfl rfl rfl rfl rfl ?_
                  refine PW.nil ?_
                  refine SX.then ?_
                  refine SC.seq ?_
                  refine SC.region ?_
                  refine PW.load rfl rfl rfl rfl rfl rfl ?_
                  refine PW.load rfl rfl rfl rfl rfl rfl ?_
                  refine PW.move rfl rfl rfl rfl rfl ?_
                  refine PW.move rfl rfl rfl rfl rfl ?_
                  refine PW.call (r := .kw (K2 (KI (dep x y kn qn)) (KV (.int .i64 0)))) rfl rfl rfl rfl rfl rfl (K2.st (KI.st _) (KV.st _)) rfl (k_dep X Y (by decide) (by decide) (by omega) (by omega)) ?_
                  refine PW.move rfl rfl rfl rfl rfl ?_
                  refine PW.ext (r := .kw (KI (dep x y kn qn))) rfl rfl rfl rfl rfl ex20 (KI.st _) rfl ?_
                  refine PW.ext (r := .vl (.int .i64 0)) rfl rfl rfl rfl rfl ex21v (KV.st _) rfl ?_
                  refine PW.alloc (BI 28) rfl rfl rfl rfl rfl bI ?_
                  refine PW.store (x := .tmp 99) (r := .kw (KI (dep x y kn qn))) rfl rfl rfl rfl rfl rfl sh_I ?_
                  refine PW.assign rfl rfl rfl rfl rfl ?_
                  refine PW.nil ?_
                  refine SX.then ?_
                  refine SC.seq ?_
                  refine SC.region ?_
                  refine PW.load rfl rfl rfl rfl rfl rfl ?_
                  refine PW.load rfl rfl rfl rfl rfl rfl ?_
                  refine PW.move rfl rfl rfl rfl rfl ?_
                  refine PW.move rfl rfl rfl rfl rfl ?_
                  refine PW.call (r := .kw (K2 (KJ (dep x y kn qn)) (KV (.int .i64 0)))) rfl rfl rfl rfl rfl rfl (K2.st (KJ.st _) (KV.st _)) rfl (k_jdep X Y (by decide) (by decide) (by omega) (by omega)) ?_
                  refine PW.move rfl rfl rfl rfl rfl ?_
                  refine PW.ext (r := .kw (KJ (dep x y kn qn))) rfl rfl rfl rfl rfl ex20 (KJ.st _) rfl ?_
                  refine PW.ext (r := .vl (.int .i64 0)) rfl rfl rfl rfl rfl ex21v (KV.st _) rfl ?_
                  refine PW.alloc (BI 31) rfl rfl rfl rfl rfl bJ ?_
                  refine PW.store (x := .tmp 107) (r := .kw (KJ (dep x y kn qn))) rfl rfl rfl rfl rfl rfl sh_J ?_
                  refine PW.assign rfl rfl rfl rfl rfl ?_
                  refine PW.nil ?_
                  refine SX.then ?_
                  refine SC.seq ?_
                  refine SC.region ?_
                  refine PW.move rfl rfl rfl rfl rfl ?_
                  refine PW.move rfl rfl rfl rfl rfl ?_
                  refine PW.q2 (x := .tmp 109) (y := .tmp 110) (.bool true) rfl rfl rfl rfl rfl (fun ρ W h1 h2 => by go_simp) ?_
                  refine PW.move rfl rfl rfl rfl rfl ?_
                  refine PW.load rfl rfl rfl rfl rfl rfl ?_
                  refine PW.load rfl rfl rfl rfl rfl rfl ?_
                  refine PW.call (r := .vl (.bool true)) rfl rfl rfl rfl rfl rfl (KV.st _) rfl (k_is ((bd_sh0 x0)) (by first | decide | omega) rfl) ?_
                  refine PW.pick (t := true) rfl rfl rfl rfl rfl rfl ?_
                  refine PW.move rfl rfl rfl rfl rfl ?_
                  refine PW.move rfl rfl rfl rfl rfl ?_
                  refine PW.move rfl rfl rfl rfl rfl ?_
                  refine PW.q2 (x := .tmp 118) (y := .tmp 119) (.bool true) rfl rfl rfl rfl rfl (fun ρ W h1 h2 => by go_simp) ?_
                  refine PW.pick (t := true) rfl rfl rfl rfl rfl rfl ?_
                  refine PW.move rfl rfl rfl rfl rfl ?_
                  refine PW.load rfl rfl rfl rfl rfl rfl ?_
                  refine PW.load rfl rfl rfl rfl rfl rfl ?_
                  refine PW.call (r := .vl (.bool true)) rfl rfl rfl rfl rfl rfl (KV.st _) rfl (k_is ((bd.fld X (k := kn) (p := qn) (m := 10) (by omega))) (by first | decide | omega) rfl) ?_
                  refine PW.pick (t := true) rfl rfl rfl rfl rfl rfl ?_
                  refine PW.move rfl rfl rfl rfl rfl ?_
                  refine PW.move rfl rfl rfl rfl rfl ?_
                  refine PW.move rfl rfl rfl rfl rfl ?_
                  refine PW.q2 (x := .tmp 128) (y := .tmp 129) (.bool true) rfl rfl rfl rfl rfl (fun ρ W h1 h2 => by go_simp) ?_
                  refine PW.pick (t := true) rfl rfl rfl rfl rfl rfl ?_
                  refine PW.move rfl rfl rfl rfl rfl ?_
                  refine PW.load rfl rfl rfl rfl rfl rfl ?_
                  refine PW.load rfl rfl rfl rfl rfl rfl ?_
                  refine PW.call (r := .vl (.bool true)) rfl rfl rfl rfl rfl rfl (KV.st _) rfl (k_is ((bd.dep X Y (k := kn) (p := qn) (m := 10) (q := 10) (by omega) (by omega))) (by first | decide | omega) rfl) ?_
                  refine PW.pick (t := true) rfl rfl rfl rfl rfl rfl ?_
                  refine PW.move rfl rfl rfl rfl rfl ?_
                  refine PW.call (r := .vl (.bool true)) rfl rfl rfl rfl rfl rfl (KV.st _) rfl (k_awake) ?_
                  refine PW.pick (t := true) rfl rfl rfl rfl rfl rfl ?_
                  refine PW.assign rfl rfl rfl rfl rfl ?_
                  refine PW.nil ?_
                  refine SX.then ?_
                  refine SC.ret ?_
                  exact SX.done (r := .vl (.bool true)) rfl rfl rfl
                · refine SC.region ?_
                  refine PW.load rfl rfl rfl rfl rfl rfl ?_
                  refine PW.move rfl rfl rfl rfl rfl ?_
                  refine PW.move rfl rfl rfl rfl rfl ?_
                  refine PW.call (r := .kw (K2 (KI (0)) (KV (.int .i64 1)))) rfl rfl rfl rfl rfl rfl (K2.st (KI.st _) (KV.st _)) rfl (k_field_bad kq) ?_
                  refine PW.move rfl rfl rfl rfl rfl ?_
                  refine PW.ext (r := .kw (KI (0))) rfl rfl rfl rfl rfl ex20 (KI.st _) rfl ?_
                  refine PW.ext (r := .vl (.int .i64 1)) rfl rfl rfl rfl rfl ex21v (KV.st _) rfl ?_
                  refine PW.alloc (BI 28) rfl rfl rfl rfl rfl bI ?_
                  refine PW.store (x := .tmp 84) (r := .kw (KI (0))) rfl rfl rfl rfl rfl rfl sh_I ?_
                  refine PW.assign rfl rfl rfl rfl rfl ?_
                  refine PW.nil ?_
                  refine SX.then ?_
                  refine SC.seq ?_
                  refine SC.region ?_
                  refine PW.load rfl rfl rfl rfl rfl rfl ?_
                  refine PW.move rfl rfl rfl rfl rfl ?_
                  refine PW.move rfl rfl rfl rfl rfl ?_
                  refine PW.call (r := .kw (K2 (KJ (0)) (KV (.int .i64 1)))) rfl rfl rfl rfl rfl rfl (K2.st (KJ.st _) (KV.st _)) rfl (k_jfield_bad (by omega)) ?_
                  refine PW.move rfl rfl rfl rfl rfl ?_
                  refine PW.ext (r := .kw (KJ (0))) rfl rfl rfl rfl rfl ex20 (KJ.st _) rfl ?_
                  refine PW.ext (r := .vl (.int .i64 1)) rfl rfl rfl rfl rfl ex21v (KV.st _) rfl ?_
                  refine PW.alloc (BI 31) rfl rfl rfl rfl rfl bJ ?_
                  refine PW.store (x := .tmp 91) (r := .kw (KJ (0))) rfl rfl rfl rfl rfl rfl sh_J ?_
                  refine PW.assign rfl rfl rfl rfl rfl ?_
                  refine PW.nil ?_
                  refine SX.then ?_
                  refine SC.seq ?_
                  refine SC.region ?_
                  refine PW.load rfl rfl rfl rfl rfl rfl ?_
                  refine PW.load rfl rfl rfl rfl rfl rfl ?_
                  refine PW.move rfl rfl rfl rfl rfl ?_
                  refine PW.move rfl rfl rfl rfl rfl ?_
                  refine PW.call (r := .kw (K2 (KI (0)) (KV (.int .i64 1)))) rfl rfl rfl rfl rfl rfl (K2.st (KI.st _) (KV.st _)) rfl (k_dep_bad kq) ?_
                  refine PW.move rfl rfl rfl rfl rfl ?_
                  refine PW.ext (r := .kw (KI (0))) rfl rfl rfl rfl rfl ex20 (KI.st _) rfl ?_
                  refine PW.ext (r := .vl (.int .i64 1)) rfl rfl rfl rfl rfl ex21v (KV.st _) rfl ?_
                  refine PW.alloc (BI 28) rfl rfl rfl rfl rfl bI ?_
                  refine PW.store (x := .tmp 99) (r := .kw (KI (0))) rfl rfl rfl rfl rfl rfl sh_I ?_
                  refine PW.assign rfl rfl rfl rfl rfl ?_
                  refine PW.nil ?_
                  refine SX.then ?_
                  refine SC.seq ?_
                  refine SC.region ?_
                  refine PW.load rfl rfl rfl rfl rfl rfl ?_
                  refine PW.load rfl rfl rfl rfl rfl rfl ?_
                  refine PW.move rfl rfl rfl rfl rfl ?_
                  refine PW.move rfl rfl rfl rfl rfl ?_
                  refine PW.call (r := .kw (K2 (KJ (0)) (KV (.int .i64 1)))) rfl rfl rfl rfl rfl rfl (K2.st (KJ.st _) (KV.st _)) rfl (k_jdep_bad (by omega)) ?_
                  refine PW.move rfl rfl rfl rfl rfl ?_
                  refine PW.ext (r := .kw (KJ (0))) rfl rfl rfl rfl rfl ex20 (KJ.st _) rfl ?_
                  refine PW.ext (r := .vl (.int .i64 1)) rfl rfl rfl rfl rfl ex21v (KV.st _) rfl ?_
                  refine PW.alloc (BI 31) rfl rfl rfl rfl rfl bJ ?_
                  refine PW.store (x := .tmp 107) (r := .kw (KJ (0))) rfl rfl rfl rfl rfl rfl sh_J ?_
                  refine PW.assign rfl rfl rfl rfl rfl ?_
                  refine PW.nil ?_
                  refine SX.then ?_
                  refine SC.seq ?_
                  refine SC.region ?_
                  refine PW.move rfl rfl rfl rfl rfl ?_
                  refine PW.move rfl rfl rfl rfl rfl ?_
                  refine PW.q2 (x := .tmp 109) (y := .tmp 110) (.bool true) rfl rfl rfl rfl rfl (fun ρ W h1 h2 => by go_simp) ?_
                  refine PW.move rfl rfl rfl rfl rfl ?_
                  refine PW.load rfl rfl rfl rfl rfl rfl ?_
                  refine PW.load rfl rfl rfl rfl rfl rfl ?_
                  refine PW.call (r := .vl (.bool true)) rfl rfl rfl rfl rfl rfl (KV.st _) rfl (k_is ((bd_sh0 x0)) (by first | decide | omega) rfl) ?_
                  refine PW.pick (t := true) rfl rfl rfl rfl rfl rfl ?_
                  refine PW.move rfl rfl rfl rfl rfl ?_
                  refine PW.move rfl rfl rfl rfl rfl ?_
                  refine PW.move rfl rfl rfl rfl rfl ?_
                  refine PW.q2 (x := .tmp 118) (y := .tmp 119) (.bool true) rfl rfl rfl rfl rfl (fun ρ W h1 h2 => by go_simp) ?_
                  refine PW.pick (t := true) rfl rfl rfl rfl rfl rfl ?_
                  refine PW.move rfl rfl rfl rfl rfl ?_
                  refine PW.load rfl rfl rfl rfl rfl rfl ?_
                  refine PW.load rfl rfl rfl rfl rfl rfl ?_
                  refine PW.call (r := .vl (.bool true)) rfl rfl rfl rfl rfl rfl (KV.st _) rfl (k_is (bd.zero (a := 1)) (by first | decide | omega) rfl) ?_
                  refine PW.pick (t := true) rfl rfl rfl rfl rfl rfl ?_
                  refine PW.move rfl rfl rfl rfl rfl ?_
                  refine PW.move rfl rfl rfl rfl rfl ?_
                  refine PW.move rfl rfl rfl rfl rfl ?_
                  refine PW.q2 (x := .tmp 128) (y := .tmp 129) (.bool true) rfl rfl rfl rfl rfl (fun ρ W h1 h2 => by go_simp) ?_
                  refine PW.pick (t := true) rfl rfl rfl rfl rfl rfl ?_
                  refine PW.move rfl rfl rfl rfl rfl ?_
                  refine PW.load rfl rfl rfl rfl rfl rfl ?_
                  refine PW.load rfl rfl rfl rfl rfl rfl ?_
                  refine PW.call (r := .vl (.bool true)) rfl rfl rfl rfl rfl rfl (KV.st _) rfl (k_is (bd.zero (a := 1)) (by first | decide | omega) rfl) ?_
                  refine PW.pick (t := true) rfl rfl rfl rfl rfl rfl ?_
                  refine PW.move rfl rfl rfl rfl rfl ?_
                  refine PW.call (r := .vl (.bool true)) rfl rfl rfl rfl rfl rfl (KV.st _) rfl (k_awake) ?_
                  refine PW.pick (t := true) rfl rfl rfl rfl rfl rfl ?_
                  refine PW.assign rfl rfl rfl rfl rfl ?_
                  refine PW.nil ?_
                  refine SX.then ?_
                  refine SC.ret ?_
                  exact SX.done (r := .vl (.bool true)) rfl rfl rfl
              · refine SC.region ?_
                refine PW.load rfl rfl rfl rfl rfl rfl ?_
                refine PW.move rfl rfl rfl rfl rfl ?_
                refine PW.call (r := .kw (K2 (KI (0)) (KV (.int .i64 14)))) rfl rfl rfl rfl rfl rfl (K2.st (KI.st _) (KV.st _)) rfl (k_Shift_1 X (by decide) hnr.1 hnr.2 (not_shOk x0 (by omega))) ?_
                refine PW.move rfl rfl rfl rfl rfl ?_
                refine PW.ext (r := .kw (KI (0))) rfl rfl rfl rfl rfl ex20 (KI.st _) rfl ?_
                refine PW.ext (r := .vl (.int .i64 14)) rfl rfl rfl rfl rfl ex21v (KV.st _) rfl ?_
                refine PW.alloc (BI 28) rfl rfl rfl rfl rfl bI ?_
                refine PW.store (x := .tmp 71) (r := .kw (KI (0))) rfl rfl rfl rfl rfl rfl sh_I ?_
                refine PW.assign rfl rfl rfl rfl rfl ?_
                refine PW.nil ?_
                refine SX.then ?_
                refine SC.seq ?_
                refine SC.region ?_
                refine PW.load rfl rfl rfl rfl rfl rfl ?_
                refine PW.move rfl rfl rfl rfl rfl ?_
                refine PW.call (r := .kw (K2 (KJ (0)) (KV (.int .i64 14)))) rfl rfl rfl rfl rfl rfl (K2.st (KJ.st _) (KV.st _)) rfl (k_jshift_1 X (by decide) hnr.2 (not_shOk x0 (by omega))) ?_
                refine PW.move rfl rfl rfl rfl rfl ?_
                refine PW.ext (r := .kw (KJ (0))) rfl rfl rfl rfl rfl ex20 (KJ.st _) rfl ?_
                refine PW.ext (r := .vl (.int .i64 14)) rfl rfl rfl rfl rfl ex21v (KV.st _) rfl ?_
                refine PW.alloc (BI 31) rfl rfl rfl rfl rfl bJ ?_
                refine PW.store (x := .tmp 77) (r := .kw (KJ (0))) rfl rfl rfl rfl rfl rfl sh_J ?_
                refine PW.assign rfl rfl rfl rfl rfl ?_
                refine PW.nil ?_
                refine SX.then ?_
                refine SC.seq ?_
                by_cases kq : 0 ≤ k ∧ k ≤ 65536 ∧ 0 ≤ q ∧ q ≤ 65536
                · obtain ⟨kn, rfl⟩ : ∃ m : Nat, k = m := ⟨k.toNat, by omega⟩
                  obtain ⟨qn, rfl⟩ : ∃ m : Nat, q = m := ⟨q.toNat, by omega⟩
                  refine SC.region ?_
                  refine PW.load rfl rfl rfl rfl rfl rfl ?_
                  refine PW.move rfl rfl rfl rfl rfl ?_
                  refine PW.move rfl rfl rfl rfl rfl ?_
                  refine PW.call (r := .kw (K2 (KI (fld x kn qn)) (KV (.int .i64 0)))) rfl rfl rfl rfl rfl rfl (K2.st (KI.st _) (KV.st _)) rfl (k_field X (by decide) (by omega) (by omega)) ?_
                  refine PW.move rfl rfl rfl rfl rfl ?_
                  refine PW.ext (r := .kw (KI (fld x kn qn))) rfl rfl rfl rfl rfl ex20 (KI.st _) rfl ?_
                  refine PW.ext (r := .vl (.int .i64 0)) rfl rfl rfl rfl rfl ex21v (KV.st _) rfl ?_
                  refine PW.alloc (BI 28) rfl rfl rfl rfl rfl bI ?_
                  refine PW.store (x := .tmp 84) (r := .kw (KI (fld x kn qn))) rfl rfl rfl rfl rfl rfl sh_I ?_
                  refine PW.assign rfl rfl rfl rfl rfl ?_
                  refine PW.nil ?_
                  refine SX.then ?_
                  refine SC.seq ?_
                  refine SC.region ?_
                  refine PW.load rfl rfl rfl rfl rfl rfl ?_
                  refine PW.move rfl rfl rfl rfl rfl ?_
                  refine PW.move rfl rfl rfl rfl rfl ?_
                  refine PW.call (r := .kw (K2 (KJ (fld x kn qn)) (KV (.int .i64 0)))) rfl rfl rfl rfl rfl rfl (K2.st (KJ.st _) (KV.st _)) rfl (k_jfield X (by decide) (by omega) (by omega)) ?_
                  refine PW.move rfl rfl rfl rfl rfl ?_
                  refine PW.ext (r := .kw (KJ (fld x kn qn))) rfl rfl rfl rfl rfl ex20 (KJ.st _) rfl ?_
                  refine PW.ext (r := .vl (.int .i64 0)) rfl rfl rfl rfl rfl ex21v (KV.st _) rfl ?_
                  refine PW.alloc (BI 31) rfl rfl rfl rfl rfl bJ ?_
                  refine PW.store (x := .tmp 91) (r := .kw (KJ (fld x kn qn))) rfl rfl rfl rfl rfl rfl sh_J ?_
                  refine PW.assign rfl rfl rfl rfl rfl ?_
                  refine PW.nil ?_
                  refine SX.then ?_
                  refine SC.seq ?_
                  refine SC.region ?_
                  refine PW.load rfl rfl rfl rfl rfl rfl ?_
                  refine PW.load rfl rfl rfl rfl rfl rfl ?_
                  refine PW.move rfl rfl rfl rfl rfl ?_
                  refine PW.move rfl rfl rfl rfl rfl ?_
                  refine PW.call (r := .kw (K2 (KI (dep x y kn qn)) (KV (.int .i64 0)))) rfl rfl rfl rfl rfl rfl (K2.st (KI.st _) (KV.st _)) rfl (k_dep X Y (by decide) (by decide) (by omega) (by omega)) ?_
                  refine PW.move rfl rfl rfl rfl rfl ?_
                  refine PW.ext (r := .kw (KI (dep x y kn qn))) rfl rfl rfl rfl rfl ex20 (KI.st _) rfl ?_
                  refine PW.ext (r := .vl (.int .i64 0)) rfl rfl rfl rfl rfl ex21v (KV.st _) rfl ?_
                  refine PW.alloc (BI 28) rfl rfl rfl rfl rfl bI ?_
                  refine PW.store (x := .tmp 99) (r := .kw (KI (dep x y kn qn))) rfl rfl rfl rfl rfl rfl sh_I ?_
                  refine PW.assign rfl rfl rfl rfl rfl ?_
                  refine PW.nil ?_
                  refine SX.then ?_
                  refine SC.seq ?_
                  refine SC.region ?_
                  refine PW.load rfl rfl rfl rfl rfl rfl ?_
                  refine PW.load rfl rfl rfl rfl rfl rfl ?_
                  refine PW.move rfl rfl rfl rfl rfl ?_
                  refine PW.move rfl rfl rfl rfl rfl ?_
                  refine PW.call (r := .kw (K2 (KJ (dep x y kn qn)) (KV (.int .i64 0)))) rfl rfl rfl rfl rfl rfl (K2.st (KJ.st _) (KV.st _)) rfl (k_jdep X Y (by decide) (by decide) (by omega) (by omega)) ?_
                  refine PW.move rfl rfl rfl rfl rfl ?_
                  refine PW.ext (r := .kw (KJ (dep x y kn qn))) rfl rfl rfl rfl rfl ex20 (KJ.st _) rfl ?_
                  refine PW.ext (r := .vl (.int .i64 0)) rfl rfl rfl rfl rfl ex21v (KV.st _) rfl ?_
                  refine PW.alloc (BI 31) rfl rfl rfl rfl rfl bJ ?_
                  refine PW.store (x := .tmp 107) (r := .kw (KJ (dep x y kn qn))) rfl rfl rfl rfl rfl rfl sh_J ?_
                  refine PW.assign rfl rfl rfl rfl rfl ?_
                  refine PW.nil ?_
                  refine SX.then ?_
                  refine SC.seq ?_
                  refine SC.region ?_
                  refine PW.move rfl rfl rfl rfl rfl ?_
                  refine PW.move rfl rfl rfl rfl rfl ?_
                  refine PW.q2 (x := .tmp 109) (y := .tmp 110) (.bool true) rfl rfl rfl rfl rfl (fun ρ W h1 h2 => by go_simp) ?_
                  refine PW.move rfl rfl rfl rfl rfl ?_
                  refine PW.load rfl rfl rfl rfl rfl rfl ?_
                  refine PW.load rfl rfl rfl rfl rfl rfl ?_
                  refine PW.call (r := .vl (.bool true)) rfl rfl rfl rfl rfl rfl (KV.st _) rfl (k_is (bd.zero (a := 1)) (by first | decide | omega) rfl) ?_
                  refine PW.pick (t := true) rfl rfl rfl rfl rfl rfl ?_
                  refine PW.move rfl rfl rfl rfl rfl ?_
                  refine PW.move rfl rfl rfl rfl rfl ?_
                  refine PW.move rfl rfl rfl rfl rfl ?_
                  refine PW.q2 (x := .tmp 118) (y := .tmp 119) (.bool true) rfl rfl rfl rfl rfl (fun ρ W h1 h2 => by go_simp) ?_
                  refine PW.pick (t := true) rfl rfl rfl rfl rfl rfl ?_
                  refine PW.move rfl rfl rfl rfl rfl ?_
                  refine PW.load rfl rfl rfl rfl rfl rfl ?_
                  refine PW.load rfl rfl rfl rfl rfl rfl ?_
                  refine PW.call (r := .vl (.bool true)) rfl rfl rfl rfl rfl rfl (KV.st _) rfl (k_is ((bd.fld X (k := kn) (p := qn) (m := 10) (by omega))) (by first | decide | omega) rfl) ?_
                  refine PW.pick (t := true) rfl rfl rfl rfl rfl rfl ?_
                  refine PW.move rfl rfl rfl rfl rfl ?_
                  refine PW.move rfl rfl rfl rfl rfl ?_
                  refine PW.move rfl rfl rfl rfl rfl ?_
                  refine PW.q2 (x := .tmp 128) (y := .tmp 129) (.bool true) rfl rfl rfl rfl rfl (fun ρ W h1 h2 => by go_simp) ?_
                  refine PW.pick (t := true) rfl rfl rfl rfl rfl rfl ?_
                  refine PW.move rfl rfl rfl rfl rfl ?_
                  refine PW.load rfl rfl rfl rfl rfl rfl ?_
                  refine PW.load rfl rfl rfl rfl rfl rfl ?_
                  refine PW.call (r := .vl (.bool true)) rfl rfl rfl rfl rfl rfl (KV.st _) rfl (k_is ((bd.dep X Y (k := kn) (p := qn) (m := 10) (q := 10) (by omega) (by omega))) (by first | decide | omega) rfl) ?_
                  refine PW.pick (t := true) rfl rfl rfl rfl rfl rfl ?_
                  refine PW.move rfl rfl rfl rfl rfl ?_
                  refine PW.call (r := .vl (.bool true)) rfl rfl rfl rfl rfl rfl (KV.st _) rfl (k_awake) ?_
                  refine PW.pick (t := true) rfl rfl rfl rfl rfl rfl ?_
                  refine PW.assign rfl rfl rfl rfl rfl ?_
                  refine PW.nil ?_
                  refine SX.then ?_
                  refine SC.ret ?_
                  exact SX.done (r := .vl (.bool true)) rfl rfl rfl
                · refine SC.region ?_
                  refine PW.load rfl rfl rfl rfl rfl rfl ?_
                  refine PW.move rfl rfl rfl rfl rfl ?_
                  refine PW.move rfl rfl rfl rfl rfl ?_
                  refine PW.call (r := .kw (K2 (KI (0)) (KV (.int .i64 1)))) rfl rfl rfl rfl rfl rfl (K2.st (KI.st _) (KV.st _)) rfl (k_field_bad kq) ?_
                  refine PW.move rfl rfl rfl rfl rfl ?_
                  refine PW.ext (r := .kw (KI (0))) rfl rfl rfl rfl rfl ex20 (KI.st _) rfl ?_
                  refine PW.ext (r := .vl (.int .i64 1)) rfl rfl rfl rfl rfl ex21v (KV.st _) rfl ?_
                  refine PW.alloc (BI 28) rfl rfl rfl rfl rfl bI ?_
                  refine PW.store (x := .tmp 84) (r := .kw (KI (0))) rfl rfl rfl rfl rfl rfl sh_I ?_
                  refine PW.assign rfl rfl rfl rfl rfl ?_
                  refine PW.nil ?_
                  refine SX.then ?_
                  refine SC.seq ?_
                  refine SC.region ?_
                  refine PW.load rfl rfl rfl rfl rfl rfl ?_
                  refine PW.move rfl rfl rfl rfl rfl ?_
                  refine PW.move rfl rfl rfl rfl rfl ?_
                  refine PW.call (r := .kw (K2 (KJ (0)) (KV (.int .i64 1)))) rfl rfl rfl rfl rfl rfl (K2.st (KJ.st _) (KV.st _)) rfl (k_jfield_bad (by omega)) ?_
                  refine PW.move rfl rfl rfl rfl rfl ?_
                  refine PW.ext (r := .kw (KJ (0))) rfl rfl rfl rfl rfl ex20 (KJ.st _) rfl ?_
                  refine PW.ext (r := .vl (.int .i64 1)) rfl rfl rfl rfl rfl ex21v (KV.st _) rfl ?_
                  refine PW.alloc (BI 31) rfl rfl rfl rfl rfl bJ ?_
                  refine PW.store (x := .tmp 91) (r := .kw (KJ (0))) rfl rfl rfl rfl rfl rfl sh_J ?_
                  refine PW.assign rfl rfl rfl rfl rfl ?_
                  refine PW.nil ?_
                  refine SX.then ?_
                  refine SC.seq ?_
                  refine SC.region ?_
                  refine PW.load rfl rfl rfl rfl rfl rfl ?_
                  refine PW.load rfl rfl rfl rfl rfl rfl ?_
                  refine PW.move rfl rfl rfl rfl rfl ?_
                  refine PW.move rfl rfl rfl rfl rfl ?_
                  refine PW.call (r := .kw (K2 (KI (0)) (KV (.int .i64 1)))) rfl rfl rfl rfl rfl rfl (K2.st (KI.st _) (KV.st _)) rfl (k_dep_bad kq) ?_
                  refine PW.move rfl rfl rfl rfl rfl ?_
                  refine PW.ext (r := .kw (KI (0))) rfl rfl rfl rfl rfl ex20 (KI.st _) rfl ?_
                  refine PW.ext (r := .vl (.int .i64 1)) rfl rfl rfl rfl rfl ex21v (KV.st _) rfl ?_
                  refine PW.alloc (BI 28) rfl rfl rfl rfl rfl bI ?_
                  refine PW.store (x := .tmp 99) (r := .kw (KI (0))) rfl rfl rfl rfl rfl rfl sh_I ?_
                  refine PW.assign rfl rfl rfl rfl rfl ?_
                  refine PW.nil ?_
                  refine SX.then ?_
                  refine SC.seq ?_
                  refine SC.region ?_
                  refine PW.load rfl rfl rfl rfl rfl rfl ?_
                  refine PW.load rfl rfl rfl rfl rfl rfl ?_
                  refine PW.move rfl rfl rfl rfl rfl ?_
                  refine PW.move rfl rfl rfl rfl rfl ?_
                  refine PW.call (r := .kw (K2 (KJ (0)) (KV (.int .i64 1)))) rfl rfl rfl rfl rfl rfl (K2.st (KJ.st _) (KV.st _)) rfl (k_jdep_bad (by omega)) ?_
                  refine PW.move rfl rfl rfl rfl rfl ?_
                  refine PW.ext (r := .kw (KJ (0))) rfl rfl rfl rfl rfl ex20 (KJ.st _) rfl ?_
                  refine PW.ext (r := .vl (.int .i64 1)) rfl rfl rfl rfl rfl ex21v (KV.st _) rfl ?_
                  refine PW.alloc (BI 31) rfl rfl rfl rfl rfl bJ ?_
                  refine PW.store (x := .tmp 107) (r := .kw (KJ (0))) rfl rfl rfl rfl rfl rfl sh_J ?_
                  refine PW.assign rfl rfl rfl rfl rfl ?_
                  refine PW.nil ?_
                  refine SX.then ?_
                  refine SC.seq ?_
                  refine SC.region ?_
                  refine PW.move rfl rfl rfl rfl rfl ?_
                  refine PW.move rfl rfl rfl rfl rfl ?_
                  refine PW.q2 (x := .tmp 109) (y := .tmp 110) (.bool true) rfl rfl rfl rfl rfl (fun ρ W h1 h2 => by go_simp) ?_
                  refine PW.move rfl rfl rfl rfl rfl ?_
                  refine PW.load rfl rfl rfl rfl rfl rfl ?_
                  refine PW.load rfl rfl rfl rfl rfl rfl ?_
                  refine PW.call (r := .vl (.bool true)) rfl rfl rfl rfl rfl rfl (KV.st _) rfl (k_is (bd.zero (a := 1)) (by first | decide | omega) rfl) ?_
                  refine PW.pick (t := true) rfl rfl rfl rfl rfl rfl ?_
                  refine PW.move rfl rfl rfl rfl rfl ?_
                  refine PW.move rfl rfl rfl rfl rfl ?_
                  refine PW.move rfl rfl rfl rfl rfl ?_
                  refine PW.q2 (x := .tmp 118) (y := .tmp 119) (.bool true) rfl rfl rfl rfl rfl (fun ρ W h1 h2 => by go_simp) ?_
                  refine PW.pick (t := true) rfl rfl rfl rfl rfl rfl ?_
                  refine PW.move rfl rfl rfl rfl rfl ?_
                  refine PW.load rfl rfl rfl rfl rfl rfl ?_
                  refine PW.load rfl rfl rfl rfl rfl rfl ?_
                  refine PW.call (r := .vl (.bool true)) rfl rfl rfl rfl rfl rfl (KV.st _) rfl (k_is (bd.zero (a := 1)) (by first | decide | omega) rfl) ?_
                  refine PW.pick (t := true) rfl rfl rfl rfl rfl rfl ?_
                  refine PW.move rfl rfl rfl rfl rfl ?_
                  refine PW.move rfl rfl rfl rfl rfl ?_
                  refine PW.move rfl rfl rfl rfl rfl ?_
                  refine PW.q2 (x := .tmp 128) (y := .tmp 129) (.bool true) rfl rfl rfl rfl rfl (fun ρ W h1 h2 => by go_simp) ?_
                  refine PW.pick (t := true) rfl rfl rfl rfl rfl rfl ?_
                  refine PW.move rfl rfl rfl rfl rfl ?_
                  refine PW.load rfl rfl rfl rfl rfl rfl ?_
                  refine PW.load rfl rfl rfl rfl rfl rfl ?_
                  refine PW.call (r := .vl (.bool true)) rfl rfl rfl rfl rfl rfl (KV.st _) rfl (k_is (bd.zero (a := 1)) (by first | decide | omega) rfl) ?_
                  refine PW.pick (t := true) rfl rfl rfl rfl rfl rfl ?_
                  refine PW.move rfl rfl rfl rfl rfl ?_
                  refine PW.call (r := .vl (.bool true)) rfl rfl rfl rfl rfl rfl (KV.st _) rfl (k_awake) ?_
                  refine PW.pick (t := true) rfl rfl rfl rfl rfl rfl ?_
                  refine PW.assign rfl rfl rfl rfl rfl ?_
                  refine PW.nil ?_
                  refine SX.then ?_
                  refine SC.ret ?_
                  exact SX.done (r := .vl (.bool true)) rfl rfl rfl
          · refine SC.region ?_
            refine PW.loadV rfl rfl rfl rfl rfl rfl ?_
            refine PW.loadV rfl rfl rfl rfl rfl rfl ?_
            refine PW.short 8 [(n1, A1, l1, c1), (n2, A2, l2, c2)] _ rfl rfl rfl (fun a W hf => r_bN2 (hf.vl (s := 27) rfl) (hf.vl (s := 28) rfl)) (fun W => ns_lit2 W) (by simp; exact ⟨In.lim h1, In.lim h2⟩) rfl rfl hs rfl rfl rfl rfl rfl rfl ?_
            refine PW.q1 (x := .tmp 30) (.bool false) rfl rfl rfl rfl (fun ρ W h1 => by go_simp) ?_
            refine PW.move rfl rfl rfl rfl rfl ?_
            refine PW.move rfl rfl rfl rfl rfl ?_
            refine PW.q2 (x := .tmp 33) (y := .const (.int .i64 300)) (.bool true) rfl rfl rfl rfl rfl (fun ρ W h1 h2 => by exact r_gt h1 h2 (decide_eq_true n3)) ?_
            refine PW.move rfl rfl rfl rfl rfl ?_
            refine PW.move rfl rfl rfl rfl rfl ?_
            refine PW.q2 (x := .tmp 36) (y := .const (.int .i64 65536)) (.bool false) rfl rfl rfl rfl rfl (fun ρ W h1 h2 => by exact r_le h1 h2 (decide_eq_false n6)) ?_
            refine PW.pick (t := true) rfl rfl rfl rfl rfl rfl ?_
            refine PW.pick (t := false) rfl rfl rfl rfl rfl rfl ?_
            refine PW.move rfl rfl rfl rfl rfl ?_
            refine PW.move rfl rfl rfl rfl rfl ?_
            refine PW.q2 (x := .tmp 41) (y := .const (.int .i64 300)) (.bool false) rfl rfl rfl rfl rfl (fun ρ W h1 h2 => by exact r_gt h1 h2 (decide_eq_false k3)) ?_
            refine PW.move rfl rfl rfl rfl rfl ?_
            refine PW.skip rfl rfl rfl ?_
            refine PW.skip rfl rfl rfl ?_
            refine PW.pick (t := false) rfl rfl rfl rfl rfl rfl ?_
            refine PW.pick (t := false) rfl rfl rfl rfl rfl rfl ?_
            refine PW.move rfl rfl rfl rfl rfl ?_
            refine PW.move rfl rfl rfl rfl rfl ?_
            refine PW.q2 (x := .tmp 49) (y := .const (.int .i64 300)) (.bool false) rfl rfl rfl rfl rfl (fun ρ W h1 h2 => by exact r_gt h1 h2 (decide_eq_false q3)) ?_
            refine PW.move rfl rfl rfl rfl rfl ?_
            refine PW.skip rfl rfl rfl ?_
            refine PW.skip rfl rfl rfl ?_
            refine PW.pick (t := false) rfl rfl rfl rfl rfl rfl ?_
            refine PW.pick (t := false) rfl rfl rfl rfl rfl rfl ?_
            refine PW.nil ?_
            refine SX.then ?_
            refine SC.cond (t := false) rfl ?_
            refine SC.skip ?_
            refine SX.then ?_
            refine SC.seq ?_
            refine SC.region ?_
            refine PW.loadV rfl rfl rfl rfl rfl rfl ?_
            refine PW.callG (r := .kw (K2 (KI (x)) (KJ (x)))) ce_of rfl rfl rfl rfl rfl (K2.st (KI.st _) (KJ.st _)) rfl (fun a W hf => by have e1 := hf.vl (s := 58) rfl; show Calls Try.prog _ #[a.tmps.getD 58 undef] W _; rw [e1]; exact of_in h1 hf.be (by omega) hz1) ?_
            refine PW.move rfl rfl rfl rfl rfl ?_
            refine PW.ext (r := .kw (KI (x))) rfl rfl rfl rfl rfl ex20 (KI.st _) rfl ?_
            refine PW.ext (r := .kw (KJ (x))) rfl rfl rfl rfl rfl ex21 (KJ.st _) rfl ?_
            refine PW.alloc (BI 28) rfl rfl rfl rfl rfl bI ?_
            refine PW.alloc (BI 31) rfl rfl rfl rfl rfl bJ ?_
            refine PW.store (x := .tmp 60) (r := .kw (KI (x))) rfl rfl rfl rfl rfl rfl sh_I ?_
            refine PW.store (x := .tmp 61) (r := .kw (KJ (x))) rfl rfl rfl rfl rfl rfl sh_J ?_
            refine PW.nil ?_
            refine SX.then ?_
            refine SC.seq ?_
            refine SC.region ?_
            refine PW.loadV rfl rfl rfl rfl rfl rfl ?_
            refine PW.callG (r := .kw (K2 (KI (y)) (KJ (y)))) ce_of rfl rfl rfl rfl rfl (K2.st (KI.st _) (KJ.st _)) rfl (fun a W hf => by have e1 := hf.vl (s := 63) rfl; show Calls Try.prog _ #[a.tmps.getD 63 undef] W _; rw [e1]; exact of_in h2 hf.be (by omega) hz2) ?_
            refine PW.move rfl rfl rfl rfl rfl ?_
            refine PW.ext (r := .kw (KI (y))) rfl rfl rfl rfl rfl ex20 (KI.st _) rfl ?_
            refine PW.ext (r := .kw (KJ (y))) rfl rfl rfl rfl rfl ex21 (KJ.st _) rfl ?_
            refine PW.alloc (BI 28) rfl rfl rfl rfl rfl bI ?_
            refine PW.alloc (BI 31) rfl rfl rfl rfl rfl bJ ?_
            refine PW.store (x := .tmp 65) (r := .kw (KI (y))) rfl rfl rfl rfl rfl rfl sh_I ?_
            refine PW.store (x := .tmp 66) (r := .kw (KJ (y))) rfl rfl rfl rfl rfl rfl sh_J ?_
            refine PW.nil ?_
            refine SX.then ?_
            refine SC.seq ?_
            by_cases x0 : x = 0
            · refine SC.region ?_
              refine PW.load rfl rfl rfl rfl rfl rfl ?_
              refine PW.move rfl rfl rfl rfl rfl ?_
              refine PW.call (r := .kw (K2 (KI (sh x n)) (KV (.int .i64 0)))) rfl rfl rfl rfl rfl rfl (K2.st (KI.st _) (KV.st _)) rfl (k_Shift X (by decide) hnr.1 hnr.2 (.inr (.inl x0))) ?_
              refine PW.move rfl rfl rfl rfl rfl ?_
              refine PW.ext (r := .kw (KI (sh x n))) rfl rfl rfl rfl rfl ex20 (KI.st _) rfl ?_
              refine PW.ext (r := .vl (.int .i64 0)) rfl rfl rfl rfl rfl ex21v (KV.st _) rfl ?_
              refine PW.alloc (BI 28) rfl rfl rfl rfl rfl bI ?_
              refine PW.store (x := .tmp 71) (r := .kw (KI (sh x n))) rfl rfl rfl rfl rfl rfl sh_I ?_
              refine PW.assign rfl rfl rfl rfl rfl ?_
              refine PW.nil ?_
              refine SX.then ?_
              refine SC.seq ?_
              refine SC.region ?_
              refine PW.load rfl rfl rfl rfl rfl rfl ?_
              refine PW.move rfl rfl rfl rfl rfl ?_
              refine PW.call (r := .kw (K2 (KJ (sh x n)) (KV (.int .i64 0)))) rfl rfl rfl rfl rfl rfl (K2.st (KJ.st _) (KV.st _)) rfl (k_jshift X (by decide) hnr.1 hnr.2 (.inr (.inl x0))) ?_
              refine PW.move rfl rfl rfl rfl rfl ?_
              refine PW.ext (r := .kw (KJ (sh x n))) rfl rfl rfl rfl rfl ex20 (KJ.st _) rfl ?_
              refine PW.ext (r := .vl (.int .i64 0)) rfl rfl rfl rfl rfl ex21v (KV.st _) rfl ?_
              refine PW.alloc (BI 31) rfl rfl rfl rfl rfl bJ ?_
              refine PW.store (x := .tmp 77) (r := .kw (KJ (sh x n))) rfl rfl rfl rfl rfl rfl sh_J ?_
              refine PW.assign rfl rfl rfl rfl rfl ?_
              refine PW.nil ?_
              refine SX.then ?_
              refine SC.seq ?_
              by_cases kq : 0 ≤ k ∧ k ≤ 65536 ∧ 0 ≤ q ∧ q ≤ 65536
              · obtain ⟨kn, rfl⟩ : ∃ m : Nat, k = m := ⟨k.toNat, by omega⟩
                obtain ⟨qn, rfl⟩ : ∃ m : Nat, q = m := ⟨q.toNat, by omega⟩
                refine SC.region ?_
                refine PW.load rfl rfl rfl rfl rfl rfl ?_
                refine PW.move rfl rfl rfl rfl rfl ?_
                refine PW.move rfl rfl rfl rfl rfl ?_
                refine PW.call (r := .kw (K2 (KI (fld x kn qn)) (KV (.int .i64 0)))) rfl rfl rfl rfl rfl rfl (K2.st (KI.st _) (KV.st _)) rfl (k_field X (by decide) (by omega) (by omega)) ?_
                refine PW.move rfl rfl rfl rfl rfl ?_
                refine PW.ext (r := .kw (KI (fld x kn qn))) rfl rfl rfl rfl rfl ex20 (KI.st _) rfl ?_
                refine PW.ext (r := .vl (.int .i64 0)) rfl rfl rfl rfl rfl ex21v (KV.st _) rfl ?_
                refine PW.alloc (BI 28) rfl rfl rfl rfl rfl bI ?_
                refine PW.store (x := .tmp 84) (r := .kw (KI (fld x kn qn))) rfl rfl rfl rfl rfl rfl sh_I ?_
                refine PW.assign rfl rfl rfl rfl rfl ?_
                refine PW.nil ?_
                refine SX.then ?_
                refine SC.seq ?_
                refine SC.region ?_
                refine PW.load rfl rfl rfl rfl rfl rfl ?_
                refine PW.move rfl rfl rfl rfl rfl ?_
                refine PW.move rfl rfl rfl rfl rfl ?_
                refine PW.call (r := .kw (K2 (KJ (fld x kn qn)) (KV (.int .i64 0)))) rfl rfl rfl rfl rfl rfl (K2.st (KJ.st _) (KV.st _)) rfl (k_jfield X (by decide) (by omega) (by omega)) ?_
                refine PW.move rfl rfl rfl rfl rfl ?_
                refine PW.ext (r := .kw (KJ (fld x kn qn))) rfl rfl rfl rfl rfl ex20 (KJ.st _) rfl ?_
                refine PW.ext (r := .vl (.int .i64 0)) rfl rfl rfl rfl rfl ex21v (KV.st _) rfl ?_
                refine PW.alloc (BI 31) rfl rfl rfl rfl rfl bJ ?_
                refine PW.store (x := .tmp 91) (r := .kw (KJ (fld x kn qn))) rfl rfl rfl rfl rfl rfl sh_J ?_
                refine PW.assign rfl rfl rfl rfl rfl ?_
                refine PW.nil ?_
                refine SX.then ?_
                refine SC.seq ?_
                refine SC.region ?_
                refine PW.load rfl rfl rfl rfl rfl rfl ?_
                refine PW.load rfl rfl rfl rfl rfl rfl ?_
                refine PW.move rfl rfl rfl rfl rfl ?_
                refine PW.move rfl rfl rfl rfl rfl ?_
                refine PW.call (r := .kw (K2 (KI (dep x y kn qn)) (KV (.int .i64 0)))) rfl rfl rfl rfl rfl rfl (K2.st (KI.st _) (KV.st _)) rfl (k_dep X Y (by decide) (by decide) (by omega) (by omega)) ?_
                refine PW.move rfl rfl rfl rfl rfl ?_
                refine PW.ext (r := .kw (KI (dep x y kn qn))) rfl rfl rfl rfl rfl ex20 (KI.st _) rfl ?_
                refine PW.ext (r := .vl (.int .i64 0)) rfl rfl rfl rfl rfl ex21v (KV.st _) rfl ?_
                refine PW.alloc (BI 28) rfl rfl rfl rfl rfl bI ?_
                refine PW.store (x := .tmp 99) (r := .kw (KI (dep x y kn qn))) rfl rfl rfl rfl rfl rfl sh_I ?_
                refine PW.assign rfl rfl rfl rfl rfl ?_
                refine PW.nil ?_
                refine SX.then ?_
                refine SC.seq ?_
                refine SC.region ?_
                refine PW.load rfl rfl rfl rfl rfl rfl ?_
                refine PW.load rfl rfl rfl rfl rfl rfl ?_
                refine PW.move rfl rfl rfl rfl rfl ?_
                refine PW.move rfl rfl rfl rfl rfl ?_
                refine PW.call (r := .kw (K2 (KJ (dep x y kn qn)) (KV (.int .i64 0)))) rfl rfl rfl rfl rfl rfl (K2.st (KJ.st _) (KV.st _)) rfl (k_jdep X Y (by decide) (by decide) (by omega) (by omega)) ?_
                refine PW.move rfl rfl rfl rfl rfl ?_
                refine PW.ext (r := .kw (KJ (dep x y kn qn))) rfl rfl rfl rfl rfl ex20 (KJ.st _) rfl ?_
                refine PW.ext (r := .vl (.int .i64 0)) rfl rfl rfl rfl rfl ex21v (KV.st _) rfl ?_
                refine PW.alloc (BI 31) rfl rfl rfl rfl rfl bJ ?_
                refine PW.store (x := .tmp 107) (r := .kw (KJ (dep x y kn qn))) rfl rfl rfl rfl rfl rfl sh_J ?_
                refine PW.assign rfl rfl rfl rfl rfl ?_
                refine PW.nil ?_
                refine SX.then ?_
                refine SC.seq ?_
                refine SC.region ?_
                refine PW.move rfl rfl rfl rfl rfl ?_
                refine PW.move rfl rfl rfl rfl rfl ?_
                refine PW.q2 (x := .tmp 109) (y := .tmp 110) (.bool true) rfl rfl rfl rfl rfl (fun ρ W h1 h2 => by go_simp) ?_
                refine PW.move rfl rfl rfl rfl rfl ?_
                refine PW.load rfl rfl rfl rfl rfl rfl ?_
                refine PW.load rfl rfl rfl rfl rfl rfl ?_
                refine PW.call (r := .vl (.bool true)) rfl rfl rfl rfl rfl rfl (KV.st _) rfl (k_is ((bd_sh0 x0)) (by first | decide | omega) rfl) ?_
                refine PW.pick (t := true) rfl rfl rfl rfl rfl rfl ?_
                refine PW.move rfl rfl rfl rfl rfl ?_
                refine PW.move rfl rfl rfl rfl rfl ?_
                refine PW.move rfl rfl rfl rfl rfl ?_
                refine PW.q2 (x := .tmp 118) (y := .tmp 119) (.bool true) rfl rfl rfl rfl rfl (fun ρ W h1 h2 => by go_simp) ?_
                refine PW.pick (t := true) rfl rfl rfl rfl rfl rfl ?_
                refine PW.move rfl rfl rfl rfl rfl ?_
                refine PW.load rfl rfl rfl rfl rfl rfl ?_
                refine PW.load rfl rfl rfl rfl rfl rfl ?_
                refine PW.call (r := .vl (.bool true)) rfl rfl rfl rfl rfl rfl (KV.st _) rfl (k_is ((bd.fld X (k := kn) (p := qn) (m := 10) (by omega))) (by first | decide | omega) rfl) ?_
                refine PW.pick (t := true) rfl rfl rfl rfl rfl rfl ?_
                refine PW.move rfl rfl rfl rfl rfl ?_
                refine PW.move rfl rfl rfl rfl rfl ?_
                refine PW.move rfl rfl rfl rfl rfl ?_
                refine PW.q2 (x := .tmp 128) (y := .tmp 129) (.bool true) rfl rfl rfl rfl rfl (fun ρ W h1 h2 => by go_simp) ?_
                refine PW.pick (t := true) rfl rfl rfl rfl rfl rfl ?_
                refine PW.move rfl rfl rfl rfl rfl ?_
                refine PW.load rfl rfl rfl rfl rfl rfl ?_
                refine PW.load rfl rfl rfl rfl rfl rfl ?_
                refine PW.call (r := .vl (.bool true)) rfl rfl rfl rfl rfl rfl (KV.st _) rfl (k_is ((bd.dep X Y (k := kn) (p := qn) (m := 10) (q := 10) (by omega) (by omega))) (by first | decide | omega) rfl) ?_
                refine PW.pick (t := true) rfl rfl rfl rfl rfl rfl ?_
                refine PW.move rfl rfl rfl rfl rfl ?_
                refine PW.call (r := .vl (.bool true)) rfl rfl rfl rfl rfl rfl (KV.st _) rfl (k_awake) ?_
                refine PW.pick (t := true) rfl rfl rfl rfl rfl rfl ?_
                refine PW.assign rfl rfl rfl rfl rfl ?_
                refine PW.nil ?_
                refine SX.then ?_
                refine SC.ret ?_
                exact SX.done (r := .vl (.bool true)) rfl rfl rfl
              · refine SC.region ?_
                refine PW.load rfl rfl rfl rfl rfl rfl ?_
                refine PW.move rfl rfl rfl rfl rfl ?_
                refine PW.move rfl rfl rfl rfl rfl ?_
                refine PW.call (r := .kw (K2 (KI (0)) (KV (.int .i64 1)))) rfl rfl rfl rfl rfl rfl (K2.st (KI.st _) (KV.st _)) rfl (k_field_bad kq) ?_
                refine PW.move rfl rfl rfl rfl rfl ?_
                refine PW.ext (r := .kw (KI (0))) rfl rfl rfl rfl rfl ex20 (KI.st _) rfl ?_
                refine PW.ext (r := .vl (.int .i64 1)) rfl rfl rfl rfl rfl ex21v (KV.st _) rfl ?_
                refine PW.alloc (BI 28) rfl rfl rfl rfl rfl bI ?_
                refine PW.store (x := .tmp 84) (r := .kw (KI (0))) rfl rfl rfl rfl rfl rfl sh_I ?_
                refine PW.assign rfl rfl rfl rfl rfl ?_
                refine PW.nil ?_
                refine SX.then ?_
                refine SC.seq ?_
                refine SC.region ?_
                refine PW.load rfl rfl rfl rfl rfl rfl ?_
                refine PW.move rfl rfl rfl rfl rfl ?_
                refine PW.move rfl rfl rfl rfl rfl ?_
                refine PW.call (r := .kw (K2 (KJ (0)) (KV (.int .i64 1)))) rfl rfl rfl rfl rfl rfl (K2.st (KJ.st _) (KV.st _)) rfl (k_jfield_bad (by omega)) ?_
                refine PW.move rfl rfl rfl rfl rfl ?_
                refine PW.ext (r := .kw (KJ (0))) rfl rfl rfl rfl rfl ex20 (KJ.st _) rfl ?_
                refine PW.ext (r := .vl (.int .i64 1)) rfl rfl rfl rfl rfl ex21v (KV.st _) rfl ?_
                refine PW.alloc (BI 31) rfl rfl rfl rfl rfl bJ ?_
                refine PW.store (x := .tmp 91) (r := .kw (KJ (0))) rfl rfl rfl rfl rfl rfl sh_J ?_
                refine PW.assign rfl rfl rfl rfl rfl ?_
                refine PW.nil ?_
                refine SX.then ?_
                refine SC.seq ?_
                refine SC.region ?_
                refine PW.load rfl rfl rfl rfl rfl rfl ?_
                refine PW.load rfl rfl rfl rfl rfl rfl ?_
                refine PW.move rfl rfl rfl rfl rfl ?_
                refine PW.move rfl rfl rfl rfl rfl ?_
                refine PW.call (r := .kw (K2 (KI (0)) (KV (.int .i64 1)))) rfl rfl rfl rfl rfl rfl (K2.st (KI.st _) (KV.st _)) rfl (k_dep_bad kq) ?_
                refine PW.move rfl rfl rfl rfl rfl ?_
                refine PW.ext (r := .kw (KI (0))) rfl rfl rfl rfl rfl ex20 (KI.st _) rfl ?_
                refine PW.ext (r := .vl (.int .i64 1)) rfl rfl rfl rfl rfl ex21v (KV.st _) rfl ?_
                refine PW.alloc (BI 28) rfl rfl rfl rfl rfl bI ?_
                refine PW.store (x := .tmp 99) (r := .kw (KI (0))) rfl rfl rfl rfl rfl rfl sh_I ?_
                refine PW.assign rfl rfl rfl rfl rfl ?_
                refine PW.nil ?_
                refine SX.then ?_
                refine SC.seq ?_
                refine SC.region ?_
                refine PW.load rfl rfl rfl rfl rfl rfl ?_
                refine PW.load rfl rfl rfl rfl rfl rfl ?_
                refine PW.move rfl rfl rfl rfl rfl ?_
                refine PW.move rfl rfl rfl rfl rfl ?_
                refine PW.call (r := .kw (K2 (KJ (0)) (KV (.int .i64 1)))) rfl rfl rfl rfl rfl rfl (K2.st (KJ.st _) (KV.st _)) rfl (k_jdep_bad (by omega)) ?_
                refine PW.move rfl rfl rfl rfl rfl ?_
                refine PW.ext (r := .kw (KJ (0))) rfl rfl rfl rfl rfl ex20 (KJ.st _) rfl ?_
                refine PW.ext (r := .vl (.int .i64 1)) rfl rfl rfl rfl rfl ex21v (KV.st _) rfl ?_
                refine PW.alloc (BI 31) rfl rfl rfl rfl rfl bJ ?_
                refine PW.store (x := .tmp 107) (r := .kw (KJ (0))) rfl rfl rfl rfl rfl rfl sh_J ?_
                refine PW.assign rfl rfl rfl rfl rfl ?_
                refine PW.nil ?_
                refine SX.then ?_
                refine SC.seq ?_
                refine SC.region ?_
                refine PW.move rfl rfl rfl rfl rfl ?_
                refine PW.move rfl rfl rfl rfl rfl ?_
                refine PW.q2 (x := .tmp 109) (y := .tmp 110) (.bool true) rfl rfl rfl rfl rfl (fun ρ W h1 h2 => by go_simp) ?_
                refine PW.move rfl rfl rfl rfl rfl ?_
                refine PW.load rfl rfl rfl rfl rfl rfl ?_
                refine PW.load rfl rfl rfl rfl rfl rfl ?_
                refine PW.call (r := .vl (.bool true)) rfl rfl rfl rfl rfl rfl (KV.st _) rfl (k_is ((bd_sh0 x0)) (by first | decide | omega) rfl) ?_
                refine PW.pick (t := true) rfl rfl rfl rfl rfl rfl ?_
                refine PW.move rfl rfl rfl rfl rfl ?_
                refine PW.move rfl rfl rfl rfl rfl ?_
                refine PW.move rfl rfl rfl rfl rfl ?_
                refine PW.q2 (x := .tmp 118) (y := .tmp 119) (.bool true) rfl rfl rfl rfl rfl (fun ρ W h1 h2 => by go_simp) ?_
                refine PW.pick (t := true) rfl rfl rfl rfl rfl rfl ?_
                refine PW.move rfl rfl rfl rfl rfl ?_
                refine PW.load rfl rfl rfl rfl rfl rfl ?_
                refine PW.load rfl rfl rfl rfl rfl rfl ?_
                refine PW.call (r := .vl (.bool true)) rfl rfl rfl rfl rfl rfl (KV.st _) rfl (k_is (bd.zero (a := 1)) (by first | decide | omega) rfl) ?_
                refine PW.pick (t := true) rfl rfl rfl rfl rfl rfl ?_
                refine PW.move rfl rfl rfl rfl rfl ?_
                refine PW.move rfl rfl rfl rfl rfl ?_
                refine PW.move rfl rfl rfl rfl rfl ?_
                refine PW.q2 (x := .tmp 128) (y := .tmp 129) (.bool true) rfl rfl rfl rfl rfl (fun ρ W h1 h2 => by go_simp) ?_
                refine PW.pick (t := true) rfl rfl rfl rfl rfl rfl ?_
                refine PW.move rfl rfl rfl rfl rfl ?_
                refine PW.load rfl rfl rfl rfl rfl rfl ?_
                refine PW.load rfl rfl rfl rfl rfl rfl ?_
                refine PW.call (r := .vl (.bool true)) rfl rfl rfl rfl rfl rfl (KV.st _) rfl (k_is (bd.zero (a := 1)) (by first | decide | omega) rfl) ?_
                refine PW.pick (t := true) rfl rfl rfl rfl rfl rfl ?_
                refine PW.move rfl rfl rfl rfl rfl ?_
                refine PW.call (r := .vl (.bool true)) rfl rfl rfl rfl rfl rfl (KV.st _) rfl (k_awake) ?_
                refine PW.pick (t := true) rfl rfl rfl rfl rfl rfl ?_
                refine PW.assign rfl rfl rfl rfl rfl ?_
                refine PW.nil ?_
                refine SX.then ?_
                refine SC.ret ?_
                exact SX.done (r := .vl (.bool true)) rfl rfl rfl
            · refine SC.region ?_
              refine PW.load rfl rfl rfl rfl rfl rfl ?_
              refine PW.move rfl rfl rfl rfl rfl ?_
              refine PW.call (r := .kw (K2 (KI (0)) (KV (.int .i64 14)))) rfl rfl rfl rfl rfl rfl (K2.st (KI.st _) (KV.st _)) rfl (k_Shift_1 X (by decide) hnr.1 hnr.2 (not_shOk x0 (by omega))) ?_
              refine PW.move rfl rfl rfl rfl rfl ?_
              refine PW.ext (r := .kw (KI (0))) rfl rfl rfl rfl rfl ex20 (KI.st _) rfl ?_
              refine PW.ext (r := .vl (.int .i64 14)) rfl rfl rfl rfl rfl ex21v (KV.st _) rfl ?_
              refine PW.alloc (BI 28) rfl rfl rfl rfl rfl bI ?_
              refine PW.store (x := .tmp 71) (r := .kw (KI (0))) rfl rfl rfl rfl rfl rfl sh_I ?_
              refine PW.assign rfl rfl rfl rfl rfl ?_
              refine PW.nil ?_
              refine SX.then ?_
              refine SC.seq ?_
              refine SC.region ?_
              refine PW.load rfl rfl rfl rfl rfl rfl ?_
              refine PW.move rfl rfl rfl rfl rfl ?_
              refine PW.call (r := .kw (K2 (KJ (0)) (KV (.int .i64 14)))) rfl rfl rfl rfl rfl rfl (K2.st (KJ.st _) (KV.st _)) rfl (k_jshift_1 X (by decide) hnr.2 (not_shOk x0 (by omega))) ?_
              refine PW.move rfl rfl rfl rfl rfl ?_
              refine PW.ext (r := .kw (KJ (0))) rfl rfl rfl rfl rfl ex20 (KJ.st _) rfl ?_
              refine PW.ext (r := .vl (.int .i64 14)) rfl rfl rfl rfl rfl ex21v (KV.st _) rfl ?_
              refine PW.alloc (BI 31) rfl rfl rfl rfl rfl bJ ?_
              refine PW.store (x := .tmp 77) (r := .kw (KJ (0))) rfl rfl rfl rfl rfl rfl sh_J ?_
              refine PW.assign rfl rfl rfl rfl rfl ?_
              refine PW.nil ?_
              refine SX.then ?_
              refine SC.seq ?_
              by_cases kq : 0 ≤ k ∧ k ≤ 65536 ∧ 0 ≤ q ∧ q ≤ 65536
              · obtain ⟨kn, rfl⟩ : ∃ m : Nat, k = m := ⟨k.toNat, by omega⟩
                obtain ⟨qn, rfl⟩ : ∃ m : Nat, q = m := ⟨q.toNat, by omega⟩
                refine SC.region ?_
                refine PW.load rfl rfl rfl rfl rfl rfl ?_
                refine PW.move rfl rfl rfl rfl rfl ?_
                refine PW.move rfl rfl rfl rfl rfl ?_
                refine PW.call (r := .kw (K2 (KI (fld x kn qn)) (KV (.int .i64 0)))) rfl rfl rfl rfl rfl rfl (K2.st (KI.st _) (KV.st _)) rfl (k_field X (by decide) (by omega) (by omega)) ?_
                refine PW.move rfl rfl rfl rfl rfl ?_
                refine PW.ext (r := .kw (KI (fld x kn qn))) rfl rfl rfl rfl rfl ex20 (KI.st _) rfl ?_
                refine PW.ext (r := .vl (.int .i64 0)) rfl rfl rfl rfl rfl ex21v (KV.st _) rfl ?_
                refine PW.alloc (BI 28) rfl rfl rfl rfl rfl bI ?_
                refine PW.store (x := .tmp 84) (r := .kw (KI (fld x kn qn))) rfl rfl rfl rfl rfl rfl sh_I ?_
                refine PW.assign rfl rfl rfl rfl rfl ?_
                refine PW.nil ?_
                refine SX.then ?_
                refine SC.seq ?_
                refine SC.region ?_
                refine PW.load rfl rfl rfl rfl rfl rfl ?_
                refine PW.move rfl rfl rfl rfl rfl ?_
                refine PW.move rfl rfl rfl rfl rfl ?_
                refine PW.call (r := .kw (K2 (KJ (fld x kn qn)) (KV (.int .i64 0)))) rfl rfl rfl rfl rfl rfl (K2.st (KJ.st _) (KV.st _)) rfl (k_jfield X (by decide) (by omega) (by omega)) ?_
                refine PW.move rfl rfl rfl rfl rfl ?_
                refine PW.ext (r := .kw (KJ (fld x kn qn))) rfl rfl rfl rfl rfl ex20 (KJ.st _) rfl ?_
                refine PW.ext (r := .vl (.int .i64 0)) rfl rfl rfl rfl rfl ex21v (KV.st _) rfl ?_
                refine PW.alloc (BI 31) rfl rfl rfl rfl rfl bJ ?_
                refine PW.store (x := .tmp 91) (r := .kw (KJ (fld x kn qn))) rfl rfl rfl rfl rfl rfl sh_J ?_
                refine PW.assign rfl rfl rfl rfl rfl ?_
                refine PW.nil ?_
                refine SX.then ?_
                refine SC.seq ?_
                refine SC.region ?_
                refine PW.load rfl rfl rfl rfl rfl rfl ?_
                refine PW.load rfl rfl rfl rfl rfl rfl ?_
                refine PW.move rfl rfl rfl rfl rfl ?_
                refine PW.move rfl rfl rfl rfl rfl ?_
                refine PW.call (r := .kw (K2 (KI (dep x y kn qn)) (KV (.int .i64 0)))) rfl rfl rfl rfl rfl rfl (K2.st (KI.st _) (KV.st _)) rfl (k_dep X Y (by decide) (by decide) (by omega) (by omega)) ?_
                refine PW.move rfl rfl rfl rfl rfl ?_
                refine PW.ext (r := .kw (KI (dep x y kn qn))) rfl rfl rfl rfl rfl ex20 (KI.st _) rfl ?_
                refine PW.ext (r := .vl (.int .i64 0)) rfl rfl rfl rfl rfl ex21v (KV.st _) rfl ?_
                refine PW.alloc (BI 28) rfl rfl rfl rfl rfl bI ?_
                refine PW.store (x := .tmp 99) (r := .kw (KI (dep x y kn qn))) rfl rfl rfl rfl rfl rfl sh_I ?_
                refine PW.assign rfl rfl rfl rfl rfl ?_
                refine PW.nil ?_
                refine SX.then ?_
                refine SC.seq ?_
                refine SC.region ?_
                refine PW.load rfl rfl rfl rfl rfl rfl ?_
                refine PW.load rfl rfl rfl rfl rfl rfl ?_
                refine PW.move rfl rfl rfl rfl rfl ?_
                refine PW.move rfl rfl rfl rfl rfl ?_
                refine PW.call (r := .kw (K2 (KJ (dep x y kn qn)) (KV (.int .i64 0)))) rfl rfl rfl rfl rfl rfl (K2.st (KJ.st _) (KV.st _)) rfl (k_jdep X Y (by decide) (by decide) (by omega) (by omega)) ?_
                refine PW.move rfl rfl rfl rfl rfl ?_
                refine PW.ext (r := .kw (KJ (dep x y kn qn))) rfl rfl rfl rfl rfl ex20 (KJ.st _) rfl ?_
                refine PW.ext (r := .vl (.int .i64 0)) rfl rfl rfl rfl rfl ex21v (KV.st _) rfl ?_
                refine PW.alloc (BI 31) rfl rfl rfl rfl rfl bJ ?_
                refine PW.store (x := .tmp 107) (r := .kw (KJ (dep x y kn qn))) rfl rfl rfl rfl rfl rfl sh_J ?_
                refine PW.assign rfl rfl rfl rfl rfl ?_
                refine PW.nil ?_
                refine SX.then ?_
                refine SC.seq ?_
                refine SC.region ?_
                refine PW.move rfl rfl rfl rfl rfl ?_
                refine PW.move rfl rfl rfl rfl rfl ?_
                refine PW.q2 (x := .tmp 109) (y := .tmp 110) (.bool true) rfl rfl rfl rfl rfl (fun ρ W h1 h2 => by go_simp) ?_
                refine PW.move rfl rfl rfl rfl rfl ?_
                refine PW.load rfl rfl rfl rfl rfl rfl ?_
                refine PW.load rfl rfl rfl rfl rfl rfl ?_
                refine PW.call (r := .vl (.bool true)) rfl rfl rfl rfl rfl rfl (KV.st _) rfl (k_is (bd.zero (a := 1)) (by first | decide | omega) rfl) ?_
                refine PW.pick (t := true) rfl rfl rfl rfl rfl rfl ?_
                refine PW.move rfl rfl rfl rfl rfl ?_
                refine PW.move rfl rfl rfl rfl rfl ?_
                refine PW.move rfl rfl rfl rfl rfl ?_
                refine PW.q2 (x := .tmp 118) (y := .tmp 119) (.bool true) rfl rfl rfl rfl rfl (fun ρ W h1 h2 => by go_simp) ?_
                refine PW.pick (t := true) rfl rfl rfl rfl rfl rfl ?_
                refine PW.move rfl rfl rfl rfl rfl ?_
                refine PW.load rfl rfl rfl rfl rfl rfl ?_
                refine PW.load rfl rfl rfl rfl rfl rfl ?_
                refine PW.call (r := .vl (.bool true)) rfl rfl rfl rfl rfl rfl (KV.st _) rfl (k_is ((bd.fld X (k := kn) (p := qn) (m := 10) (by omega))) (by first | decide | omega) rfl) ?_
                refine PW.pick (t := true) rfl rfl rfl rfl rfl rfl ?_
                refine PW.move rfl rfl rfl rfl rfl ?_
                refine PW.move rfl rfl rfl rfl rfl ?_
                refine PW.move rfl rfl rfl rfl rfl ?_
                refine PW.q2 (x := .tmp 128) (y := .tmp 129) (.bool true) rfl rfl rfl rfl rfl (fun ρ W h1 h2 => by go_simp) ?_
                refine PW.pick (t := true) rfl rfl rfl rfl rfl rfl ?_
                refine PW.move rfl rfl rfl rfl rfl ?_
                refine PW.load rfl rfl rfl rfl rfl rfl ?_
                refine PW.load rfl rfl rfl rfl rfl rfl ?_
                refine PW.call (r := .vl (.bool true)) rfl rfl rfl rfl rfl rfl (KV.st _) rfl (k_is ((bd.dep X Y (k := kn) (p := qn) (m := 10) (q := 10) (by omega) (by omega))) (by first | decide | omega) rfl) ?_
                refine PW.pick (t := true) rfl rfl rfl rfl rfl rfl ?_
                refine PW.move rfl rfl rfl rfl rfl ?_
                refine PW.call (r := .vl (.bool true)) rfl rfl rfl rfl rfl rfl (KV.st _) rfl (k_awake) ?_
                refine PW.pick (t := true) rfl rfl rfl rfl rfl rfl ?_
                refine PW.assign rfl rfl rfl rfl rfl ?_
                refine PW.nil ?_
                refine SX.then ?_
                refine SC.ret ?_
                exact SX.done (r := .vl (.bool true)) rfl rfl rfl
              · refine SC.region ?_
                refine PW.load rfl rfl rfl rfl rfl rfl ?_
                refine PW.move rfl rfl rfl rfl rfl ?_
                refine PW.move rfl rfl rfl rfl rfl ?_
                refine PW.call (r := .kw (K2 (KI (0)) (KV (.int .i64 1)))) rfl rfl rfl rfl rfl rfl (K2.st (KI.st _) (KV.st _)) rfl (k_field_bad kq) ?_
                refine PW.move rfl rfl rfl rfl rfl ?_
                refine PW.ext (r := .kw (KI (0))) rfl rfl rfl rfl rfl ex20 (KI.st _) rfl ?_
                refine PW.ext (r := .vl (.int .i64 1)) rfl rfl rfl rfl rfl ex21v (KV.st _) rfl ?_
                refine PW.alloc (BI 28) rfl rfl rfl rfl rfl bI ?_
                refine PW.store (x := .tmp 84) (r := .kw (KI (0))) rfl rfl rfl rfl rfl rfl sh_I ?_
                refine PW.assign rfl rfl rfl rfl rfl ?_
                refine PW.nil ?_
                refine SX.then ?_
                refine SC.seq ?_
                refine SC.region ?_
                refine PW.load rfl rfl rfl rfl rfl rfl ?_
                refine PW.move rfl rfl rfl rfl rfl ?_
                refine PW.move rfl rfl rfl rfl rfl ?_
                refine PW.call (r := .kw (K2 (KJ (0)) (KV (.int .i64 1)))) rfl rfl rfl rfl rfl rfl (K2.st (KJ.st _) (KV.st _)) rfl (k_jfield_bad (by omega)) ?_
                refine PW.move rfl rfl rfl rfl rfl ?_
                refine PW.ext (r := .kw (KJ (0))) rfl rfl rfl rfl rfl ex20 (KJ.st _) rfl ?_
                refine PW.ext (r := .vl (.int .i64 1)) rfl rfl rfl rfl rfl ex21v (KV.st _) rfl ?_
                refine PW.alloc (BI 31) rfl rfl rfl rfl rfl bJ ?_
                refine PW.store (x := .tmp 91) (r := .kw (KJ (0))) rfl rfl rfl rfl rfl rfl sh_J ?_
                refine PW.assign rfl rfl rfl rfl rfl ?_
                refine PW.nil ?_
                refine SX.then ?_
                refine SC.seq ?_
                refine SC.region ?_
                refine PW.load rfl rfl rfl rfl rfl rfl ?_
                refine PW.load rfl rfl rfl rfl rfl rfl ?_
                refine PW.move rfl rfl rfl rfl rfl ?_
                refine PW.move rfl rfl rfl rfl rfl ?_
                refine PW.call (r := .kw (K2 (KI (0)) (KV (.int .i64 1)))) rfl rfl rfl rfl rfl rfl (K2.st (KI.st _) (KV.st _)) rfl (k_dep_bad kq) ?_
                refine PW.move rfl rfl rfl rfl rfl ?_
                refine PW.ext (r := .kw (KI (0))) rfl rfl rfl rfl rfl ex20 (KI.st _) rfl ?_
                refine PW.ext (r := .vl (.int .i64 1)) rfl rfl rfl rfl rfl ex21v (KV.st _) rfl ?_
                refine PW.alloc (BI 28) rfl rfl rfl rfl rfl bI ?_
                refine PW.store (x := .tmp 99) (r := .kw (KI (0))) rfl rfl rfl rfl rfl rfl sh_I ?_
                refine PW.assign rfl rfl rfl rfl rfl ?_
                refine PW.nil ?_
                refine SX.then ?_
                refine SC.seq ?_
                refine SC.region ?_
                refine PW.load rfl rfl rfl rfl rfl rfl ?_
                refine PW.load rfl rfl rfl rfl rfl rfl ?_
                refine PW.move rfl rfl rfl rfl rfl ?_
                refine PW.move rfl rfl rfl rfl rfl ?_
                refine PW.call (r := .kw (K2 (KJ (0)) (KV (.int .i64 1)))) rfl rfl rfl rfl rfl rfl (K2.st (KJ.st _) (KV.st _)) rfl (k_jdep_bad (by omega)) ?_
                refine PW.move rfl rfl rfl rfl rfl ?_
                refine PW.ext (r := .kw (KJ (0))) rfl rfl rfl rfl rfl ex20 (KJ.st _) rfl ?_
                refine PW.ext (r := .vl (.int .i64 1)) rfl rfl rfl rfl rfl ex21v (KV.st _) rfl ?_
                refine PW.alloc (BI 31) rfl rfl rfl rfl rfl bJ ?_
                refine PW.store (x := .tmp 107) (r := .kw (KJ (0))) rfl rfl rfl rfl rfl rfl sh_J ?_
                refine PW.assign rfl rfl rfl rfl rfl ?_
                refine PW.nil ?_
                refine SX.then ?_
                refine SC.seq ?_
                refine SC.region ?_
                refine PW.move rfl rfl rfl rfl rfl ?_
                refine PW.move rfl rfl rfl rfl rfl ?_
                refine PW.q2 (x := .tmp 109) (y := .tmp 110) (.bool true) rfl rfl rfl rfl rfl (fun ρ W h1 h2 => by go_simp) ?_
                refine PW.move rfl rfl rfl rfl rfl ?_
                refine PW.load rfl rfl rfl rfl rfl rfl ?_
                refine PW.load rfl rfl rfl rfl rfl rfl ?_
                refine PW.call (r := .vl (.bool true)) rfl rfl rfl rfl rfl rfl (KV.st _) rfl (k_is (bd.zero (a := 1)) (by first | decide | omega) rfl) ?_
                refine PW.pick (t := true) rfl rfl rfl rfl rfl rfl ?_
                refine PW.move rfl rfl rfl rfl rfl ?_
                refine PW.move rfl rfl rfl rfl rfl ?_
                refine PW.move rfl rfl rfl rfl rfl ?_
                refine PW.q2 (x := .tmp 118) (y := .tmp 119) (.bool true) rfl rfl rfl rfl rfl (fun ρ W h1 h2 => by go_simp) ?_
                refine PW.pick (t := true) rfl rfl rfl rfl rfl rfl ?_
                refine PW.move rfl rfl rfl rfl rfl ?_
                refine PW.load rfl rfl rfl rfl rfl rfl ?_
                refine PW.load rfl rfl rfl rfl rfl rfl ?_
                refine PW.call (r := .vl (.bool true)) rfl rfl rfl rfl rfl rfl (KV.st _) rfl (k_is (bd.zero (a := 1)) (by first | decide | omega) rfl) ?_
                refine PW.pick (t := true) rfl rfl rfl rfl rfl rfl ?_
                refine PW.move rfl rfl rfl rfl rfl ?_
                refine PW.move rfl rfl rfl rfl rfl ?_
                refine PW.move rfl rfl rfl rfl rfl ?_
                refine PW.q2 (x := .tmp 128) (y := .tmp 129) (.bool true) rfl rfl rfl rfl rfl (fun ρ W h1 h2 => by go_simp) ?_
                refine PW.pick (t := true) rfl rfl rfl rfl rfl rfl ?_
                refine PW.move rfl rfl rfl rfl rfl ?_
                refine PW.load rfl rfl rfl rfl rfl rfl ?_
                refine PW.load rfl rfl rfl rfl rfl rfl ?_
                refine PW.call (r := .vl (.bool true)) rfl rfl rfl rfl rfl rfl (KV.st _) rfl (k_is (bd.zero (a := 1)) (by first | decide | omega) rfl) ?_
                refine PW.pick (t := true) rfl rfl rfl rfl rfl rfl ?_
                refine PW.move rfl rfl rfl rfl rfl ?_
                refine PW.call (r := .vl (.bool true)) rfl rfl rfl rfl rfl rfl (KV.st _) rfl (k_awake) ?_
                refine PW.pick (t := true) rfl rfl rfl rfl rfl rfl ?_
                refine PW.assign rfl rfl rfl rfl rfl ?_
                refine PW.nil ?_
                refine SX.then ?_
                refine SC.ret ?_
                exact SX.done (r := .vl (.bool true)) rfl rfl rfl
    · by_cases k3 : k > 300
      · by_cases k6 : k ≤ 65536
        · refine SC.region ?_
          refine PW.loadV rfl rfl rfl rfl rfl rfl ?_
          refine PW.loadV rfl rfl rfl rfl rfl rfl ?_
          refine PW.short 8 [(n1, A1, l1, c1), (n2, A2, l2, c2)] _ rfl rfl rfl (fun a W hf => r_bN2 (hf.vl (s := 27) rfl) (hf.vl (s := 28) rfl)) (fun W => ns_lit2 W) (by simp; exact ⟨In.lim h1, In.lim h2⟩) rfl rfl hs rfl rfl rfl rfl rfl rfl ?_
          refine PW.q1 (x := .tmp 30) (.bool false) rfl rfl rfl rfl (fun ρ W h1 => by go_simp) ?_
          refine PW.move rfl rfl rfl rfl rfl ?_
          refine PW.move rfl rfl rfl rfl rfl ?_
          refine PW.q2 (x := .tmp 33) (y := .const (.int .i64 300)) (.bool false) rfl rfl rfl rfl rfl (fun ρ W h1 h2 => by exact r_gt h1 h2 (decide_eq_false n3)) ?_
          refine PW.move rfl rfl rfl rfl rfl ?_
          refine PW.skip rfl rfl rfl ?_
          refine PW.skip rfl rfl rfl ?_
          refine PW.pick (t := false) rfl rfl rfl rfl rfl rfl ?_
          refine PW.pick (t := false) rfl rfl rfl rfl rfl rfl ?_
          refine PW.move rfl rfl rfl rfl rfl ?_
          refine PW.move rfl rfl rfl rfl rfl ?_
          refine PW.q2 (x := .tmp 41) (y := .const (.int .i64 300)) (.bool true) rfl rfl rfl rfl rfl (fun ρ W h1 h2 => by exact r_gt h1 h2 (decide_eq_true k3)) ?_
          refine PW.move rfl rfl rfl rfl rfl ?_
          refine PW.move rfl rfl rfl rfl rfl ?_
          refine PW.q2 (x := .tmp 44) (y := .const (.int .i64 65536)) (.bool true) rfl rfl rfl rfl rfl (fun ρ W h1 h2 => by exact r_le h1 h2 (decide_eq_true k6)) ?_
          refine PW.pick (t := true) rfl rfl rfl rfl rfl rfl ?_
          refine PW.pick (t := false) rfl rfl rfl rfl rfl rfl ?_
          refine PW.move rfl rfl rfl rfl rfl ?_
          refine PW.skip rfl rfl rfl ?_
          refine PW.skip rfl rfl rfl ?_
          refine PW.skip rfl rfl rfl ?_
          refine PW.skip rfl rfl rfl ?_
          refine PW.skip rfl rfl rfl ?_
          refine PW.skip rfl rfl rfl ?_
          refine PW.pick (t := true) rfl rfl rfl rfl rfl rfl ?_
          refine PW.nil ?_
          refine SX.then ?_
          refine SC.cond (t := true) rfl ?_
          refine SC.seq ?_
          refine SC.region ?_
          refine PW.call (r := .vl (.bool true)) rfl rfl rfl rfl rfl rfl (KV.st _) rfl (k_awake) ?_
          refine PW.assign rfl rfl rfl rfl rfl ?_
          refine PW.nil ?_
          refine SX.then ?_
          refine SC.ret ?_
          refine SX.thenR ?_
          exact SX.done (r := .vl (.bool true)) rfl rfl rfl
        · by_cases q3 : q > 300
          · by_cases q6 : q ≤ 65536
            · refine SC.region ?_
              refine PW.loadV rfl rfl rfl rfl rfl rfl ?_
              refine PW.loadV rfl rfl rfl rfl rfl rfl ?_
              refine PW.short 8 [(n1, A1, l1, c1), (n2, A2, l2, c2)] _ rfl rfl rfl (fun a W hf => r_bN2 (hf.vl (s := 27) rfl) (hf.vl (s := 28) rfl)) (fun W => ns_lit2 W) (by simp; exact ⟨In.lim h1, In.lim h2⟩) rfl rfl hs rfl rfl rfl rfl rfl rfl ?_
              refine PW.q1 (x := .tmp 30) (.bool false) rfl rfl rfl rfl (fun ρ W h1 => by go_simp) ?_
              refine PW.move rfl rfl rfl rfl rfl ?_
              refine PW.move rfl rfl rfl rfl rfl ?_
              refine PW.q2 (x := .tmp 33) (y := .const (.int .i64 300)) (.bool false) rfl rfl rfl rfl rfl (fun ρ W h1 h2 => by exact r_gt h1 h2 (decide_eq_false n3)) ?_
              refine PW.move rfl rfl rfl rfl rfl ?_
              refine PW.skip rfl rfl rfl ?_
              refine PW.skip rfl rfl rfl ?_
              refine PW.pick (t := false) rfl rfl rfl rfl rfl rfl ?_
              refine PW.pick (t := false) rfl rfl rfl rfl rfl rfl ?_
              refine PW.move rfl rfl rfl rfl rfl ?_
              refine PW.move rfl rfl rfl rfl rfl ?_
              refine PW.q2 (x := .tmp 41) (y := .const (.int .i64 300)) (.bool true) rfl rfl rfl rfl rfl (fun ρ W h1 h2 => by exact r_gt h1 h2 (decide_eq_true k3)) ?_
              refine PW.move rfl rfl rfl rfl rfl ?_
              refine PW.move rfl rfl rfl rfl rfl ?_
              refine PW.q2 (x := .tmp 44) (y := .const (.int .i64 65536)) (.bool false) rfl rfl rfl rfl rfl (fun ρ W h1 h2 => by exact r_le h1 h2 (decide_eq_false k6)) ?_
              refine PW.pick (t := true) rfl rfl rfl rfl rfl rfl ?_
              refine PW.pick (t := false) rfl rfl rfl rfl rfl rfl ?_
              refine PW.move rfl rfl rfl rfl rfl ?_
              refine PW.move rfl rfl rfl rfl rfl ?_
              refine PW.q2 (x := .tmp 49) (y := .const (.int .i64 300)) (.bool true) rfl rfl rfl rfl rfl (fun ρ W h1 h2 => by exact r_gt h1 h2 (decide_eq_true q3)) ?_
              refine PW.move rfl rfl rfl rfl rfl ?_
              refine PW.move rfl rfl rfl rfl rfl ?_
              refine PW.q2 (x := .tmp 52) (y := .const (.int .i64 65536)) (.bool true) rfl rfl rfl rfl rfl (fun ρ W h1 h2 => by exact r_le h1 h2 (decide_eq_true q6)) ?_
              refine PW.pick (t := true) rfl rfl rfl rfl rfl rfl ?_
              refine PW.pick (t := false) rfl rfl rfl rfl rfl rfl ?_
              refine PW.nil ?_
              refine SX.then ?_
              refine SC.cond (t := true) rfl ?_
              refine SC.seq ?_
              refine SC.region ?_
              refine PW.call (r := .vl (.bool true)) rfl rfl rfl rfl rfl rfl (KV.st _) rfl (k_awake) ?_
              refine PW.assign rfl rfl rfl rfl rfl ?_
              refine PW.nil ?_
              refine SX.then ?_
              refine SC.ret ?_
              refine SX.thenR ?_
              exact SX.done (r := .vl (.bool true)) rfl rfl rfl
            · refine SC.region ?_
              refine PW.loadV rfl rfl rfl rfl rfl rfl ?_
              refine PW.loadV rfl rfl rfl rfl rfl rfl ?_
              refine PW.short 8 [(n1, A1, l1, c1), (n2, A2, l2, c2)] _ rfl rfl rfl (fun a W hf => r_bN2 (hf.vl (s := 27) rfl) (hf.vl (s := 28) rfl)) (fun W => ns_lit2 W) (by simp; exact ⟨In.lim h1, In.lim h2⟩) rfl rfl hs rfl rfl rfl rfl rfl rfl ?_
              refine PW.q1 (x := .tmp 30) (.bool false) rfl rfl rfl rfl (fun ρ W h1 => by go_simp) ?_
              refine PW.move rfl rfl rfl rfl rfl ?_
              refine PW.move rfl rfl rfl rfl rfl ?_
              refine PW.q2 (x := .tmp 33) (y := .const (.int .i64 300)) (.bool false) rfl rfl rfl rfl rfl (fun ρ W h1 h2 => by exact r_gt h1 h2 (decide_eq_false n3)) ?_
              refine PW.move rfl rfl rfl rfl rfl ?_
              refine PW.skip rfl rfl rfl ?_
              refine PW.skip rfl rfl rfl ?_
              refine PW.pick (t := false) rfl rfl rfl rfl rfl rfl ?_
              refine PW.pick (t := false) rfl rfl rfl rfl rfl rfl ?_
              refine PW.move rfl rfl rfl rfl rfl ?_
              refine PW.move rfl rfl rfl rfl rfl ?_
              refine PW.q2 (x := .tmp 41) (y := .const (.int .i64 300)) (.bool true) rfl rfl rfl rfl rfl (fun ρ W h1 h2 => by exact r_gt h1 h2 (decide_eq_true k3)) ?_
              refine PW.move rfl rfl rfl rfl rfl ?_
              refine PW.move rfl rfl rfl rfl rfl ?_
              refine PW.q2 (x := .tmp 44) (y := .const (.int .i64 65536)) (.bool false) rfl rfl rfl rfl rfl (fun ρ W h1 h2 => by exact r_le h1 h2 (decide_eq_false k6)) ?_
              refine PW.pick (t := true) rfl rfl rfl rfl rfl rfl ?_
              refine PW.pick (t := false) rfl rfl rfl rfl rfl rfl ?_
              refine PW.move rfl rfl rfl rfl rfl ?_
              refine PW.move rfl rfl rfl rfl rfl ?_
              refine PW.q2 (x := .tmp 49) (y := .const (.int .i64 300)) (.bool true) rfl rfl rfl rfl rfl (fun ρ W h1 h2 => by exact r_gt h1 h2 (decide_eq_true q3)) ?_
              refine PW.move rfl rfl rfl rfl rfl ?_
              refine PW.move rfl rfl rfl rfl rfl ?_
              refine PW.q2 (x := .tmp 52) (y := .const (.int .i64 65536)) (.bool false) rfl rfl rfl rfl rfl (fun ρ W h1 h2 => by exact r_le h1 h2 (decide_eq_false q6)) ?_
              refine PW.pick (t := true) rfl rfl rfl rfl rfl rfl ?_
              refine PW.pick (t := false) rfl rfl rfl rfl rfl rfl ?_
              refine PW.nil ?_
              refine SX.then ?_
              refine SC.cond (t := false) rfl ?_
              refine SC.skip ?_
              refine SX.then ?_
              refine SC.seq ?_
              refine SC.region ?_
              refine PW.loadV rfl rfl rfl rfl rfl rfl ?_
              refine PW.callG (r := .kw (K2 (KI (x)) (KJ (x)))) ce_of rfl rfl rfl rfl rfl (K2.st (KI.st _) (KJ.st _)) rfl (fun a W hf => by have e1 := hf.vl (s := 58) rfl; show Calls Try.prog _ #[a.tmps.getD 58 undef] W _; rw [e1]; exact of_in h1 hf.be (by omega) hz1) ?_
              refine PW.move rfl rfl rfl rfl rfl ?_
              refine PW.ext (r := .kw (KI (x))) rfl rfl rfl rfl rfl ex20 (KI.st _) rfl ?_
              refine PW.ext (r := .kw (KJ (x))) rfl rfl rfl rfl rfl ex21 (KJ.st _) rfl ?_
              refine PW.alloc (BI 28) rfl rfl rfl rfl rfl bI ?_
              refine PW.alloc (BI 31) rfl rfl rfl rfl rfl bJ ?_
              refine PW.store (x := .tmp 60) (r := .kw (KI (x))) rfl rfl rfl rfl rfl rfl sh_I ?_
              refine PW.store (x := .tmp 61) (r := .kw (KJ (x))) rfl rfl rfl rfl rfl rfl sh_J ?_
              refine PW.nil ?_
              refine SX.then ?_
              refine SC.seq ?_
              refine SC.region ?_
              refine PW.loadV rfl rfl rfl rfl rfl rfl ?_
              refine PW.callG (r := .kw (K2 (KI (y)) (KJ (y)))) ce_of rfl rfl rfl rfl rfl (K2.st (KI.st _) (KJ.st _)) rfl (fun a W hf => by have e1 := hf.vl (s := 63) rfl; show Calls Try.prog _ #[a.tmps.getD 63 undef] W _; rw [e1]; exact of_in h2 hf.be (by omega) hz2) ?_
              refine PW.move rfl rfl rfl rfl rfl ?_
              refine PW.ext (r := .kw (KI (y))) rfl rfl rfl rfl rfl ex20 (KI.st _) rfl ?_
              refine PW.ext (r := .kw (KJ (y))) rfl rfl rfl rfl rfl ex21 (KJ.st _) rfl ?_
              refine PW.alloc (BI 28) rfl rfl rfl rfl rfl bI ?_
              refine PW.alloc (BI 31) rfl rfl rfl rfl rfl bJ ?_
              refine PW.store (x := .tmp 65) (r := .kw (KI (y))) rfl rfl rfl rfl rfl rfl sh_I ?_
              refine PW.store (x := .tmp 66) (r := .kw (KJ (y))) rfl rfl rfl rfl rfl rfl sh_J ?_
              refine PW.nil ?_
              refine SX.then ?_
              refine SC.seq ?_
              refine SC.region ?_
              refine PW.load rfl rfl rfl rfl rfl rfl ?_
              refine PW.move rfl rfl rfl rfl rfl ?_
              refine PW.call (r := .kw (K2 (KI (sh x n)) (KV (.int .i64 0)))) rfl rfl rfl rfl rfl rfl (K2.st (KI.st _) (KV.st _)) rfl (k_Shift X (by decide) hnr.1 hnr.2 (sh300 X n3)) ?_
              refine PW.move rfl rfl rfl rfl rfl ?_
              refine PW.ext (r := .kw (KI (sh x n))) rfl rfl rfl rfl rfl ex20 (KI.st _) rfl ?_
              refine PW.ext (r := .vl (.int .i64 0)) rfl rfl rfl rfl rfl ex21v (KV.st _) rfl ?_
              refine PW.alloc (BI 28) rfl rfl rfl rfl rfl bI ?_
              refine PW.store (x := .tmp 71) (r := .kw (KI (sh x n))) rfl rfl rfl rfl rfl rfl sh_I ?_
              refine PW.assign rfl rfl rfl rfl rfl ?_
              refine PW.nil ?_
              refine SX.then ?_
              refine SC.seq ?_
              refine SC.region ?_
              refine PW.load rfl rfl rfl rfl rfl rfl ?_
              refine PW.move rfl rfl rfl rfl rfl ?_
              refine PW.call (r := .kw (K2 (KJ (sh x n)) (KV (.int .i64 0)))) rfl rfl rfl rfl rfl rfl (K2.st (KJ.st _) (KV.st _)) rfl (k_jshift X (by decide) hnr.1 hnr.2 (sh300 X n3)) ?_
              refine PW.move rfl rfl rfl rfl rfl ?_
              refine PW.ext (r := .kw (KJ (sh x n))) rfl rfl rfl rfl rfl ex20 (KJ.st _) rfl ?_
              refine PW.ext (r := .vl (.int .i64 0)) rfl rfl rfl rfl rfl ex21v (KV.st _) rfl ?_
              refine PW.alloc (BI 31) rfl rfl rfl rfl rfl bJ ?_
              refine PW.store (x := .tmp 77) (r := .kw (KJ (sh x n))) rfl rfl rfl rfl rfl rfl sh_J ?_
              refine PW.assign rfl rfl rfl rfl rfl ?_
              refine PW.nil ?_
              refine SX.then ?_
              refine SC.seq ?_
              by_cases kq : 0 ≤ k ∧ k ≤ 65536 ∧ 0 ≤ q ∧ q ≤ 65536
              · obtain ⟨kn, rfl⟩ : ∃ m : Nat, k = m := ⟨k.toNat, by omega⟩
                obtain ⟨qn, rfl⟩ : ∃ m : Nat, q = m := ⟨q.toNat, by omega⟩
                refine SC.region ?_
                refine PW.load rfl rfl rfl rfl rfl rfl ?_
                refine PW.move rfl rfl rfl rfl rfl ?_
                refine PW.move rfl rfl rfl rfl rfl ?_
                refine PW.call (r := .kw (K2 (KI (fld x kn qn)) (KV (.int .i64 0)))) rfl rfl rfl rfl rfl rfl (K2.st (KI.st _) (KV.st _)) rfl (k_field X (by decide) (by omega) (by omega)) ?_
                refine PW.move rfl rfl rfl rfl rfl ?_
                refine PW.ext (r := .kw (KI (fld x kn qn))) rfl rfl rfl rfl rfl ex20 (KI.st _) rfl ?_
                refine PW.ext (r := .vl (.int .i64 0)) rfl rfl rfl rfl rfl ex21v (KV.st _) rfl ?_
                refine PW.alloc (BI 28) rfl rfl rfl rfl rfl bI ?_
                refine PW.store (x := .tmp 84) (r := .kw (KI (fld x kn qn))) rfl rfl rfl rfl rfl rfl sh_I ?_
                refine PW.assign rfl rfl rfl rfl rfl ?_
                refine PW.nil ?_
                refine SX.then ?_
                refine SC.seq ?_
                refine SC.region ?_
                refine PW.load rfl rfl rfl rfl rfl rfl ?_
                refine PW.move rfl rfl rfl rfl rfl ?_
                refine PW.move rfl rfl rfl rfl rfl ?_
                refine PW.call (r := .kw (K2 (KJ (fld x kn qn)) (KV (.int .i64 0)))) rfl rfl rfl rfl rfl rfl (K2.st (KJ.st _) (KV.st _)) rfl (k_jfield X (by decide) (by omega) (by omega)) ?_
                refine PW.move rfl rfl rfl rfl rfl ?_
                refine PW.ext (r := .kw (KJ (fld x kn qn))) rfl rfl rfl rfl rfl ex20 (KJ.st _) rfl ?_
                refine PW.ext (r := .vl (.int .i64 0)) rfl rfl rfl rfl rfl ex21v (KV.st _) rfl ?_
                refine PW.alloc (BI 31) rfl rfl rfl rfl rfl bJ ?_
                refine PW.store (x := .tmp 91) (r := .kw (KJ (fld x kn qn))) rfl rfl rfl rfl rfl rfl sh_J ?_
                refine PW.assign rfl rfl rfl rfl rfl ?_
                refine PW.nil ?_
                refine SX.then ?_
                refine SC.seq ?_
                refine SC.region ?_
                refine PW.load rfl rfl rfl rfl rfl rfl ?_
                refine PW.load rfl rfl rfl rfl rfl rfl ?_
                refine PW.move rfl rfl rfl rfl rfl ?_
                refine PW.move rfl rfl rfl rfl rfl ?_
                refine PW.call (r := .kw (K2 (KI (dep x y kn qn)) (KV (.int .i64 0)))) rfl rfl rfl rfl rfl rfl (K2.st (KI.st _) (KV.st _)) rfl (k_dep X Y (by decide) (by decide) (by omega) (by omega)) ?_
                refine PW.move rfl rfl rfl rfl rfl ?_
                refine PW.ext (r := .kw (KI (dep x y kn qn))) rfl rfl rfl rfl rfl ex20 (KI.st _) rfl ?_
                refine PW.ext (r := .vl (.int .i64 0)) rfl rfl rfl rfl rfl ex21v (KV.st _) rfl ?_
                refine PW.alloc (BI 28) rfl rfl rfl rfl rfl bI ?_
                refine PW.store (x := .tmp 99) (r := .kw (KI (dep x y kn qn))) rfl rfl rfl rfl rfl rfl sh_I ?_
                refine PW.assign rfl rfl rfl rfl rfl ?_
                refine PW.nil ?_
                refine SX.then ?_
                refine SC.seq ?_
                refine SC.region ?_
                refine PW.load rfl rfl rfl rfl rfl rfl ?_
                refine PW.load rfl rfl rfl rfl rfl rfl ?_
                refine PW.move rfl rfl rfl rfl rfl ?_
                refine PW.move rfl rfl rfl rfl rfl ?_
                refine PW.call (r := .kw (K2 (KJ (dep x y kn qn)) (KV (.int .i64 0)))) rfl rfl rfl rfl rfl rfl (K2.st (KJ.st _) (KV.st _)) rfl (k_jdep X Y (by decide) (by decide) (by omega) (by omega)) ?_
                refine PW.move rfl rfl rfl rfl rfl ?_
                refine PW.ext (r := .kw (KJ (dep x y kn qn))) rfl rfl rfl rfl rfl ex20 (KJ.st _) rfl ?_
                refine PW.ext (r := .vl (.int .i64 0)) rfl rfl rfl rfl rfl ex21v (KV.st _) rfl ?_
                refine PW.alloc (BI 31) rfl rfl rfl rfl rfl bJ ?_
                refine PW.store (x := .tmp 107) (r := .kw (KJ (dep x y kn qn))) rfl rfl rfl rfl rfl rfl sh_J ?_
                refine PW.assign rfl rfl rfl rfl rfl ?_
                refine PW.nil ?_
                refine SX.then ?_
                refine SC.seq ?_
                refine SC.region ?_
                refine PW.move rfl rfl rfl rfl rfl ?_
                refine PW.move rfl rfl rfl rfl rfl ?_
                refine PW.q2 (x := .tmp 109) (y := .tmp 110) (.bool true) rfl rfl rfl rfl rfl (fun ρ W h1 h2 => by go_simp) ?_
                refine PW.move rfl rfl rfl rfl rfl ?_
                refine PW.load rfl rfl rfl rfl rfl rfl ?_
                refine PW.load rfl rfl rfl rfl rfl rfl ?_
                refine PW.call (r := .vl (.bool true)) rfl rfl rfl rfl rfl rfl (KV.st _) rfl (k_is ((bd_sh300 X n3)) (by first | decide | omega) rfl) ?_
                refine PW.pick (t := true) rfl rfl rfl rfl rfl rfl ?_
                refine PW.move rfl rfl rfl rfl rfl ?_
                refine PW.move rfl rfl rfl rfl rfl ?_
                refine PW.move rfl rfl rfl rfl rfl ?_
                refine PW.q2 (x := .tmp 118) (y := .tmp 119) (.bool true) rfl rfl rfl rfl rfl (fun ρ W h1 h2 => by go_simp) ?_
                refine PW.pick (t := true) rfl rfl rfl rfl rfl rfl ?_
                refine PW.move rfl rfl rfl rfl rfl ?_
                refine PW.load rfl rfl rfl rfl rfl rfl ?_
                refine PW.load rfl rfl rfl rfl rfl rfl ?_
                refine PW.call (r := .vl (.bool true)) rfl rfl rfl rfl rfl rfl (KV.st _) rfl (k_is ((bd.fld X (k := kn) (p := qn) (m := 10) (by omega))) (by first | decide | omega) rfl) ?_
                refine PW.pick (t := true) rfl rfl rfl rfl rfl rfl ?_
                refine PW.move rfl rfl rfl rfl rfl ?_
                refine PW.move rfl rfl rfl rfl rfl ?_
                refine PW.move rfl rfl rfl rfl rfl ?_
                refine PW.q2 (x := .tmp 128) (y := .tmp 129) (.bool true) rfl rfl rfl rfl rfl (fun ρ W h1 h2 => by go_simp) ?_
                refine PW.pick (t := true) rfl rfl rfl rfl rfl rfl ?_
                refine PW.move rfl rfl rfl rfl rfl ?_
                refine PW.load rfl rfl rfl rfl rfl rfl ?_
                refine PW.load rfl rfl rfl rfl rfl rfl ?_
                refine PW.call (r := .vl (.bool true)) rfl rfl rfl rfl rfl rfl (KV.st _) rfl (k_is ((bd.dep X Y (k := kn) (p := qn) (m := 10) (q := 10) (by omega) (by omega))) (by first | decide | omega) rfl) ?_
                refine PW.pick (t := true) rfl rfl rfl rfl rfl rfl ?_
                refine PW.move rfl rfl rfl rfl rfl ?_
                refine PW.call (r := .vl (.bool true)) rfl rfl rfl rfl rfl rfl (KV.st _) rfl (k_awake) ?_
                refine PW.pick (t := true) rfl rfl rfl rfl rfl rfl ?_
                refine PW.assign rfl rfl rfl rfl rfl ?_
                refine PW.nil ?_
                refine SX.then ?_
                refine SC.ret ?_
                exact SX.done (r := .vl (.bool true)) rfl rfl rfl
              · refine SC.region ?_
                refine PW.load rfl rfl rfl rfl rfl rfl ?_
                refine PW.move rfl rfl rfl rfl rfl ?_
                refine PW.move rfl rfl rfl rfl rfl ?_
                refine PW.call (r := .kw (K2 (KI (0)) (KV (.int .i64 1)))) rfl rfl rfl rfl rfl rfl (K2.st (KI.st _) (KV.st _)) rfl (k_field_bad kq) ?_
                refine PW.move rfl rfl rfl rfl rfl ?_
                refine PW.ext (r := .kw (KI (0))) rfl rfl rfl rfl rfl ex20 (KI.st _) rfl ?_
                refine PW.ext (r := .vl (.int .i64 1)) rfl rfl rfl rfl rfl ex21v (KV.st _) rfl ?_
                refine PW.alloc (BI 28) rfl rfl rfl rfl rfl bI ?_
                refine PW.store (x := .tmp 84) (r := .kw (KI (0))) rfl rfl rfl rfl rfl rfl sh_I ?_
                refine PW.assign rfl rfl rfl rfl rfl ?_
                refine PW.nil ?_
                refine SX.then ?_
                refine SC.seq ?_
                refine SC.region ?_
                refine PW.load rfl rfl rfl rfl rfl rfl ?_
                refine PW.move rfl rfl rfl rfl rfl ?_
                refine PW.move rfl rfl rfl rfl rfl ?_
                refine PW.call (r := .kw (K2 (KJ (0)) (KV (.int .i64 1)))) rfl rfl rfl rfl rfl rfl (K2.st (KJ.st _) (KV.st _)) rfl (k_jfield_bad (by omega)) ?_
                refine PW.move rfl rfl rfl rfl rfl ?_
                refine PW.ext (r := .kw (KJ (0))) rfl rfl rfl rfl rfl ex20 (KJ.st _) rfl ?_
                refine PW.ext (r := .vl (.int .i64 1)) rfl rfl rfl rfl rfl ex21v (KV.st _) rfl ?_
                refine PW.alloc (BI 31) rfl rfl rfl rfl rfl bJ ?_
                refine PW.store (x := .tmp 91) (r := .kw (KJ (0))) rfl rfl rfl rfl rfl rfl sh_J ?_
                refine PW.assign rfl rfl rfl rfl rfl ?_
                refine PW.nil ?_
                refine SX.then ?_
                refine SC.seq ?_
                refine SC.region ?_
                refine PW.load rfl rfl rfl rfl rfl rfl ?_
                refine PW.load rfl rfl rfl rfl rfl rfl ?_
                refine PW.move rfl rfl rfl rfl rfl ?_
                refine PW.move rfl rfl rfl rfl rfl ?_
                refine PW.call (r := .kw (K2 (KI (0)) (KV (.int .i64 1)))) rfl rfl rfl rfl rfl rfl (K2.st (KI.st _) (KV.st _)) rfl (k_dep_bad kq) ?_
                refine PW.move rfl rfl rfl rfl rfl ?_
                refine PW.ext (r := .kw (KI (0))) rfl rfl rfl rfl rfl ex20 (KI.st _) rfl ?_
                refine PW.ext (r := .vl (.int .i64 1)) rfl rfl rfl rfl rfl ex21v (KV.st _) rfl ?_
                refine PW.alloc (BI 28) rfl rfl rfl rfl rfl bI ?_
                refine PW.store (x := .tmp 99) (r := .kw (KI (0))) rfl rfl rfl rfl rfl rfl sh_I ?_
                refine PW.assign rfl rfl rfl rfl rfl ?_
                refine PW.nil ?_
                refine SX.then ?_
                refine SC.seq ?_
                refine SC.region ?_
                refine PW.load rfl rfl rfl rfl rfl rfl ?_
                refine PW.load rfl rfl rfl rfl rfl rfl ?_
                refine PW.move rfl rfl rfl rfl rfl ?_
                refine PW.move rfl rfl rfl rfl rfl ?_
                refine PW.call (r := .kw (K2 (KJ (0)) (KV (.int .i64 1)))) rfl rfl rfl rfl rfl rfl (K2.st (KJ.st _) (KV.st _)) rfl (k_jdep_bad (by omega)) ?_
                refine PW.move rfl rfl rfl rfl rfl ?_
                refine PW.ext (r := .kw (KJ (0))) rfl rfl rfl rfl rfl ex20 (KJ.st _) rfl ?_
                refine PW.ext (r := .vl (.int .i64 1)) rfl rfl rfl rfl rfl ex21v (KV.st _) rfl ?_
                refine PW.alloc (BI 31) rfl rfl rfl rfl rfl bJ ?_
                refine PW.store (x := .tmp 107) (r := .kw (KJ (0))) rfl rfl rfl rfl rfl rfl sh_J ?_
                refine PW.assign rfl rfl rfl rfl rfl ?_
                refine PW.nil ?_
                refine SX.then ?_
                refine SC.seq ?_
                refine SC.region ?_
                refine PW.move rfl rfl rfl rfl rfl ?_
                refine PW.move rfl rfl rfl rfl rfl ?_
                refine PW.q2 (x := .tmp 109) (y := .tmp 110) (.bool true) rfl rfl rfl rfl rfl (fun ρ W h1 h2 => by go_simp) ?_
                refine PW.move rfl rfl rfl rfl rfl ?_
                refine PW.load rfl rfl rfl rfl rfl rfl ?_
                refine PW.load rfl rfl rfl rfl rfl rfl ?_
                refine PW.call (r := .vl (.bool true)) rfl rfl rfl rfl rfl rfl (KV.st _) rfl (k_is ((bd_sh300 X n3)) (by first | decide | omega) rfl) ?_
                refine PW.pick (t := true) rfl rfl rfl rfl rfl rfl ?_
                refine PW.move rfl rfl rfl rfl rfl ?_
                refine PW.move rfl rfl rfl rfl rfl ?_
                refine PW.move rfl rfl rfl rfl rfl ?_
                refine PW.q2 (x := .tmp 118) (y := .tmp 119) (.bool true) rfl rfl rfl rfl rfl (fun ρ W h1 h2 => by go_simp) ?_
                refine PW.pick (t := true) rfl rfl rfl rfl rfl rfl ?_
                refine PW.move rfl rfl rfl rfl rfl ?_
                refine PW.load rfl rfl rfl rfl rfl rfl ?_
                refine PW.load rfl rfl rfl rfl rfl rfl ?_
                refine PW.call (r := .vl (.bool true)) rfl rfl rfl rfl rfl rfl (KV.st _) rfl (k_is (bd.zero (a := 1)) (by first | decide | omega) rfl) ?_
                refine PW.pick (t := true) rfl rfl rfl rfl rfl rfl ?_
                refine PW.move rfl rfl rfl rfl rfl ?_
                refine PW.move rfl rfl rfl rfl rfl ?_
                refine PW.move rfl rfl rfl rfl rfl ?_
                refine PW.q2 (x := .tmp 128) (y := .tmp 129) (.bool true) rfl rfl rfl rfl rfl (fun ρ W h1 h2 => by go_simp) ?_
                refine PW.pick (t := true) rfl rfl rfl rfl rfl rfl ?_
                refine PW.move rfl rfl rfl rfl rfl ?_
                refine PW.load rfl rfl rfl rfl rfl rfl ?_
                refine PW.load rfl rfl rfl rfl rfl rfl ?_
                refine PW.call (r := .vl (.bool true)) rfl rfl rfl rfl rfl rfl (KV.st _) rfl (k_is (bd.zero (a := 1)) (by first | decide | omega) rfl) ?_
                refine PW.pick (t := true) rfl rfl rfl rfl rfl rfl ?_
                refine PW.move rfl rfl rfl rfl rfl ?_
                refine PW.call (r := .vl (.bool true)) rfl rfl rfl rfl rfl rfl (KV.st _) rfl (k_awake) ?_
                refine PW.pick (t := true) rfl rfl rfl rfl rfl rfl ?_
                refine PW.assign rfl rfl rfl rfl rfl ?_
                refine PW.nil ?_
                refine SX.then ?_
                refine SC.ret ?_
                exact SX.done (r := .vl (.bool true)) rfl rfl rfl
          · refine SC.region ?_
            refine PW.loadV rfl rfl rfl rfl rfl rfl ?_
            refine PW.loadV rfl rfl rfl rfl rfl rfl ?_
            refine PW.short 8 [(n1, A1, l1, c1), (n2, A2, l2, c2)] _ rfl rfl rfl (fun a W hf => r_bN2 (hf.vl (s := 27) rfl) (hf.vl (s := 28) rfl)) (fun W => ns_lit2 W) (by simp; exact ⟨In.lim h1, In.lim h2⟩) rfl rfl hs rfl rfl rfl rfl rfl rfl ?_
            refine PW.q1 (x := .tmp 30) (.bool false) rfl rfl rfl rfl (fun ρ W h1 => by go_simp) ?_
            refine PW.move rfl rfl rfl rfl rfl ?_
            refine PW.move rfl rfl rfl rfl rfl ?_
            refine PW.q2 (x := .tmp 33) (y := .const (.int .i64 300)) (.bool false) rfl rfl rfl rfl rfl (fun ρ W h1 h2 => by exact r_gt h1 h2 (decide_eq_false n3)) ?_
            refine PW.move rfl rfl rfl rfl rfl ?_
            refine PW.skip rfl rfl rfl ?_
            refine PW.skip rfl rfl rfl ?_
            refine PW.pick (t := false) rfl rfl rfl rfl rfl rfl ?_
            refine PW.pick (t := false) rfl rfl rfl rfl rfl rfl ?_
            refine PW.move rfl rfl rfl rfl rfl ?_
            refine PW.move rfl rfl rfl rfl rfl ?_
            refine PW.q2 (x := .tmp 41) (y := .const (.int .i64 300)) (.bool true) rfl rfl rfl rfl rfl (fun ρ W h1 h2 => by exact r_gt h1 h2 (decide_eq_true k3)) ?_
            refine PW.move rfl rfl rfl rfl rfl ?_
            refine PW.move rfl rfl rfl rfl rfl ?_
            refine PW.q2 (x := .tmp 44) (y := .const (.int .i64 65536)) (.bool false) rfl rfl rfl rfl rfl (fun ρ W h1 h2 => by exact r_le h1 h2 (decide_eq_false k6)) ?_
            refine PW.pick (t := true) rfl rfl rfl rfl rfl rfl ?_
            refine PW.pick (t := false) rfl rfl rfl rfl rfl rfl ?_
            refine PW.move rfl rfl rfl rfl rfl ?_
            refine PW.move rfl rfl rfl rfl rfl ?_
            refine PW.q2 (x := .tmp 49) (y := .const (.int .i64 300)) (.bool false) rfl rfl rfl rfl rfl (fun ρ W h1 h2 => by exact r_gt h1 h2 (decide_eq_false q3)) ?_
            refine PW.move rfl rfl rfl rfl rfl ?_
            refine PW.skip rfl rfl rfl ?_
            refine PW.skip rfl rfl rfl ?_
            refine PW.pick (t := false) rfl rfl rfl rfl rfl rfl ?_
            refine PW.pick (t := false) rfl rfl rfl rfl rfl rfl ?_
            refine PW.nil ?_
            refine SX.then ?_
            refine SC.cond (t := false) rfl ?_
            refine SC.skip ?_
            refine SX.then ?_
            refine SC.seq ?_
            refine SC.region ?_
            refine PW.loadV rfl rfl rfl rfl rfl rfl ?_
            refine PW.callG (r := .kw (K2 (KI (x)) (KJ (x)))) ce_of rfl rfl rfl rfl rfl (K2.st (KI.st _) (KJ.st _)) rfl (fun a W hf => by have e1 := hf.vl (s := 58) rfl; show Calls Try.prog _ #[a.tmps.getD 58 undef] W _; rw [e1]; exact of_in h1 hf.be (by omega) hz1) ?_
            refine PW.move rfl rfl rfl rfl rfl ?_
            refine PW.ext (r := .kw (KI (x))) rfl rfl rfl rfl rfl ex20 (KI.st _) rfl ?_
            refine PW.ext (r := .kw (KJ (x))) rfl rfl rfl rfl rfl ex21 (KJ.st _) rfl ?_
            refine PW.alloc (BI 28) rfl rfl rfl rfl rfl bI ?_
            refine PW.alloc (BI 31) rfl rfl rfl rfl rfl bJ ?_
            refine PW.store (x := .tmp 60) (r := .kw (KI (x))) rfl rfl rfl rfl rfl rfl sh_I ?_
            refine PW.store (x := .tmp 61) (r := .kw (KJ (x))) rfl rfl rfl rfl rfl rfl sh_J ?_
            refine PW.nil ?_
            refine SX.then ?_
            refine SC.seq ?_
            refine SC.region ?_
            refine PW.loadV rfl rfl rfl rfl rfl rfl ?_
            refine PW.callG (r := .kw (K2 (KI (y)) (KJ (y)))) ce_of rfl rfl rfl rfl rfl (K2.st (KI.st _) (KJ.st _)) rfl (fun a W hf => by have e1 := hf.vl (s := 63) rfl; show Calls Try.prog _ #[a.tmps.getD 63 undef] W _; rw [e1]; exact of_in h2 hf.be (by omega) hz2) ?_
            refine PW.move rfl rfl rfl rfl rfl ?_
            refine PW.ext (r := .kw (KI (y))) rfl rfl rfl rfl rfl ex20 (KI.st _) rfl ?_
            refine PW.ext (r := .kw (KJ (y))) rfl rfl rfl rfl rfl ex21 (KJ.st _) rfl ?_
            refine PW.alloc (BI 28) rfl rfl rfl rfl rfl bI ?_
            refine PW.alloc (BI 31) rfl rfl rfl rfl rfl bJ ?_
            refine PW.store (x := .tmp 65) (r := .kw (KI (y))) rfl rfl rfl rfl rfl rfl sh_I ?_
            refine PW.store (x := .tmp 66) (r := .kw (KJ (y))) rfl rfl rfl rfl rfl rfl sh_J ?_
            refine PW.nil ?_
            refine SX.then ?_
            refine SC.seq ?_
            refine SC.region ?_
            refine PW.load rfl rfl rfl rfl rfl rfl ?_
            refine PW.move rfl rfl rfl rfl rfl ?_
            refine PW.call (r := .kw (K2 (KI (sh x n)) (KV (.int .i64 0)))) rfl rfl rfl rfl rfl rfl (K2.st (KI.st _) (KV.st _)) rfl (k_Shift X (by decide) hnr.1 hnr.2 (sh300 X n3)) ?_
            refine PW.move rfl rfl rfl rfl rfl ?_
            refine PW.ext (r := .kw (KI (sh x n))) rfl rfl rfl rfl rfl ex20 (KI.st _) rfl ?_
            refine PW.ext (r := .vl (.int .i64 0)) rfl rfl rfl rfl rfl ex21v (KV.st _) rfl ?_
            refine PW.alloc (BI 28) rfl rfl rfl rfl rfl bI ?_
            refine PW.store (x := .tmp 71) (r := .kw (KI (sh x n))) rfl rfl rfl rfl rfl rfl sh_I ?_
            refine PW.assign rfl rfl rfl rfl rfl ?_
            refine PW.nil ?_
            refine SX.then ?_
            refine SC.seq ?_
            refine SC.region ?_
            refine PW.load rfl rfl rfl rfl rfl rfl ?_
            refine PW.move rfl rfl rfl rfl rfl ?_
            refine PW.call (r := .kw (K2 (KJ (sh x n)) (KV (.int .i64 0)))) rfl rfl rfl rfl rfl rfl (K2.st (KJ.st _) (KV.st _)) rfl (k_jshift X (by decide) hnr.1 hnr.2 (sh300 X n3)) ?_
            refine PW.move rfl rfl rfl rfl rfl ?_
            refine PW.ext (r := .kw (KJ (sh x n))) rfl rfl rfl rfl rfl ex20 (KJ.st _) rfl ?_
            refine PW.ext (r := .vl (.int .i64 0)) rfl rfl rfl rfl rfl ex21v (KV.st _) rfl ?_
            refine PW.alloc (BI 31) rfl rfl rfl rfl rfl bJ ?_
            refine PW.store (x := .tmp 77) (r := .kw (KJ (sh x n))) rfl rfl rfl rfl rfl rfl sh_J ?_
            refine PW.assign rfl rfl rfl rfl rfl ?_
            refine PW.nil ?_
            refine SX.then ?_
            refine SC.seq ?_
            by_cases kq : 0 ≤ k ∧ k ≤ 65536 ∧ 0 ≤ q ∧ q ≤ 65536
            · obtain ⟨kn, rfl⟩ : ∃ m : Nat, k = m := ⟨k.toNat, by omega⟩
              obtain ⟨qn, rfl⟩ : ∃ m : Nat, q = m := ⟨q.toNat, by omega⟩
              refine SC.region ?_
              refine PW.load rfl rfl rfl rfl rfl rfl ?_
              refine PW.move rfl rfl rfl rfl rfl ?_
              refine PW.move rfl rfl rfl rfl rfl ?_
              refine PW.call (r := .kw (K2 (KI (fld x kn qn)) (KV (.int .i64 0)))) rfl rfl rfl rfl rfl rfl (K2.st (KI.st _) (KV.st _)) rfl (k_field X (by decide) (by omega) (by omega)) ?_
              refine PW.move rfl rfl rfl rfl rfl ?_
              refine PW.ext (r := .kw (KI (fld x kn qn))) rfl rfl rfl rfl rfl ex20 (KI.st _) rfl ?_
              refine PW.ext (r := .vl (.int .i64 0)) rfl rfl rfl rfl rfl ex21v (KV.st _) rfl ?_
              refine PW.alloc (BI 28) rfl rfl rfl rfl rfl bI ?_
              refine PW.store (x := .tmp 84) (r := .kw (KI (fld x kn qn))) rfl rfl rfl rfl rfl rfl sh_I ?_
              refine PW.assign rfl rfl rfl rfl rfl ?_
              refine PW.nil ?_
              refine SX.then ?_
              refine SC.seq ?_
              refine SC.region ?_
              refine PW.load rfl rfl rfl rfl rfl rfl ?_
              refine PW.move rfl rfl rfl rfl rfl ?_
              refine PW.move rfl rfl rfl rfl rfl ?_
              refine PW.call (r := .kw (K2 (KJ (fld x kn qn)) (KV (.int .i64 0)))) rfl rfl rfl rfl rfl rfl (K2.st (KJ.st _) (KV.st _)) rfl (k_jfield X (by decide) (by omega) (by omega)) ?_
              refine PW.move rfl rfl rfl rfl rfl ?_
              refine PW.ext (r := .kw (KJ (fld x kn qn))) rfl rfl rfl rfl rfl ex20 (KJ.st _) rfl ?_
              refine PW.ext (r := .vl (.int .i64 0)) rfl rfl rfl rfl rfl ex21v (KV.st _) rfl ?_
              refine PW.alloc (BI 31) rfl rfl rfl rfl rfl bJ ?_
              refine PW.store (x := .tmp 91) (r := .kw (KJ (fld x kn qn))) rfl rfl rfl rfl rfl rfl sh_J ?_
              refine PW.assign rfl rfl rfl rfl rfl ?_
              refine PW.nil ?_
              refine SX.then ?_
              refine SC.seq ?_
              refine SC.region ?_
              refine PW.load rfl rfl rfl rfl rfl rfl ?_
              refine PW.load rfl rfl rfl rfl rfl rfl ?_
              refine PW.move rfl rfl rfl rfl rfl ?_
              refine PW.move rfl rfl rfl rfl rfl ?_
              refine PW.call (r := .kw (K2 (KI (dep x y kn qn)) (KV (.int .i64 0)))) rfl rfl rfl rfl rfl rfl (K2.st (KI.st _) (KV.st _)) rfl (k_dep X Y (by decide) (by decide) (by omega) (by omega)) ?_
              refine PW.move rfl rfl rfl rfl rfl ?_
              refine PW.ext (r := .kw (KI (dep x y kn qn))) rfl rfl rfl rfl rfl ex20 (KI.st _) rfl ?_
              refine PW.ext (r := .vl (.int .i64 0)) rfl rfl rfl rfl rfl ex21v (KV.st _) rfl ?_
              refine PW.alloc (BI 28) rfl rfl rfl rfl rfl bI ?_
              refine PW.store (x := .tmp 99) (r := .kw (KI (dep x y kn qn))) rfl rfl rfl rfl rfl rfl sh_I ?_
              refine PW.assign rfl rfl rfl rfl rfl ?_
              refine PW.nil ?_
              refine SX.then ?_
              refine SC.seq ?_
              refine SC.region ?_
              refine PW.load rfl rfl rfl rfl rfl rfl ?_
              refine PW.load rfl rfl rfl rfl rfl rfl ?_
              refine PW.move rfl rfl rfl rfl rfl ?_
              refine PW.move rfl rfl rfl rfl rfl ?_
              refine PW.call (r := .kw (K2 (KJ (dep x y kn qn)) (KV (.int .i64 0)))) rfl rfl rfl rfl rfl rfl (K2.st (KJ.st _) (KV.st _)) rfl (k_jdep X Y (by decide) (by decide) (by omega) (by omega)) ?_
              refine PW.move rfl rfl rfl rfl rfl ?_
              refine PW.ext (r := .kw (KJ (dep x y kn qn))) rfl rfl rfl rfl rfl ex20 (KJ.st _) rfl ?_
              refine PW.ext (r := .vl (.int .i64 0)) rfl rfl rfl rfl rfl ex21v (KV.st _) rfl ?_
              refine PW.alloc (BI 31) rfl rfl rfl rfl rfl bJ ?_
              refine PW.store (x := .tmp 107) (r := .kw (KJ (dep x y kn qn))) rfl rfl rfl rfl rfl rfl sh_J ?_
              refine PW.assign rfl rfl rfl rfl rfl ?_
              refine PW.nil ?_
              refine SX.then ?_
              refine SC.seq ?_
              refine SC.region ?_
              refine PW.move rfl rfl rfl rfl rfl ?_
              refine PW.move rfl rfl rfl rfl rfl ?_
              refine PW.q2 (x := .tmp 109) (y := .tmp 110) (.bool true) rfl rfl rfl rfl rfl (fun ρ W h1 h2 => by go_simp) ?_
              refine PW.move rfl rfl rfl rfl rfl ?_
              refine PW.load rfl rfl rfl rfl rfl rfl ?_
              refine PW.load rfl rfl rfl rfl rfl rfl ?_
              refine PW.call (r := .vl (.bool true)) rfl rfl rfl rfl rfl rfl (KV.st _) rfl (k_is ((bd_sh300 X n3)) (by first | decide | omega) rfl) ?_
              refine PW.pick (t := true) rfl rfl rfl rfl rfl rfl ?_
              refine PW.move rfl rfl rfl rfl rfl ?_
              refine PW.move rfl rfl rfl rfl rfl ?_
              refine PW.move rfl rfl rfl rfl rfl ?_
              refine PW.q2 (x := .tmp 118) (y := .tmp 119) (.bool true) rfl rfl rfl rfl rfl (fun ρ W h1 h2 => by go_simp) ?_
              refine PW.pick (t := true) rfl rfl rfl rfl rfl rfl ?_
              refine PW.move rfl rfl rfl rfl rfl ?_
              refine PW.load rfl rfl rfl rfl rfl rfl ?_
              refine PW.load rfl rfl rfl rfl rfl rfl ?_
              refine PW.call (r := .vl (.bool true)) rfl rfl rfl rfl rfl rfl (KV.st _) rfl (k_is ((bd.fld X (k := kn) (p := qn) (m := 10) (by omega))) (by first | decide | omega) rfl) ?_
              refine PW.pick (t := true) rfl rfl rfl rfl rfl rfl ?_
              refine PW.move rfl rfl rfl rfl rfl ?_
              refine PW.move rfl rfl rfl rfl rfl ?_
              refine PW.move rfl rfl rfl rfl rfl ?_
              refine PW.q2 (x := .tmp 128) (y := .tmp 129) (.bool true) rfl rfl rfl rfl rfl (fun ρ W h1 h2 => by go_simp) ?_
              refine PW.pick (t := true) rfl rfl rfl rfl rfl rfl ?_
              refine PW.move rfl rfl rfl rfl rfl ?_
              refine PW.load rfl rfl rfl rfl rfl rfl ?_
              refine PW.load rfl rfl rfl rfl rfl rfl ?_
              refine PW.call (r := .vl (.bool true)) rfl rfl rfl rfl rfl rfl (KV.st _) rfl (k_is ((bd.dep X Y (k := kn) (p := qn) (m := 10) (q := 10) (by omega) (by omega))) (by first | decide | omega) rfl) ?_
              refine PW.pick (t := true) rfl rfl rfl rfl rfl rfl ?_
              refine PW.move rfl rfl rfl rfl rfl ?_
              refine PW.call (r := .vl (.bool true)) rfl rfl rfl rfl rfl rfl (KV.st _) rfl (k_awake) ?_
              refine PW.pick (t := true) rfl rfl rfl rfl rfl rfl ?_
              refine PW.assign rfl rfl rfl rfl rfl ?_
              refine PW.nil ?_
              refine SX.then ?_
              refine SC.ret ?_
              exact SX.done (r := .vl (.bool true)) rfl rfl rfl
            · refine SC.region ?_
              refine PW.load rfl rfl rfl rfl rfl rfl ?_
              refine PW.move rfl rfl rfl rfl rfl ?_
              refine PW.move rfl rfl rfl rfl rfl ?_
              refine PW.call (r := .kw (K2 (KI (0)) (KV (.int .i64 1)))) rfl rfl rfl rfl rfl rfl (K2.st (KI.st _) (KV.st _)) rfl (k_field_bad kq) ?_
              refine PW.move rfl rfl rfl rfl rfl ?_
              refine PW.ext (r := .kw (KI (0))) rfl rfl rfl rfl rfl ex20 (KI.st _) rfl ?_
              refine PW.ext (r := .vl (.int .i64 1)) rfl rfl rfl rfl rfl ex21v (KV.st _) rfl ?_
              refine PW.alloc (BI 28) rfl rfl rfl rfl rfl bI ?_
              refine PW.store (x := .tmp 84) (r := .kw (KI (0))) rfl rfl rfl rfl rfl rfl sh_I ?_
              refine PW.assign rfl rfl rfl rfl rfl ?_
              refine PW.nil ?_
              refine SX.then ?_
              refine SC.seq ?_
              refine SC.region ?_
              refine PW.load rfl rfl rfl rfl rfl rfl ?_
              refine PW.move rfl rfl rfl rfl rfl ?_
              refine PW.move rfl rfl rfl rfl rfl ?_
              refine PW.call (r := .kw (K2 (KJ (0)) (KV (.int .i64 1)))) rfl rfl rfl rfl rfl rfl (K2.st (KJ.st _) (KV.st _)) rfl (k_jfield_bad (by omega)) ?_
              refine PW.move rfl rfl rfl rfl rfl ?_
              refine PW.ext (r := .kw (KJ (0))) rfl rfl rfl rfl rfl ex20 (KJ.st _) rfl ?_
              refine PW.ext (r := .vl (.int .i64 1)) rfl rfl rfl rfl rfl ex21v (KV.st _) rfl ?_
              refine PW.alloc (BI 31) rfl rfl rfl rfl rfl bJ ?_
              refine PW.store (x := .tmp 91) (r := .kw (KJ (0))) rfl rfl rfl rfl rfl rfl sh_J ?_
              refine PW.assign rfl rfl rfl rfl rfl ?_
              refine PW.nil ?_
              refine SX.then ?_
              refine SC.seq ?_
              refine SC.region ?_
              refine PW.load rfl rfl rfl rfl rfl rfl ?_
              refine PW.load rfl rfl rfl rfl rfl rfl ?_
              refine PW.move rfl rfl rfl rfl rfl ?_
              refine PW.move rfl rfl rfl rfl rfl ?_
              refine PW.call (r := .kw (K2 (KI (0)) (KV (.int .i64 1)))) rfl rfl rfl rfl rfl rfl (K2.st (KI.st _) (KV.st _)) rfl (k_dep_bad kq) ?_
              refine PW.move rfl rfl rfl rfl rfl ?_
              refine PW.ext (r := .kw (KI (0))) rfl rfl rfl rfl rfl ex20 (KI.st _) rfl ?_
              refine PW.ext (r := .vl (.int .i64 1)) rfl rfl rfl rfl rfl ex21v (KV.st _) rfl ?_
              refine PW.alloc (BI 28) rfl rfl rfl rfl rfl bI ?_
              refine PW.store (x := .tmp 99) (r := .kw (KI (0))) rfl rfl rfl rfl rfl rfl sh_I ?_
              refine PW.assign rfl rfl rfl rfl rfl ?_
              refine PW.nil ?_
              refine SX.then ?_
              refine SC.seq ?_
              refine SC.region ?_
              refine PW.load rfl rfl rfl rfl rfl rfl ?_
              refine PW.load rfl rfl rfl rfl rfl rfl ?_
              refine PW.move rfl rfl rfl rfl rfl ?_
              refine PW.move rfl rfl rfl rfl rfl ?_
              refine PW.call (r := .kw (K2 (KJ (0)) (KV (.int .i64 1)))) rfl rfl rfl rfl rfl rfl (K2.st (KJ.st _) (KV.st _)) rfl (k_jdep_bad (by omega)) ?_
              refine PW.move rfl rfl rfl rfl rfl ?_
              refine PW.ext (r := .kw (KJ (0))) rfl rfl rfl rfl rfl ex20 (KJ.st _) rfl ?_
              refine PW.ext (r := .vl (.int .i64 1)) rfl rfl rfl rfl rfl ex21v (KV.st _) rfl ?_
              refine PW.alloc (BI 31) rfl rfl rfl rfl rfl bJ ?_
              refine PW.store (x := .tmp 107) (r := .kw (KJ (0))) rfl rfl rfl rfl rfl rfl sh_J ?_
              refine PW.assign rfl rfl rfl rfl rfl ?_
              refine PW.nil ?_
              refine SX.then ?_
              refine SC.seq ?_
              refine SC.region ?_
              refine PW.move rfl rfl rfl rfl rfl ?_
              refine PW.move rfl rfl rfl rfl rfl ?_
              refine PW.q2 (x := .tmp 109) (y := .tmp 110) (.bool true) rfl rfl rfl rfl rfl (fun ρ W h1 h2 => by go_simp) ?_
              refine PW.move rfl rfl rfl rfl rfl ?_
              refine PW.load rfl rfl rfl rfl rfl rfl ?_
              refine PW.load rfl rfl rfl rfl rfl rfl ?_
              refine PW.call (r := .vl (.bool true)) rfl rfl rfl rfl rfl rfl (KV.st _) rfl (k_is ((bd_sh300 X n3)) (by first | decide | omega) rfl) ?_
              refine PW.pick (t := true) rfl rfl rfl rfl rfl rfl ?_
              refine PW.move rfl rfl rfl rfl rfl ?_
              refine PW.move rfl rfl rfl rfl rfl ?_
              refine PW.move rfl rfl rfl rfl rfl ?_
              refine PW.q2 (x := .tmp 118) (y := .tmp 119) (.bool true) rfl rfl rfl rfl rfl (fun ρ W h1 h2 => by go_simp) ?_
              refine PW.pick (t := true) rfl rfl rfl rfl rfl rfl ?_
              refine PW.move rfl rfl rfl rfl rfl ?_
              refine PW.load rfl rfl rfl rfl rfl rfl ?_
              refine PW.load rfl rfl rfl rfl rfl rfl ?_
              refine PW.call (r := .vl (.bool true)) rfl rfl rfl rfl rfl rfl (KV.st _) rfl (k_is (bd.zero (a := 1)) (by first | decide | omega) rfl) ?_
              refine PW.pick (t := true) rfl rfl rfl rfl rfl rfl ?_
              refine PW.move rfl rfl rfl rfl rfl ?_
              refine PW.move rfl rfl rfl rfl rfl ?_
              refine PW.move rfl rfl rfl rfl rfl ?_
              refine PW.q2 (x := .tmp 128) (y := .tmp 129) (.bool true) rfl rfl rfl rfl rfl (fun ρ W h1 h2 => by go_simp) ?_
              refine PW.pick (t := true) rfl rfl rfl rfl rfl rfl ?_
              refine PW.move rfl rfl rfl rfl rfl ?_
              refine PW.load rfl rfl rfl rfl rfl rfl ?_
              refine PW.load rfl rfl rfl rfl rfl rfl ?_
              refine PW.call (r := .vl (.bool true)) rfl rfl rfl rfl rfl rfl (KV.st _) rfl (k_is (bd.zero (a := 1)) (by first | decide | omega) rfl) ?_
              refine PW.pick (t := true) rfl rfl rfl rfl rfl rfl ?_
              refine PW.move rfl rfl rfl rfl rfl ?_
              refine PW.call (r := .vl (.bool true)) rfl rfl rfl rfl rfl rfl (KV.st _) rfl (k_awake) ?_
              refine PW.pick (t := true) rfl rfl rfl rfl rfl rfl ?_
              refine PW.assign rfl rfl rfl rfl rfl ?_
              refine PW.nil ?_
              refine SX.then ?_
              refine SC.ret ?_
              exact SX.done (r := .vl (.bool true)) rfl rfl rfl
      · by_cases q3 : q > 300
        · by_cases q6 : q ≤ 65536
          · refine SC.region ?_
            refine PW.loadV rfl rfl rfl rfl rfl rfl ?_
            refine PW.loadV rfl rfl rfl rfl rfl rfl ?_
            refine PW.short 8 [(n1, A1, l1, c1), (n2, A2, l2, c2)] _ rfl rfl rfl (fun a W hf => r_bN2 (hf.vl (s := 27) rfl) (hf.vl (s := 28) rfl)) (fun W => ns_lit2 W) (by simp; exact ⟨In.lim h1, In.lim h2⟩) rfl rfl hs rfl rfl rfl rfl rfl rfl ?_
            refine PW.q1 (x := .tmp 30) (.bool false) rfl rfl rfl rfl (fun ρ W h1 => by go_simp) ?_
            refine PW.move rfl rfl rfl rfl rfl ?_
            refine PW.move rfl rfl rfl rfl rfl ?_
            refine PW.q2 (x := .tmp 33) (y := .const (.int .i64 300)) (.bool false) rfl rfl rfl rfl rfl (fun ρ W h1 h2 => by exact r_gt h1 h2 (decide_eq_false n3)) ?_
            refine PW.move rfl rfl rfl rfl rfl ?_
            refine PW.skip rfl rfl rfl ?_
            refine PW.skip rfl rfl rfl ?_
            refine PW.pick (t := false) rfl rfl rfl rfl rfl rfl ?_
            refine PW.pick (t := false) rfl rfl rfl rfl rfl rfl ?_
            refine PW.move rfl rfl rfl rfl rfl ?_
            refine PW.move rfl rfl rfl rfl rfl ?_
            refine PW.q2 (x := .tmp 41) (y := .const (.int .i64 300)) (.bool false) rfl rfl rfl rfl rfl (fun ρ W h1 h2 => by exact r_gt h1 h2 (decide_eq_false k3)) ?_
            refine PW.move rfl rfl rfl rfl rfl ?_
            refine PW.skip rfl rfl rfl ?_
            refine PW.skip rfl rfl rfl ?_
            refine PW.pick (t := false) rfl rfl rfl rfl rfl rfl ?_
            refine PW.pick (t := false) rfl rfl rfl rfl rfl rfl ?_
            refine PW.move rfl rfl rfl rfl rfl ?_
            refine PW.move rfl rfl rfl rfl rfl ?_
            refine PW.q2 (x := .tmp 49) (y := .const (.int .i64 300)) (.bool true) rfl rfl rfl rfl rfl (fun ρ W h1 h2 => by exact r_gt h1 h2 (decide_eq_true q3)) ?_
            refine PW.move rfl rfl rfl rfl rfl ?_
            refine PW.move rfl rfl rfl rfl rfl ?_
            refine PW.q2 (x := .tmp 52) (y := .const (.int .i64 65536)) (.bool true) rfl rfl rfl rfl rfl (fun ρ W h1 h2 => by exact r_le h1 h2 (decide_eq_true q6)) ?_
            refine PW.pick (t := true) rfl rfl rfl rfl rfl rfl ?_
            refine PW.pick (t := false) rfl rfl rfl rfl rfl rfl ?_
            refine PW.nil ?_
            refine SX.then ?_
            refine SC.cond (t := true) rfl ?_
            refine SC.seq ?_
            refine SC.region ?_
            refine PW.call (r := .vl (.bool true)) rfl rfl rfl rfl rfl rfl (KV.st _) rfl (k_awake) ?_
            refine PW.assign rfl rfl rfl rfl rfl ?_
            refine PW.nil ?_
            refine SX.then ?_
            refine SC.ret ?_
            refine SX.thenR ?_
            exact SX.done (r := .vl (.bool true)) rfl rfl rfl
          · refine SC.region ?_
            refine PW.loadV rfl rfl rfl rfl rfl rfl ?_
            refine PW.loadV rfl rfl rfl rfl rfl rfl ?_
            refine PW.short 8 [(n1, A1, l1, c1), (n2, A2, l2, c2)] _ rfl rfl rfl (fun a W hf => r_bN2 (hf.vl (s := 27) rfl) (hf.vl (s := 28) rfl)) (fun W => ns_lit2 W) (by simp; exact ⟨In.lim h1, In.lim h2⟩) rfl rfl hs rfl rfl rfl rfl rfl rfl ?_
            refine PW.q1 (x := .tmp 30) (.bool false) rfl rfl rfl rfl (fun ρ W h1 => by go_simp) ?_
            refine PW.move rfl rfl rfl rfl rfl ?_
            refine PW.move rfl rfl rfl rfl rfl ?_
            refine PW.q2 (x := .tmp 33) (y := .const (.int .i64 300)) (.bool false) rfl rfl rfl rfl rfl (fun ρ W h1 h2 => by exact r_gt h1 h2 (decide_eq_false n3)) ?_
            refine PW.move rfl rfl rfl rfl rfl ?_
            refine PW.skip rfl rfl rfl ?_
            refine PW.skip rfl rfl rfl ?_
            refine PW.pick (t := false) rfl rfl rfl rfl rfl rfl ?_
            refine PW.pick (t := false) rfl rfl rfl rfl rfl rfl ?_
            refine PW.move rfl rfl rfl rfl rfl ?_
            refine PW.move rfl rfl rfl rfl rfl ?_
            refine PW.q2 (x := .tmp 41) (y := .const (.int .i64 300)) (.bool false) rfl rfl rfl rfl rfl (fun ρ W h1 h2 => by exact r_gt h1 h2 (decide_eq_false k3)) ?_
            refine PW.move rfl rfl rfl rfl rfl ?_
            refine PW.skip rfl rfl rfl ?_
            refine PW.skip rfl rfl rfl ?_
            refine PW.pick (t := false) rfl rfl rfl rfl rfl rfl ?_
            refine PW.pick (t := false) rfl rfl rfl rfl rfl rfl ?_
            refine PW.move rfl rfl rfl rfl rfl ?_
            refine PW.move rfl rfl rfl rfl rfl ?_
            refine PW.q2 (x := .tmp 49) (y := .const (.int .i64 300)) (.bool true) rfl rfl rfl rfl rfl (fun ρ W h1 h2 => by exact r_gt h1 h2 (decide_eq_true q3)) ?_
            refine PW.move rfl rfl rfl rfl rfl ?_
            refine PW.move rfl rfl rfl rfl rfl ?_
            refine PW.q2 (x := .tmp 52) (y := .const (.int .i64 65536)) (.bool false) rfl rfl rfl rfl rfl (fun ρ W h1 h2 => by exact r_le h1 h2 (decide_eq_false q6)) ?_
            refine PW.pick (t := true) rfl rfl rfl rfl rfl rfl ?_
            refine PW.pick (t := false) rfl rfl rfl rfl rfl rfl ?_
            refine PW.nil ?_
            refine SX.then ?_
            refine SC.cond (t := false) rfl ?_
            refine SC.skip ?_
            refine SX.then ?_
            refine SC.seq ?_
            refine SC.region ?_
            refine PW.loadV rfl rfl rfl rfl rfl rfl ?_
            refine PW.callG (r := .kw (K2 (KI (x)) (KJ (x)))) ce_of rfl rfl rfl rfl rfl (K2.st (KI.st _) (KJ.st _)) rfl (fun a W hf => by have e1 := hf.vl (s := 58) rfl; show Calls Try.prog _ #[a.tmps.getD 58 undef] W _; rw [e1]; exact of_in h1 hf.be (by omega) hz1) ?_
            refine PW.move rfl rfl rfl rfl rfl ?_
            refine PW.ext (r := .kw (KI (x))) rfl rfl rfl rfl rfl ex20 (KI.st _) rfl ?_
            refine PW.ext (r := .kw (KJ (x))) rfl rfl rfl rfl rfl ex21 (KJ.st _) rfl ?_
            refine PW.alloc (BI 28) rfl rfl rfl rfl rfl bI ?_
            refine PW.alloc (BI 31) rfl rfl rfl rfl rfl bJ ?_
            refine PW.store (x := .tmp 60) (r := .kw (KI (x))) rfl rfl rfl rfl rfl rfl sh_I ?_
            refine PW.store (x := .tmp 61) (r := .kw (KJ (x))) rfl rfl rfl rfl rfl rfl sh_J ?_
            refine PW.nil ?_
            refine SX.then ?_
            refine SC.seq ?_
            refine SC.region ?_
            refine PW.loadV rfl rfl rfl rfl rfl rfl ?_
            refine PW.callG (r := .kw (K2 (KI (y)) (KJ (y)))) ce_of rfl rfl rfl rfl rfl (K2.st (KI.st _) (KJ.st _)) rfl (fun a W hf => by have e1 := hf.vl (s := 63) rfl; show Calls Try.prog _ #[a.tmps.getD 63 undef] W _; rw [e1]; exact of_in h2 hf.be (by omega) hz2) ?_
            refine PW.move rfl rfl rfl rfl rfl ?_
            refine PW.ext (r := .kw (KI (y))) rfl rfl rfl rfl rfl ex20 (KI.st _) rfl ?_
            refine PW.ext (r := .kw (KJ (y))) rfl rfl rfl rfl rfl ex21 (KJ.st _) rfl ?_
            refine PW.alloc (BI 28) rfl rfl rfl rfl rfl bI ?_
            refine PW.alloc (BI 31) rfl rfl rfl rfl rfl bJ ?_
            refine PW.store (x := .tmp 65) (r := .kw (KI (y))) rfl rfl rfl rfl rfl rfl sh_I ?_
            refine PW.store (x := .tmp 66) (r := .kw (KJ (y))) rfl rfl rfl rfl rfl rfl sh_J ?_
            refine PW.nil ?_
            refine SX.then ?_
            refine SC.seq ?_
            refine SC.region ?_
            refine PW.load rfl rfl rfl rfl rfl rfl ?_
            refine PW.move rfl rfl rfl rfl rfl ?_
            refine PW.call (r := .kw (K2 (KI (sh x n)) (KV (.int .i64 0)))) rfl rfl rfl rfl rfl rfl (K2.st (KI.st _) (KV.st _)) rfl (k_Shift X (by decide) hnr.1 hnr.2 (sh300 X n3)) ?_
            refine PW.move rfl rfl rfl rfl rfl ?_
            refine PW.ext (r := .kw (KI (sh x n))) rfl rfl rfl rfl rfl ex20 (KI.st _) rfl ?_
            refine PW.ext (r := .vl (.int .i64 0)) rfl rfl rfl rfl rfl ex21v (KV.st _) rfl ?_
            refine PW.alloc (BI 28) rfl rfl rfl rfl rfl bI ?_
            refine PW.store (x := .tmp 71) (r := .kw (KI (sh x n))) rfl rfl rfl rfl rfl rfl sh_I ?_
            refine PW.assign rfl rfl rfl rfl rfl ?_
            refine PW.nil ?_
            refine SX.then ?_
            refine SC.seq ?_
            refine SC.region ?_
            refine PW.load rfl rfl rfl rfl rfl rfl ?_
            refine PW.move rfl rfl rfl rfl rfl ?_
            refine PW.call (r := .kw (K2 (KJ (sh x n)) (KV (.int .i64 0)))) rfl rfl rfl rfl rfl rfl (K2.st (KJ.st _) (KV.st _)) rfl (k_jshift X (by decide) hnr.1 hnr.2 (sh300 X n3)) ?_
            refine PW.move rfl rfl rfl rfl rfl ?_
            refine PW.ext (r := .kw (KJ (sh x n))) rfl rfl rfl rfl rfl ex20 (KJ.st _) rfl ?_
            refine PW.ext (r := .vl (.int .i64 0)) rfl rfl rfl rfl rfl ex21v (KV.st _) rfl ?_
            refine PW.alloc (BI 31) rfl rfl rfl rfl rfl bJ ?_
            refine PW.store (x := .tmp 77) (r := .kw (KJ (sh x n))) rfl rfl rfl rfl rfl rfl sh_J ?_
            refine PW.assign rfl rfl rfl rfl rfl ?_
            refine PW.nil ?_
            refine SX.then ?_
            refine SC.seq ?_
            by_cases kq : 0 ≤ k ∧ k ≤ 65536 ∧ 0 ≤ q ∧ q ≤ 65536
            · obtain ⟨kn, rfl⟩ : ∃ m : Nat, k = m := ⟨k.toNat, by omega⟩
              obtain ⟨qn, rfl⟩ : ∃ m : Nat, q = m := ⟨q.toNat, by omega⟩
              refine SC.region ?_
              refine PW.load rfl rfl rfl rfl rfl rfl ?_
              refine PW.move rfl rfl rfl rfl rfl ?_
              refine PW.move rfl rfl rfl rfl rfl ?_
              refine PW.call (r := .kw (K2 (KI (fld x kn qn)) (KV (.int .i64 0)))) rfl rfl rfl rfl rfl rfl (K2.st (KI.st _) (KV.st _)) rfl (k_field X (by decide) (by omega) (by omega)) ?_
              refine PW.move rfl rfl rfl rfl rfl ?_
              refine PW.ext (r := .kw (KI (fld x kn qn))) rfl rfl rfl rfl rfl ex20 (KI.st _) rfl ?_
              refine PW.ext (r := .vl (.int .i64 0)) rfl rfl rfl rfl rfl ex21v (KV.st _) rfl ?_
              refine PW.alloc (BI 28) rfl rfl rfl rfl rfl bI ?_
              refine PW.store (x := .tmp 84) (r := .kw (KI (fld x kn qn))) rfl rfl rfl rfl rfl rfl sh_I ?_
              refine PW.assign rfl rfl rfl rfl rfl ?_
              refine PW.nil ?_
              refine SX.then ?_
              refine SC.seq ?_
              refine SC.region ?_
              refine PW.load rfl rfl rfl rfl rfl rfl ?_
              refine PW.move rfl rfl rfl rfl rfl ?_
              refine PW.move rfl rfl rfl rfl rfl ?_
              refine PW.call (r := .kw (K2 (KJ (fld x kn qn)) (KV (.int .i64 0)))) rfl rfl rfl rfl rfl rfl (K2.st (KJ.st _) (KV.st _)) rfl (k_jfield X (by decide) (by omega) (by omega)) ?_
              refine PW.move rfl rfl rfl rfl rfl ?_
              refine PW.ext (r := .kw (KJ (fld x kn qn))) rfl rfl rfl rfl rfl ex20 (KJ.st _) rfl ?_
              refine PW.ext (r := .vl (.int .i64 0)) rfl rfl rfl rfl rfl ex21v (KV.st _) rfl ?_
              refine PW.alloc (BI 31) rfl rfl rfl rfl rfl bJ ?_
              refine PW.store (x := .tmp 91) (r := .kw (KJ (fld x kn qn))) rfl rfl rfl rfl rfl rfl sh_J ?_
              refine PW.assign rfl rfl rfl rfl rfl ?_
              refine PW.nil ?_
              refine SX.then ?_
              refine SC.seq ?_
              refine SC.region ?_
              refine PW.load rfl rfl rfl rfl rfl rfl ?_
              refine PW.load rfl rfl rfl rfl rfl rfl ?_
              refine PW.move rfl rfl rfl rfl rfl ?_
              refine PW.move rfl rfl rfl rfl rfl ?_
              refine PW.call (r := .kw (K2 (KI (dep x y kn qn)) (KV (.int .i64 0)))) rfl rfl rfl rfl rfl rfl (K2.st (KI.st _) (KV.st _)) rfl (k_dep X Y (by decide) (by decide) (by omega) (by omega)) ?_
              refine PW.move rfl rfl rfl rfl rfl ?_
              refine PW.ext (r := .kw (KI (dep x y kn qn))) rfl rfl rfl rfl rfl ex20 (KI.st _) rfl ?_
              refine PW.ext (r := .vl (.int .i64 0)) rfl rfl rfl rfl rfl ex21v (KV.st _) rfl ?_
              refine PW.alloc (BI 28) rfl rfl rfl rfl rfl bI ?_
              refine PW.store (x := .tmp 99) (r := .kw (KI (dep x y kn qn))) rfl rfl rfl rfl rfl rfl sh_I ?_
              refine PW.assign rfl rfl rfl rfl rfl ?_
              refine PW.nil ?_
              refine SX.then ?_
              refine SC.seq ?_
              refine SC.region ?_
              refine PW.load rfl rfl rfl rfl rfl rfl ?_
              refine PW.load rfl rfl rfl rfl rfl rfl ?_
              refine PW.move rfl rfl rfl rfl rfl ?_
              refine PW.move rfl rfl rfl rfl rfl ?_
              refine PW.call (r := .kw (K2 (KJ (dep x y kn qn)) (KV (.int .i64 0)))) rfl rfl rfl rfl rfl rfl (K2.st (KJ.st _) (KV.st _)) rfl (k_jdep X Y (by decide) (by decide) (by omega) (by omega)) ?_
              refine PW.move rfl rfl rfl rfl rfl ?_
              refine PW.ext (r := .kw (KJ (dep x y kn qn))) rfl rfl rfl rfl rfl ex20 (KJ.st _) rfl ?_
              refine PW.ext (r := .vl (.int .i64 0)) rfl rfl rfl rfl rfl ex21v (KV.st _) rfl ?_
              refine PW.alloc (BI 31) rfl rfl rfl rfl rfl bJ ?_
              refine PW.store (x := .tmp 107) (r := .kw (KJ (dep x y kn qn))) rfl rfl rfl rfl rfl rfl sh_J ?_
              refine PW.assign rfl rfl rfl rfl rfl ?_
              refine PW.nil ?_
              refine SX.then ?_
              refine SC.seq ?_
              refine SC.region ?_
              refine PW.move rfl rfl rfl rfl rfl ?_
              refine PW.move rfl rfl rfl rfl rfl ?_
              refine PW.q2 (x := .tmp 109) (y := .tmp 110) (.bool true) rfl rfl rfl rfl rfl (fun ρ W h1 h2 => by go_simp) ?_
              refine PW.move rfl rfl rfl rfl rfl ?_
              refine PW.load rfl rfl rfl rfl rfl rfl ?_
              refine PW.load rfl rfl rfl rfl rfl rfl ?_
              refine PW.call (r := .vl (.bool true)) rfl rfl rfl rfl rfl rfl (KV.st _) rfl (k_is ((bd_sh300 X n3)) (by first | decide | omega) rfl) ?_
              refine PW.pick (t := true) rfl rfl rfl rfl rfl rfl ?_
              refine PW.move rfl rfl rfl rfl rfl ?_
              refine PW.move rfl rfl rfl rfl rfl ?_
              refine PW.move rfl rfl rfl rfl rfl ?_
              refine PW.q2 (x := .tmp 118) (y := .tmp 119) (.bool true) rfl rfl rfl rfl rfl (fun ρ W h1 h2 => by go_simp) ?_
              refine PW.pick (t := true) rfl rfl rfl rfl rfl rfl ?_
              refine PW.move rfl rfl rfl rfl rfl ?_
              refine PW.load rfl rfl rfl rfl rfl rfl ?_
              refine PW.load rfl rfl rfl rfl rfl rfl ?_
              refine PW.call (r := .vl (.bool true)) rfl rfl rfl rfl rfl rfl (KV.st _) rfl (k_is ((bd.fld X (k := kn) (p := qn) (m := 10) (by omega))) (by first | decide | omega) rfl) ?_
              refine PW.pick (t := true) rfl rfl rfl rfl rfl rfl ?_
              refine PW.move rfl rfl rfl rfl rfl ?_
              refine PW.move rfl rfl rfl rfl rfl ?_
              refine PW.move rfl rfl rfl rfl rfl ?_
              refine PW.q2 (x := .tmp 128) (y := .tmp 129) (.bool true) rfl rfl rfl rfl rfl (fun ρ W h1 h2 => by go_simp) ?_
              refine PW.pick (t := true) rfl rfl rfl rfl rfl rfl ?_
              refine PW.move rfl rfl rfl rfl rfl ?_
              refine PW.load rfl rfl rfl rfl rfl rfl ?_
              refine PW.load rfl rfl rfl rfl rfl rfl ?_
              refine PW.call (r := .vl (.bool true)) rfl rfl rfl rfl rfl rfl (KV.st _) rfl (k_is ((bd.dep X Y (k := kn) (p := qn) (m := 10) (q := 10) (by omega) (by omega))) (by first | decide | omega) rfl) ?_
              refine PW.pick (t := true) rfl rfl rfl rfl rfl rfl ?_
              refine PW.move rfl rfl rfl rfl rfl ?_
              refine PW.call (r := .vl (.bool true)) rfl rfl rfl rfl rfl rfl (KV.st _) rfl (k_awake) ?_
              refine PW.pick (t := true) rfl rfl rfl rfl rfl rfl ?_
              refine PW.assign rfl rfl rfl rfl rfl ?_
              refine PW.nil ?_
              refine SX.then ?_
              refine SC.ret ?_
              exact SX.done (r := .vl (.bool true)) rfl rfl rfl
            · refine SC.region ?_
              refine PW.load rfl rfl rfl rfl rfl rfl ?_
              refine PW.move rfl rfl rfl rfl rfl ?_
              refine PW.move rfl rfl rfl rfl rfl ?_
              refine PW.call (r := .kw (K2 (KI (0)) (KV (.int .i64 1)))) rfl rfl rfl rfl rfl rfl (K2.st (KI.st _) (KV.st _)) rfl (k_field_bad kq) ?_
              refine PW.move rfl rfl rfl rfl rfl ?_
              refine PW.ext (r := .kw (KI (0))) rfl rfl rfl rfl rfl ex20 (KI.st _) rfl ?_
              refine PW.ext (r := .vl (.int .i64 1)) rfl rfl rfl rfl rfl ex21v (KV.st _) rfl ?_
              refine PW.alloc (BI 28) rfl rfl rfl rfl rfl bI ?_
              refine PW.store (x := .tmp 84) (r := .kw (KI (0))) rfl rfl rfl rfl rfl rfl sh_I ?_
              refine PW.assign rfl rfl rfl rfl rfl ?_
              refine PW.nil ?_
              refine SX.then ?_
              refine SC.seq ?_
              refine SC.region ?_
              refine PW.load rfl rfl rfl rfl rfl rfl ?_
              refine PW.move rfl rfl rfl rfl rfl ?_
              refine PW.move rfl rfl rfl rfl rfl ?_
              refine PW.call (r := .kw (K2 (KJ (0)) (KV (.int .i64 1)))) rfl rfl rfl rfl rfl rfl (K2.st (KJ.st _) (KV.st _)) rfl (k_jfield_bad (by omega)) ?_
              refine PW.move rfl rfl rfl rfl rfl ?_
              refine PW.ext (r := .kw (KJ (0))) rfl rfl rfl rfl rfl ex20 (KJ.st _) rfl ?_
              refine PW.ext (r := .vl (.int .i64 1)) rfl rfl rfl rfl rfl ex21v (KV.st _) rfl ?_
              refine PW.alloc (BI 31) rfl rfl rfl rfl rfl bJ ?_
              refine PW.store (x := .tmp 91) (r := .kw (KJ (0))) rfl rfl rfl rfl rfl rfl sh_J ?_
              refine PW.assign rfl rfl rfl rfl rfl ?_
              refine PW.nil ?_
              refine SX.then ?_
              refine SC.seq ?_
              refine SC.region ?_
              refine PW.load rfl rfl rfl rfl rfl rfl ?_
              refine PW.load rfl rfl rfl rfl rfl rfl ?_
              refine PW.move rfl rfl rfl rfl rfl ?_
              refine PW.move rfl rfl rfl rfl rfl ?_
              refine PW.call (r := .kw (K2 (KI (0)) (KV (.int .i64 1)))) rfl rfl rfl rfl rfl rfl (K2.st (KI.st _) (KV.st _)) rfl (k_dep_bad kq) ?_
              refine PW.move rfl rfl rfl rfl rfl ?_
              refine PW.ext (r := .kw (KI (0))) rfl rfl rfl rfl rfl ex20 (KI.st _) rfl ?_
              refine PW.ext (r := .vl (.int .i64 1)) rfl rfl rfl rfl rfl ex21v (KV.st _) rfl ?_
              refine PW.alloc (BI 28) rfl rfl rfl rfl rfl bI ?_
              refine PW.store (x := .tmp 99) (r := .kw (KI (0))) rfl rfl rfl rfl rfl rfl sh_I ?_
              refine PW.assign rfl rfl rfl rfl rfl ?_
              refine PW.nil ?_
              refine SX.then ?_
              refine SC.seq ?_
              refine SC.region ?_
              refine PW.load rfl rfl rfl rfl rfl rfl ?_
              refine PW.load rfl rfl rfl rfl rfl rfl ?_
              refine PW.move rfl rfl rfl rfl rfl ?_
              refine PW.move rfl rfl rfl rfl rfl ?_
              refine PW.call (r := .kw (K2 (KJ (0)) (KV (.int .i64 1)))) rfl rfl rfl rfl rfl rfl (K2.st (KJ.st _) (KV.st _)) rfl (k_jdep_bad (by omega)) ?_
              refine PW.move rfl rfl rfl rfl rfl ?_
              refine PW.ext (r := .kw (KJ (0))) rfl rfl rfl rfl rfl ex20 (KJ.st _) rfl ?_
              refine PW.ext (r := .vl (.int .i64 1)) rfl rfl rfl rfl rfl ex21v (KV.st _) rfl ?_
              refine PW.alloc (BI 31) rfl rfl rfl rfl rfl bJ ?_
              refine PW.store (x := .tmp 107) (r := .kw (KJ (0))) rfl rfl rfl rfl rfl rfl sh_J ?_
              refine PW.assign rfl rfl rfl rfl rfl ?_
              refine PW.nil ?_
              refine SX.then ?_
              refine SC.seq ?_
              refine SC.region ?_
              refine PW.move rfl rfl rfl rfl rfl ?_
              refine PW.move rfl rfl rfl rfl rfl ?_
              refine PW.q2 (x := .tmp 109) (y := .tmp 110) (.bool true) rfl rfl rfl rfl rfl (fun ρ W h1 h2 => by go_simp) ?_
              refine PW.move rfl rfl rfl rfl rfl ?_
              refine PW.load rfl rfl rfl rfl rfl rfl ?_
              refine PW.load rfl rfl rfl rfl rfl rfl ?_
              refine PW.call (r := .vl (.bool true)) rfl rfl rfl rfl rfl rfl (KV.st _) rfl (k_is ((bd_sh300 X n3)) (by first | decide | omega) rfl) ?_
              refine PW.pick (t := true) rfl rfl rfl rfl rfl rfl ?_
              refine PW.move rfl rfl rfl rfl rfl ?_
              refine PW.move rfl rfl rfl rfl rfl ?_
              refine PW.move rfl rfl rfl rfl rfl ?_
              refine PW.q2 (x := .tmp 118) (y := .tmp 119) (.bool true) rfl rfl rfl rfl rfl (fun ρ W h1 h2 => by go_simp) ?_
              refine PW.pick (t := true) rfl rfl rfl rfl rfl rfl ?_
              refine PW.move rfl rfl rfl rfl rfl ?_
              refine PW.load rfl rfl rfl rfl rfl rfl ?_
              refine PW.load rfl rfl rfl rfl rfl rfl ?_
              refine PW.call (r := .vl (.bool true)) rfl rfl rfl rfl rfl rfl (KV.st _) rfl (k_is (bd.zero (a := 1)) (by first | decide | omega) rfl) ?_
              refine PW.pick (t := true) rfl rfl rfl rfl rfl rfl ?_
              refine PW.move rfl rfl rfl rfl rfl ?_
              refine PW.move rfl rfl rfl rfl rfl ?_
              refine PW.move rfl rfl rfl rfl rfl ?_
              refine PW.q2 (x := .tmp 128) (y := .tmp 129) (.bool true) rfl rfl rfl rfl rfl (fun ρ W h1 h2 => by go_simp) ?_
              refine PW.pick (t := true) rfl rfl rfl rfl rfl rfl ?_
              refine PW.move rfl rfl rfl rfl rfl ?_
              refine PW.load rfl rfl rfl rfl rfl rfl ?_
              refine PW.load rfl rfl rfl rfl rfl rfl ?_
              refine PW.call (r := .vl (.bool true)) rfl rfl rfl rfl rfl rfl (KV.st _) rfl (k_is (bd.zero (a := 1)) (by first | decide | omega) rfl) ?_
              refine PW.pick (t := true) rfl rfl rfl rfl rfl rfl ?_
              refine PW.move rfl rfl rfl rfl rfl ?_
              refine PW.call (r := .vl (.bool true)) rfl rfl rfl rfl rfl rfl (KV.st _) rfl (k_awake) ?_
              refine PW.pick (t := true) rfl rfl rfl rfl rfl rfl ?_
              refine PW.assign rfl rfl rfl rfl rfl ?_
              refine PW.nil ?_
              refine SX.then ?_
              refine SC.ret ?_
              exact SX.done (r := .vl (.bool true)) rfl rfl rfl
        · refine SC.region ?_
          refine PW.loadV rfl rfl rfl rfl rfl rfl ?_
          refine PW.loadV rfl rfl rfl rfl rfl rfl ?_
          refine PW.short 8 [(n1, A1, l1, c1), (n2, A2, l2, c2)] _ rfl rfl rfl (fun a W hf => r_bN2 (hf.vl (s := 27) rfl) (hf.vl (s := 28) rfl)) (fun W => ns_lit2 W) (by simp; exact ⟨In.lim h1, In.lim h2⟩) rfl rfl hs rfl rfl rfl rfl rfl rfl ?_
          refine PW.q1 (x := .tmp 30) (.bool false) rfl rfl rfl rfl (fun ρ W h1 => by go_simp) ?_
          refine PW.move rfl rfl rfl rfl rfl ?_
          refine PW.move rfl rfl rfl rfl rfl ?_
          refine PW.q2 (x := .tmp 33) (y := .const (.int .i64 300)) (.bool false) rfl rfl rfl rfl rfl (fun ρ W h1 h2 => by exact r_gt h1 h2 (decide_eq_false n3)) ?_
          refine PW.move rfl rfl rfl rfl rfl ?_
          refine PW.skip rfl rfl rfl ?_
          refine PW.skip rfl rfl rfl ?_
          refine PW.pick (t := false) rfl rfl rfl rfl rfl rfl ?_
          refine PW.pick (t := false) rfl rfl rfl rfl rfl rfl ?_
          refine PW.move rfl rfl rfl rfl rfl ?_
          refine PW.move rfl rfl rfl rfl rfl ?_
          refine PW.q2 (x := .tmp 41) (y := .const (.int .i64 300)) (.bool false) rfl rfl rfl rfl rfl (fun ρ W h1 h2 => by exact r_gt h1 h2 (decide_eq_false k3)) ?_
          refine PW.move rfl rfl rfl rfl rfl ?_
          refine PW.skip rfl rfl rfl ?_
          refine PW.skip rfl rfl rfl ?_
          refine PW.pick (t := false) rfl rfl rfl rfl rfl rfl ?_
          refine PW.pick (t := false) rfl rfl rfl rfl rfl rfl ?_
          refine PW.move rfl rfl rfl rfl rfl ?_
          refine PW.move rfl rfl rfl rfl rfl ?_
          refine PW.q2 (x := .tmp 49) (y := .const (.int .i64 300)) (.bool false) rfl rfl rfl rfl rfl (fun ρ W h1 h2 => by exact r_gt h1 h2 (decide_eq_false q3)) ?_
          refine PW.move rfl rfl rfl rfl rfl ?_
          refine PW.skip rfl rfl rfl ?_
          refine PW.skip rfl rfl rfl ?_
          refine PW.pick (t := false) rfl rfl rfl rfl rfl rfl ?_
          refine PW.pick (t := false) rfl rfl rfl rfl rfl rfl ?_
          refine PW.nil ?_
          refine SX.then ?_
          refine SC.cond (t := false) rfl ?_
          refine SC.skip ?_
          refine SX.then ?_
          refine SC.seq ?_
          refine SC.region ?_
          refine PW.loadV rfl rfl rfl rfl rfl rfl ?_
          refine PW.callG (r := .kw (K2 (KI (x)) (KJ (x)))) ce_of rfl rfl rfl rfl rfl (K2.st (KI.st _) (KJ.st _)) rfl (fun a W hf => by have e1 := hf.vl (s := 58) rfl; show Calls Try.prog _ #[a.tmps.getD 58 undef] W _; rw [e1]; exact of_in h1 hf.be (by omega) hz1) ?_
          refine PW.move rfl rfl rfl rfl rfl ?_
          refine PW.ext (r := .kw (KI (x))) rfl rfl rfl rfl rfl ex20 (KI.st _) rfl ?_
          refine PW.ext (r := .kw (KJ (x))) rfl rfl rfl rfl rfl ex21 (KJ.st _) rfl ?_
          refine PW.alloc (BI 28) rfl rfl rfl rfl rfl bI ?_
          refine PW.alloc (BI 31) rfl rfl rfl rfl rfl bJ ?_
          refine PW.store (x := .tmp 60) (r := .kw (KI (x))) rfl rfl rfl rfl rfl rfl sh_I ?_
          refine PW.store (x := .tmp 61) (r := .kw (KJ (x))) rfl rfl rfl rfl rfl rfl sh_J ?_
          refine PW.nil ?_
          refine SX.then ?_
          refine SC.seq ?_
          refine SC.region ?_
          refine PW.loadV rfl rfl rfl rfl rfl rfl ?_
          refine PW.callG (r := .kw (K2 (KI (y)) (KJ (y)))) ce_of rfl rfl rfl rfl rfl (K2.st (KI.st _) (KJ.st _)) rfl (fun a W hf => by have e1 := hf.vl (s := 63) rfl; show Calls Try.prog _ #[a.tmps.getD 63 undef] W _; rw [e1]; exact of_in h2 hf.be (by omega) hz2) ?_
          refine PW.move rfl rfl rfl rfl rfl ?_
          refine PW.ext (r := .kw (KI (y))) rfl rfl rfl rfl rfl ex20 (KI.st _) rfl ?_
          refine PW.ext (r := .kw (KJ (y))) rfl rfl rfl rfl rfl ex21 (KJ.st _) rfl ?_
          refine PW.alloc (BI 28) rfl rfl rfl rfl rfl bI ?_
          refine PW.alloc (BI 31) rfl rfl rfl rfl rfl bJ ?_
          refine PW.store (x := .tmp 65) (r := .kw (KI (y))) rfl rfl rfl rfl rfl rfl sh_I ?_
          refine PW.store (x := .tmp 66) (r := .kw (KJ (y))) rfl rfl rfl rfl rfl rfl sh_J ?_
          refine PW.nil ?_
          refine SX.then ?_
          refine SC.seq ?_
          refine SC.region ?_
          refine PW.load rfl rfl rfl rfl rfl rfl ?_
          refine PW.move rfl rfl rfl rfl rfl ?_
          refine PW.call (r := .kw (K2 (KI (sh x n)) (KV (.int .i64 0)))) rfl rfl rfl rfl rfl rfl (K2.st (KI.st _) (KV.st _)) rfl (k_Shift X (by decide) hnr.1 hnr.2 (sh300 X n3)) ?_
          refine PW.move rfl rfl rfl rfl rfl ?_
          refine PW.ext (r := .kw (KI (sh x n))) rfl rfl rfl rfl rfl ex20 (KI.st _) rfl ?_
          refine PW.ext (r := .vl (.int .i64 0)) rfl rfl rfl rfl rfl ex21v (KV.st _) rfl ?_
          refine PW.alloc (BI 28) rfl rfl rfl rfl rfl bI ?_
          refine PW.store (x := .tmp 71) (r := .kw (KI (sh x n))) rfl rfl rfl rfl rfl rfl sh_I ?_
          refine PW.assign rfl rfl rfl rfl rfl ?_
          refine PW.nil ?_
          refine SX.then ?_
          refine SC.seq ?_
          refine SC.region ?_
          refine PW.load rfl rfl rfl rfl rfl rfl ?_
          refine PW.move rfl rfl rfl rfl rfl ?_
          refine PW.call (r := .kw (K2 (KJ (sh x n)) (KV (.int .i64 0)))) rfl rfl rfl rfl rfl rfl (K2.st (KJ.st _) (KV.st _)) rfl (k_jshift X (by decide) hnr.1 hnr.2 (sh300 X n3)) ?_
          refine PW.move rfl rfl rfl rfl rfl ?_
          refine PW.ext (r := .kw (KJ (sh x n))) rfl rfl rfl rfl rfl ex20 (KJ.st _) rfl ?_
          refine PW.ext (r := .vl (.int .i64 0)) rfl rfl rfl rfl rfl ex21v (KV.st _) rfl ?_
          refine PW.alloc (BI 31) rfl rfl rfl rfl rfl bJ ?_
          refine PW.store (x := .tmp 77) (r := .kw (KJ (sh x n))) rfl rfl rfl rfl rfl rfl sh_J ?_
          refine PW.assign rfl rfl rfl rfl rfl ?_
          refine PW.nil ?_
          refine SX.then ?_
          refine SC.seq ?_
          by_cases kq : 0 ≤ k ∧ k ≤ 65536 ∧ 0 ≤ q ∧ q ≤ 65536
          · obtain ⟨kn, rfl⟩ : ∃ m : Nat, k = m := ⟨k.toNat, by omega⟩
            obtain ⟨qn, rfl⟩ : ∃ m : Nat, q = m := ⟨q.toNat, by omega⟩
            refine SC.region ?_
            refine PW.load rfl rfl rfl rfl rfl rfl ?_
            refine PW.move rfl rfl rfl rfl rfl ?_
            refine PW.move rfl rfl rfl rfl rfl ?_
            refine PW.call (r := .kw (K2 (KI (fld x kn qn)) (KV (.int .i64 0)))) rfl rfl rfl rfl rfl rfl (K2.st (KI.st _) (KV.st _)) rfl (k_field X (by decide) (by omega) (by omega)) ?_
            refine PW.move rfl rfl rfl rfl rfl ?_
            refine PW.ext (r := .kw (KI (fld x kn qn))) rfl rfl rfl rfl rfl ex20 (KI.st _) rfl ?_
            refine PW.ext (r := .vl (.int .i64 0)) rfl rfl rfl rfl rfl ex21v (KV.st _) rfl ?_
            refine PW.alloc (BI 28) rfl rfl rfl rfl rfl bI ?_
            refine PW.store (x := .tmp 84) (r := .kw (KI (fld x kn qn))) rfl rfl rfl rfl rfl rfl sh_I ?_
            refine PW.assign rfl rfl rfl rfl rfl ?_
            refine PW.nil ?_
            refine SX.then ?_
            refine SC.seq ?_
            refine SC.region ?_
            refine PW.load rfl rfl rfl rfl rfl rfl ?_
            refine PW.move rfl rfl rfl rfl rfl ?_
            refine PW.move rfl rfl rfl rfl rfl ?_
            refine PW.call (r := .kw (K2 (KJ (fld x kn qn)) (KV (.int .i64 0)))) rfl rfl rfl rfl rfl rfl (K2.st (KJ.st _) (KV.st _)) rfl (k_jfield X (by decide) (by omega) (by omega)) ?_
            refine PW.move rfl rfl rfl rfl rfl ?_
            refine PW.ext (r := .kw (KJ (fld x kn qn))) rfl rfl rfl rfl rfl ex20 (KJ.st _) rfl ?_
            refine PW.ext (r := .vl (.int .i64 0)) rfl rfl rfl rfl rfl ex21v (KV.st _) rfl ?_
            refine PW.alloc (BI 31) rfl rfl rfl rfl rfl bJ ?_
            refine PW.store (x := .tmp 91) (r := .kw (KJ (fld x kn qn))) rfl rfl rfl rfl rfl rfl sh_J ?_
            refine PW.assign rfl rfl rfl rfl rfl ?_
            refine PW.nil ?_
            refine SX.then ?_
            refine SC.seq ?_
            refine SC.region ?_
            refine PW.load rfl rfl rfl rfl rfl rfl ?_
            refine PW.load rfl rfl rfl rfl rfl rfl ?_
            refine PW.move rfl rfl rfl rfl rfl ?_
            refine PW.move rfl rfl rfl rfl rfl ?_
            refine PW.call (r := .kw (K2 (KI (dep x y kn qn)) (KV (.int .i64 0)))) rfl rfl rfl rfl rfl rfl (K2.st (KI.st _) (KV.st _)) rfl (k_dep X Y (by decide) (by decide) (by omega) (by omega)) ?_
            refine PW.move rfl rfl rfl rfl rfl ?_
            refine PW.ext (r := .kw (KI (dep x y kn qn))) rfl rfl rfl rfl rfl ex20 (KI.st _) rfl ?_
            refine PW.ext (r := .vl (.int .i64 0)) rfl rfl rfl rfl rfl ex21v (KV.st _) rfl ?_
            refine PW.alloc (BI 28) rfl rfl rfl rfl rfl bI ?_
            refine PW.store (x := .tmp 99) (r := .kw (KI (dep x y kn qn))) rfl rfl rfl rfl rfl rfl sh_I ?_
            refine PW.assign rfl rfl rfl rfl rfl ?_
            refine PW.nil ?_
            refine SX.then ?_
            refine SC.seq ?_
            refine SC.region ?_
            refine PW.load rfl rfl rfl rfl rfl rfl ?_
            refine PW.load rfl rfl rfl rfl rfl rfl ?_
            refine PW.move rfl rfl rfl rfl rfl ?_
            refine PW.move rfl rfl rfl rfl rfl ?_
            refine PW.call (r := .kw (K2 (KJ (dep x y kn qn)) (KV (.int .i64 0)))) rfl rfl rfl rfl rfl rfl (K2.st (KJ.st _) (KV.st _)) rfl (k_jdep X Y (by decide) (by decide) (by omega) (by omega)) ?_
            refine PW.move rfl rfl rfl rfl rfl ?_
            refine PW.ext (r := .kw (KJ (dep x y kn qn))) rfl rfl rfl rfl rfl ex20 (KJ.st _) rfl ?_
            refine PW.ext (r := .vl (.int .i64 0)) rfl rfl rfl rfl rfl ex21v (KV.st _) rfl ?_
            refine PW.alloc (BI 31) rfl rfl rfl rfl rfl bJ ?_
            refine PW.store (x := .tmp 107) (r := .kw (KJ (dep x y kn qn))) rfl rfl rfl rfl rfl rfl sh_J ?_
            refine PW.assign rfl rfl rfl rfl rfl ?_
            refine PW.nil ?_
            refine SX.then ?_
            refine SC.seq ?_
            refine SC.region ?_
            refine PW.move rfl rfl rfl rfl rfl ?_
            refine PW.move rfl rfl rfl rfl rfl ?_
            refine PW.q2 (x := .tmp 109) (y := .tmp 110) (.bool true) rfl rfl rfl rfl rfl (fun ρ W h1 h2 => by go_simp) ?_
            refine PW.move rfl rfl rfl rfl rfl ?_
            refine PW.load rfl rfl rfl rfl rfl rfl ?_
            refine PW.load rfl rfl rfl rfl rfl rfl ?_
            refine PW.call (r := .vl (.bool true)) rfl rfl rfl rfl rfl rfl (KV.st _) rfl (k_is ((bd_sh300 X n3)) (by first | decide | omega) rfl) ?_
            refine PW.pick (t := true) rfl rfl rfl rfl rfl rfl ?_
            refine PW.move rfl rfl rfl rfl rfl ?_
            refine PW.move rfl rfl rfl rfl rfl ?_
            refine PW.move rfl rfl rfl rfl rfl ?_
            refine PW.q2 (x := .tmp 118) (y := .tmp 119) (.bool true) rfl rfl rfl rfl rfl (fun ρ W h1 h2 => by go_simp) ?_
            refine PW.pick (t := true) rfl rfl rfl rfl rfl rfl ?_
            refine PW.move rfl rfl rfl rfl rfl ?_
            refine PW.load rfl rfl rfl rfl rfl rfl ?_
            refine PW.load rfl rfl rfl rfl rfl rfl ?_
            refine PW.call (r := .vl (.bool true)) rfl rfl rfl rfl rfl rfl (KV.st _) rfl (k_is ((bd.fld X (k := kn) (p := qn) (m := 10) (by omega))) (by first | decide | omega) rfl) ?_
            refine PW.pick (t := true) rfl rfl rfl rfl rfl rfl ?_
            refine PW.move rfl rfl rfl rfl rfl ?_
            refine PW.move rfl rfl rfl rfl rfl ?_
            refine PW.move rfl rfl rfl rfl rfl ?_
            refine PW.q2 (x := .tmp 128) (y := .tmp 129) (.bool true) rfl rfl rfl rfl rfl (fun ρ W h1 h2 => by go_simp) ?_
            refine PW.pick (t := true) rfl rfl rfl rfl rfl rfl ?_
            refine PW.move rfl rfl rfl rfl rfl ?_
            refine PW.load rfl rfl rfl rfl rfl rfl ?_
            refine PW.load rfl rfl rfl rfl rfl rfl ?_
            refine PW.call (r := .vl (.bool true)) rfl rfl rfl rfl rfl rfl (KV.st _) rfl (k_is ((bd.dep X Y (k := kn) (p := qn) (m := 10) (q := 10) (by omega) (by omega))) (by first | decide | omega) rfl) ?_
            refine PW.pick (t := true) rfl rfl rfl rfl rfl rfl ?_
            refine PW.move rfl rfl rfl rfl rfl ?_
            refine PW.call (r := .vl (.bool true)) rfl rfl rfl rfl rfl rfl (KV.st _) rfl (k_awake) ?_
            refine PW.pick (t := true) rfl rfl rfl rfl rfl rfl ?_
            refine PW.assign rfl rfl rfl rfl rfl ?_
            refine PW.nil ?_
            refine SX.then ?_
            refine SC.ret ?_
            exact SX.done (r := .vl (.bool true)) rfl rfl rfl
          · refine SC.region ?_
            refine PW.load rfl rfl rfl rfl rfl rfl ?_
            refine PW.move rfl rfl rfl rfl rfl ?_
            refine PW.move rfl rfl rfl rfl rfl ?_
            refine PW.call (r := .kw (K2 (KI (0)) (KV (.int .i64 1)))) rfl rfl rfl rfl rfl rfl (K2.st (KI.st _) (KV.st _)) rfl (k_field_bad kq) ?_
            refine PW.move rfl rfl rfl rfl rfl ?_
            refine PW.ext (r := .kw (KI (0))) rfl rfl rfl rfl rfl ex20 (KI.st _) rfl ?_
            refine PW.ext (r := .vl (.int .i64 1)) rfl rfl rfl rfl rfl ex21v (KV.st _) rfl ?_
            refine PW.alloc (BI 28) rfl rfl rfl rfl rfl bI ?_
            refine PW.store (x := .tmp 84) (r := .kw (KI (0))) rfl rfl rfl rfl rfl rfl sh_I ?_
            refine PW.assign rfl rfl rfl rfl rfl ?_
            refine PW.nil ?_
            refine SX.then ?_
            refine SC.seq ?_
            refine SC.region ?_
            refine PW.load rfl rfl rfl rfl rfl rfl ?_
            refine PW.move rfl rfl rfl rfl rfl ?_
            refine PW.move rfl rfl rfl rfl rfl ?_
            refine PW.call (r := .kw (K2 (KJ (0)) (KV (.int .i64 1)))) rfl rfl rfl rfl rfl rfl (K2.st (KJ.st _) (KV.st _)) rfl (k_jfield_bad (by omega)) ?_
            refine PW.move rfl rfl rfl rfl rfl ?_
            refine PW.ext (r := .kw (KJ (0))) rfl rfl rfl rfl rfl ex20 (KJ.st _) rfl ?_
            refine PW.ext (r := .vl (.int .i64 1)) rfl rfl rfl rfl rfl ex21v (KV.st _) rfl ?_
            refine PW.alloc (BI 31) rfl rfl rfl rfl rfl bJ ?_
            refine PW.store (x := .tmp 91) (r := .kw (KJ (0))) rfl rfl rfl rfl rfl rfl sh_J ?_
            refine PW.assign rfl rfl rfl rfl rfl ?_
            refine PW.nil ?_
            refine SX.then ?_
            refine SC.seq ?_
            refine SC.region ?_
            refine PW.load rfl rfl rfl rfl rfl rfl ?_
            refine PW.load rfl rfl rfl rfl rfl rfl ?_
            refine PW.move rfl rfl rfl rfl rfl ?_
            refine PW.move rfl rfl rfl rfl rfl ?_
            refine PW.call (r := .kw (K2 (KI (0)) (KV (.int .i64 1)))) rfl rfl rfl rfl rfl rfl (K2.st (KI.st _) (KV.st _)) rfl (k_dep_bad kq) ?_
            refine PW.move rfl rfl rfl rfl rfl ?_
            refine PW.ext (r := .kw (KI (0))) rfl rfl rfl rfl rfl ex20 (KI.st _) rfl ?_
            refine PW.ext (r := .vl (.int .i64 1)) rfl rfl rfl rfl rfl ex21v (KV.st _) rfl ?_
            refine PW.alloc (BI 28) rfl rfl rfl rfl rfl bI ?_
            refine PW.store (x := .tmp 99) (r := .kw (KI (0))) rfl rfl rfl rfl rfl rfl sh_I ?_
            refine PW.assign rfl rfl rfl rfl rfl ?_
            refine PW.nil ?_
            refine SX.then ?_
            refine SC.seq ?_
            refine SC.region ?_
            refine PW.load rfl rfl rfl rfl rfl rfl ?_
            refine PW.load rfl rfl rfl rfl rfl rfl ?_
            refine PW.move rfl rfl rfl rfl rfl ?_
            refine PW.move rfl rfl rfl rfl rfl ?_
            refine PW.call (r := .kw (K2 (KJ (0)) (KV (.int .i64 1)))) rfl rfl rfl rfl rfl rfl (K2.st (KJ.st _) (KV.st _)) rfl (k_jdep_bad (by omega)) ?_
            refine PW.move rfl rfl rfl rfl rfl ?_
            refine PW.ext (r := .kw (KJ (0))) rfl rfl rfl rfl rfl ex20 (KJ.st _) rfl ?_
            refine PW.ext (r := .vl (.int .i64 1)) rfl rfl rfl rfl rfl ex21v (KV.st _) rfl ?_
            refine PW.alloc (BI 31) rfl rfl rfl rfl rfl bJ ?_
            refine PW.store (x := .tmp 107) (r := .kw (KJ (0))) rfl rfl rfl rfl rfl rfl sh_J ?_
            refine PW.assign rfl rfl rfl rfl rfl ?_
            refine PW.nil ?_
            refine SX.then ?_
            refine SC.seq ?_
            refine SC.region ?_
            refine PW.move rfl rfl rfl rfl rfl ?_
            refine PW.move rfl rfl rfl rfl rfl ?_
            refine PW.q2 (x := .tmp 109) (y := .tmp 110) (.bool true) rfl rfl rfl rfl rfl (fun ρ W h1 h2 => by go_simp) ?_
            refine PW.move rfl rfl rfl rfl rfl ?_
            refine PW.load rfl rfl rfl rfl rfl rfl ?_
            refine PW.load rfl rfl rfl rfl rfl rfl ?_
            refine PW.call (r := .vl (.bool true)) rfl rfl rfl rfl rfl rfl (KV.st _) rfl (k_is ((bd_sh300 X n3)) (by first | decide | omega) rfl) ?_
            refine PW.pick (t := true) rfl rfl rfl rfl rfl rfl ?_
            refine PW.move rfl rfl rfl rfl rfl ?_
            refine PW.move rfl rfl rfl rfl rfl ?_
            refine PW.move rfl rfl rfl rfl rfl ?_
            refine PW.q2 (x := .tmp 118) (y := .tmp 119) (.bool true) rfl rfl rfl rfl rfl (fun ρ W h1 h2 => by go_simp) ?_
            refine PW.pick (t := true) rfl rfl rfl rfl rfl rfl ?_
            refine PW.move rfl rfl rfl rfl rfl ?_
            refine PW.load rfl rfl rfl rfl rfl rfl ?_
            refine PW.load rfl rfl rfl rfl rfl rfl ?_
            refine PW.call (r := .vl (.bool true)) rfl rfl rfl rfl rfl rfl (KV.st _) rfl (k_is (bd.zero (a := 1)) (by first | decide | omega) rfl) ?_
            refine PW.pick (t := true) rfl rfl rfl rfl rfl rfl ?_
            refine PW.move rfl rfl rfl rfl rfl ?_
            refine PW.move rfl rfl rfl rfl rfl ?_
            refine PW.move rfl rfl rfl rfl rfl ?_
            refine PW.q2 (x := .tmp 128) (y := .tmp 129) (.bool true) rfl rfl rfl rfl rfl (fun ρ W h1 h2 => by go_simp) ?_
            refine PW.pick (t := true) rfl rfl rfl rfl rfl rfl ?_
            refine PW.move rfl rfl rfl rfl rfl ?_
            refine PW.load rfl rfl rfl rfl rfl rfl ?_
            refine PW.load rfl rfl rfl rfl rfl rfl ?_
            refine PW.call (r := .vl (.bool true)) rfl rfl rfl rfl rfl rfl (KV.st _) rfl (k_is (bd.zero (a := 1)) (by first | decide | omega) rfl) ?_
            refine PW.pick (t := true) rfl rfl rfl rfl rfl rfl ?_
            refine PW.move rfl rfl rfl rfl rfl ?_
            refine PW.call (r := .vl (.bool true)) rfl rfl rfl rfl rfl rfl (KV.st _) rfl (k_awake) ?_
            refine PW.pick (t := true) rfl rfl rfl rfl rfl rfl ?_
            refine PW.assign rfl rfl rfl rfl rfl ?_
            refine PW.nil ?_
            refine SX.then ?_
            refine SC.ret ?_
            exact SX.done (r := .vl (.bool true)) rfl rfl rfl
  · have hs : shB 8 [(n1, A1, l1, c1), (n2, A2, l2, c2)] = false := by simpa using hs
    refine SC.region ?_
    refine PW.loadV rfl rfl rfl rfl rfl rfl ?_
    refine PW.loadV rfl rfl rfl rfl rfl rfl ?_
    refine PW.short 8 [(n1, A1, l1, c1), (n2, A2, l2, c2)] _ rfl rfl rfl (fun a W hf => r_bN2 (hf.vl (s := 27) rfl) (hf.vl (s := 28) rfl)) (fun W => ns_lit2 W) (by simp; exact ⟨In.lim h1, In.lim h2⟩) rfl rfl hs rfl rfl rfl rfl rfl rfl ?_
    refine PW.q1 (x := .tmp 30) (.bool true) rfl rfl rfl rfl (fun ρ W h1 => by go_simp) ?_
    refine PW.move rfl rfl rfl rfl rfl ?_
    refine PW.skip rfl rfl rfl ?_
    refine PW.skip rfl rfl rfl ?_
    refine PW.skip rfl rfl rfl ?_
    refine PW.skip rfl rfl rfl ?_
    refine PW.skip rfl rfl rfl ?_
    refine PW.skip rfl rfl rfl ?_
    refine PW.pick (t := true) rfl rfl rfl rfl rfl rfl ?_
    refine PW.move rfl rfl rfl rfl rfl ?_
    refine PW.skip rfl rfl rfl ?_
    refine PW.skip rfl rfl rfl ?_
    refine PW.skip rfl rfl rfl ?_
    refine PW.skip rfl rfl rfl ?_
    refine PW.skip rfl rfl rfl ?_
    refine PW.skip rfl rfl rfl ?_
    refine PW.pick (t := true) rfl rfl rfl rfl rfl rfl ?_
    refine PW.move rfl rfl rfl rfl rfl ?_
    refine PW.skip rfl rfl rfl ?_
    refine PW.skip rfl rfl rfl ?_
    refine PW.skip rfl rfl rfl ?_
    refine PW.skip rfl rfl rfl ?_
    refine PW.skip rfl rfl rfl ?_
    refine PW.skip rfl rfl rfl ?_
    refine PW.pick (t := true) rfl rfl rfl rfl rfl rfl ?_
    refine PW.nil ?_
    refine SX.then ?_
    refine SC.cond (t := true) rfl ?_
    refine SC.seq ?_
    refine SC.region ?_
    refine PW.call (r := .vl (.bool true)) rfl rfl rfl rfl rfl rfl (KV.st _) rfl (k_awake) ?_
    refine PW.assign rfl rfl rfl rfl rfl ?_
    refine PW.nil ?_
    refine SX.then ?_
    refine SC.ret ?_
    refine SX.thenR ?_
    exact SX.done (r := .vl (.bool true)) rfl rfl rfl
end Go.Proofs.Ytcgkgcciogibkaa
