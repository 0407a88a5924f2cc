/-
  CountsNil: for every kind and number the law answers true: of no counts nothing comes; of another kind neither. No condition.
-/
import Derived.Test.YtjkcjkcophbeiaaAll
import Derived.Outline
import Derived.BigGuard
import Derived.BigGuardIn
import Derived.Deep.RegionWith
import Derived.Deep.RegionHeld3
import Derived.Deep.QuietTactic
import Derived.BigQuiet
import Derived.WalkKit
import Derived.ProofKit
import Derived.OpenShut
import Derived.ShutString
namespace Go.Proofs.Ytjkcjkcophbeiaa.countsNil
open Go.ChangeShapes Go.WideShapes Go.ChangeAt Go.RowKit
open Go.ChangeMaps (open_string shut_string)
set_option linter.unusedVariables false      -- a walk need not use every 'w<i>' (that an integer argument fits its kind)

theorem own : ownKnob Try.prog.godebug = none := by kernel_rfl

/-! ### STEP 1: THE WALK: the Go text returns true. 'Below w.heap.size w w'': the world has at most new blocks (Derived/RowKit3.lean). Part the cases AHEAD of 'go_enter' where a test parts the walk; take each callee by a contract of your own. -/
theorem z8_keep {N : Nat} {x y : World} (hb : Below x.heap.size x y) (h : x.cell? ⟨N, 0, none⟩ = some (.int .i64 0) ∧ x.cell? ⟨N, 1, none⟩ = some (.int .i64 0) ∧ x.cell? ⟨N, 2, none⟩ = some (.int .i64 0) ∧ x.cell? ⟨N, 3, none⟩ = some (.int .i64 0) ∧ x.cell? ⟨N, 4, none⟩ = some (.int .i64 0) ∧ x.cell? ⟨N, 5, none⟩ = some (.int .i64 0) ∧ x.cell? ⟨N, 6, none⟩ = some (.int .i64 0) ∧ x.cell? ⟨N, 7, none⟩ = some (.int .i64 0)) : y.cell? ⟨N, 0, none⟩ = some (.int .i64 0) ∧ y.cell? ⟨N, 1, none⟩ = some (.int .i64 0) ∧ y.cell? ⟨N, 2, none⟩ = some (.int .i64 0) ∧ y.cell? ⟨N, 3, none⟩ = some (.int .i64 0) ∧ y.cell? ⟨N, 4, none⟩ = some (.int .i64 0) ∧ y.cell? ⟨N, 5, none⟩ = some (.int .i64 0) ∧ y.cell? ⟨N, 6, none⟩ = some (.int .i64 0) ∧ y.cell? ⟨N, 7, none⟩ = some (.int .i64 0) := by
  obtain ⟨h0, h1, h2, h3, h4, h5, h6, h7⟩ := h
  have hN : N < x.heap.size := by simpa using block_lt_of_cell h0
  refine ⟨?_, ?_, ?_, ?_, ?_, ?_, ?_, ?_⟩
  all_goals (rw [hb.cell (by simpa using hN)]; assumption)



theorem cellAt {w : World} {b : Nat} {cs : Array Value} {t : TypeId} (h : w.heap[b]? = some (.cells cs t (0, 0))) (j : Nat) {v : Value} (hj : cs[j]? = some v) : w.cell? ⟨b, j, none⟩ = some v := by simp [World.cell?, h, hj]
theorem eql_self {o : Oper} {x y : Operand} (ho : o.op = .binOp .eql 2 x y 2) {a : Act} {n : Int} (hx : a.eval x = .int .i64 n) (hy : a.eval y = .int .i64 n) (w : World) : (execOp a.eval o).run Try.prog w = .ok (.value (.bool true)) w := by
  have hs : (n == n) = true := by simp
  unfold execOp
  simp only [ho, hx, hy]
  generalize hz : (n == n) = z at *
  go_simp
theorem wp_region_class {P : Program} {C : World → Prop} {id : Nat} {Q : Exit → Act → World → Prop} {a : Act} {w : World} {l : List Oper} (hm : P.follows .mixedOrders = true) (hB : Region.lexB .any l.toArray = true) (hC : C { w with drawn := w.drawn + 1 })
    (h : wpQuiet P l.toArray C (fun a' => ∀ w', C w' → Q .normal a' w') l a) : (Code.region id l.toArray true).wp P Q a w := wp_region_quiet (C := C) hm hB hC (by simpa using h)
theorem qval {P : Program} {ops : Array Oper} {C : World → Prop} {Q : Act → Prop} {o : Oper} {rest : List Oper} {a : Act} (v : Value) (hw : Region.wanted o (yielded ops a.tmps) = true) (hv : ∀ w, C w → (execOp a.eval o).run P w = .ok (.value v) w) (h : wpQuiet P ops C Q rest (a.put o.dst v)) : wpQuiet P ops C Q (o :: rest) a := by
  unfold wpQuiet
  rw [if_pos hw]
  exact ⟨v, fun w hC => by unfold Oper.quietAt; rw [hv w hC]; exact ⟨rfl, rfl⟩, h⟩
theorem qskip {P : Program} {ops : Array Oper} {C : World → Prop} {Q : Act → Prop} {o : Oper} {rest : List Oper} {a : Act} (hw : Region.wanted o (yielded ops a.tmps) = false) (h : wpQuiet P ops C Q rest (a.put o.dst undef)) : wpQuiet P ops C Q (o :: rest) a := by
  unfold wpQuiet
  rw [if_neg (by rw [hw]; decide)]
  exact h
theorem qskipv {P : Program} {ops : Array Oper} {C : World → Prop} {Q : Act → Prop} {o : Oper} {rest : List Oper} {a : Act} {u : Value} (hu : u = undef) (hw : Region.wanted o (yielded ops a.tmps) = false) (h : wpQuiet P ops C Q rest (a.put o.dst u)) : wpQuiet P ops C Q (o :: rest) a := by
  subst hu
  exact qskip hw h
theorem qcall {P : Program} {ops : Array Oper} {C : World → Prop} {Q : Act → Prop} {o : Oper} {rest : List Oper} {a : Act} (f : FuncId) (args : Array Value) (v : Value) (hw : Region.wanted o (yielded ops a.tmps) = true) (hv : ∀ w, (execOp a.eval o).run P w = .ok (.enter f args) w)
    (hc : ∀ w, C w → Calls P f args w (fun e w' => e = .returned v ∧ C w')) (h : wpQuiet P ops C Q rest (a.put o.dst v)) : wpQuiet P ops C Q (o :: rest) a := by
  unfold wpQuiet
  rw [if_pos hw]
  exact ⟨v, fun w hC => by unfold Oper.quietAt; rw [hv w]; exact ⟨rfl, hc w hC⟩, h⟩
theorem stays {P : Program} {f : FuncId} {args : Array Value} {v : Value} {W w : World} (hC : Below W.heap.size W w) (h : Calls P f args w fun e w' => e = .returned v ∧ w = w') : Calls P f args w fun e w' => e = .returned v ∧ Below W.heap.size W w' :=
  h.mono fun _ _ ⟨he, hw⟩ => ⟨he, hw ▸ hC⟩
theorem grows {P : Program} {f : FuncId} {args : Array Value} {v : Value} {W w : World} (hC : Below W.heap.size W w) (h : Calls P f args w fun e w' => e = .returned v ∧ Below w.heap.size w w') : Calls P f args w fun e w' => e = .returned v ∧ Below W.heap.size W w' :=
  h.mono fun _ _ ⟨he, hb⟩ => ⟨he, hC.trans (hb.mono hC.size)⟩


set_option maxRecDepth 100000 in
set_option maxHeartbeats 20000000 in
theorem walk (a0 : Int) (a1 : Int) (w0 : (Lit.int .i64 a0).wf = true) (w1 : (Lit.int .i64 a1).wf = true) (w : World) :
    Calls Try.prog 6 #[.int .i64 a0, .int .i64 a1] w fun e w' => e = .returned (.bool true) ∧ Below w.heap.size w w' := by
  have heq : ∀ w, (Op.equalIn 10000 39 (.agg #[.int .i64 0, .int .i64 0, .int .i64 0, .int .i64 0, .int .i64 0, .int .i64 0, .int .i64 0, .int .i64 0]) (.agg #[.int .i64 0, .int .i64 0, .int .i64 0, .int .i64 0, .int .i64 0, .int .i64 0, .int .i64 0, .int .i64 0])).run Try.prog w = .ok true w := fun w => run_equalIn_arr (P := Try.prog) 9998 8 39 2 .i64 Try.underlying39 Try.underlying2 rfl [0, 0, 0, 0, 0, 0, 0, 0] rfl w
  by_cases hk : 0 ≤ a0 ∧ a0 < 8
  · obtain ⟨h0, h8⟩ := hk
    have d7 : decide (a0 ≤ 7) = true := by simp; omega
    go_enter Try.func6, Try.ntmps6
    go_wp2_with fail
    refine (reset_nil _).mono ?_
    rintro e wa ⟨rfl, rfl⟩
    go_wp2_with fail
    refine (new_any _).mono ?_
    rintro e w2 ⟨rfl, hC, hb⟩
    go_wp2_with fail
    refine (addR hC _ _ (by omega) (by omega) a1 (by rw [zero_get, Int.zero_add]; have := bounds_i64 w1; exact IntWalk.wrap64_in _ ⟨by omega, by omega⟩)).mono ?_
    rintro e w3 ⟨rfl, hC3, hg3⟩
    have hb3 := below_of hb hg3 hC.lt
    go_wp2_with fail
    have hlt3 := hC3.lt
    clear hg3 hC hb
    have hS : (w3.alloc (.cells #[.int .i64 0, .int .i64 0, .int .i64 0, .int .i64 0, .int .i64 0, .int .i64 0, .int .i64 0, .int .i64 0] 39)).cell? ⟨w3.heap.size, 0, none⟩ = some (.int .i64 0) ∧ (w3.alloc (.cells #[.int .i64 0, .int .i64 0, .int .i64 0, .int .i64 0, .int .i64 0, .int .i64 0, .int .i64 0, .int .i64 0] 39)).cell? ⟨w3.heap.size, 1, none⟩ = some (.int .i64 0) ∧ (w3.alloc (.cells #[.int .i64 0, .int .i64 0, .int .i64 0, .int .i64 0, .int .i64 0, .int .i64 0, .int .i64 0, .int .i64 0] 39)).cell? ⟨w3.heap.size, 2, none⟩ = some (.int .i64 0) ∧ (w3.alloc (.cells #[.int .i64 0, .int .i64 0, .int .i64 0, .int .i64 0, .int .i64 0, .int .i64 0, .int .i64 0, .int .i64 0] 39)).cell? ⟨w3.heap.size, 3, none⟩ = some (.int .i64 0) ∧ (w3.alloc (.cells #[.int .i64 0, .int .i64 0, .int .i64 0, .int .i64 0, .int .i64 0, .int .i64 0, .int .i64 0, .int .i64 0] 39)).cell? ⟨w3.heap.size, 4, none⟩ = some (.int .i64 0) ∧ (w3.alloc (.cells #[.int .i64 0, .int .i64 0, .int .i64 0, .int .i64 0, .int .i64 0, .int .i64 0, .int .i64 0, .int .i64 0] 39)).cell? ⟨w3.heap.size, 5, none⟩ = some (.int .i64 0) ∧ (w3.alloc (.cells #[.int .i64 0, .int .i64 0, .int .i64 0, .int .i64 0, .int .i64 0, .int .i64 0, .int .i64 0, .int .i64 0] 39)).cell? ⟨w3.heap.size, 6, none⟩ = some (.int .i64 0) ∧ (w3.alloc (.cells #[.int .i64 0, .int .i64 0, .int .i64 0, .int .i64 0, .int .i64 0, .int .i64 0, .int .i64 0, .int .i64 0] 39)).cell? ⟨w3.heap.size, 7, none⟩ = some (.int .i64 0) := by
      have hH := heap_alloc_new w3 (Obj.cells #[.int .i64 0, .int .i64 0, .int .i64 0, .int .i64 0, .int .i64 0, .int .i64 0, .int .i64 0, .int .i64 0] 39)
      exact ⟨cellAt hH 0 rfl, cellAt hH 1 rfl, cellAt hH 2 rfl, cellAt hH 3 rfl, cellAt hH 4 rfl, cellAt hH 5 rfl, cellAt hH 6 rfl, cellAt hH 7 rfl⟩
    have hb4 := hb3.alloc hb3.size (Obj.cells #[.int .i64 0, .int .i64 0, .int .i64 0, .int .i64 0, .int .i64 0, .int .i64 0, .int .i64 0, .int .i64 0] 39)
    have HS := Lib.hid hS
    clear hS hb3 hC3 hlt3
    generalize w3.heap.size = G at *
    generalize w3.alloc (.cells #[.int .i64 0, .int .i64 0, .int .i64 0, .int .i64 0, .int .i64 0, .int .i64 0, .int .i64 0, .int .i64 0] 39) = w4 at *
    try simp only [List.append_eq, List.cons_append, List.nil_append]
    obtain ⟨VB, HVB⟩ : ∃ v : Value, Hid (v = .bool true) := ⟨_, rfl⟩
    obtain ⟨VF, HVF⟩ : ∃ v : Value, Hid (v = .bool false) := ⟨_, rfl⟩
    obtain ⟨U, HU⟩ : ∃ v : Value, Hid (v = undef) := ⟨_, rfl⟩
    refine wp_region_class (C := fun w' => Below w4.heap.size w4 w') (by kernel_rfl) (by kernel_rfl) ⟨rfl, rfl, rfl, Nat.le_refl _, fun _ _ => rfl⟩ ?_
    refine qcall 7 #[] (.bool true) (by rfl) (by intro x; go_simp) (fun x hC => grows hC (awake_any x)) ?_
    simp only [Act.put, List.setIfInBounds_toArray, List.set_cons_zero, List.set_cons_succ]
    refine qval (.bool true) (by rfl) (by intro x hC; first | rfl | go_simp) ?_
    simp only [Act.put, List.setIfInBounds_toArray, List.set_cons_zero, List.set_cons_succ]
    refine qval (.pointer none) (by rfl) (by intro x hC; first | rfl | go_simp) ?_
    simp only [Act.put, List.setIfInBounds_toArray, List.set_cons_zero, List.set_cons_succ]
    refine qval (.int .i64 a1) (by rfl) (by intro x hC; first | rfl | go_simp) ?_
    simp only [Act.put, List.setIfInBounds_toArray, List.set_cons_zero, List.set_cons_succ]
    refine qcall 16 #[.pointer none, .int .i64 1, .int .i64 a1] (.int .i64 0) (by rfl) (by intro x; go_simp) (fun x hC => stays hC (add_nil _ _ x)) ?_
    simp only [Act.put, List.setIfInBounds_toArray, List.set_cons_zero, List.set_cons_succ]
    refine qval (.bool true) (by rfl) (by intro x hC; first | rfl | go_simp) ?_
    simp only [Act.put, List.setIfInBounds_toArray, List.set_cons_zero, List.set_cons_succ]
    refine qval (.bool true) (by rfl) (by intro x hC; first | rfl | go_simp) ?_
    simp only [Act.put, List.setIfInBounds_toArray, List.set_cons_zero, List.set_cons_succ]
    refine qval (.bool true) (by rfl) (by intro x hC; first | rfl | go_simp) ?_
    simp only [Act.put, List.setIfInBounds_toArray, List.set_cons_zero, List.set_cons_succ]
    refine qval (.pointer none) (by rfl) (by intro x hC; first | rfl | go_simp) ?_
    simp only [Act.put, List.setIfInBounds_toArray, List.set_cons_zero, List.set_cons_succ]
    refine qcall 9 #[.pointer none, .int .i64 1] (.int .i64 0) (by rfl) (by intro x; go_simp) (fun x hC => stays hC (get_nil _ x)) ?_
    simp only [Act.put, List.setIfInBounds_toArray, List.set_cons_zero, List.set_cons_succ]
    refine qval (.bool true) (by rfl) (by intro x hC; first | rfl | go_simp) ?_
    simp only [Act.put, List.setIfInBounds_toArray, List.set_cons_zero, List.set_cons_succ]
    refine qval (.bool true) (by rfl) (by intro x hC; first | rfl | go_simp) ?_
    simp only [Act.put, List.setIfInBounds_toArray, List.set_cons_zero, List.set_cons_succ]
    refine qval (.bool true) (by rfl) (by intro x hC; first | rfl | go_simp) ?_
    simp only [Act.put, List.setIfInBounds_toArray, List.set_cons_zero, List.set_cons_succ]
    refine qval (.pointer none) (by rfl) (by intro x hC; first | rfl | go_simp) ?_
    simp only [Act.put, List.setIfInBounds_toArray, List.set_cons_zero, List.set_cons_succ]
    refine qval (.int .i64 a1) (by rfl) (by intro x hC; first | rfl | go_simp) ?_
    simp only [Act.put, List.setIfInBounds_toArray, List.set_cons_zero, List.set_cons_succ]
    refine qcall 10 #[.pointer none, .int .i64 1, .int .i64 a1] (.int .i64 0) (by rfl) (by intro x; go_simp) (fun x hC => stays hC (swap_nil _ _ x)) ?_
    simp only [Act.put, List.setIfInBounds_toArray, List.set_cons_zero, List.set_cons_succ]
    refine qval (.bool true) (by rfl) (by intro x hC; first | rfl | go_simp) ?_
    simp only [Act.put, List.setIfInBounds_toArray, List.set_cons_zero, List.set_cons_succ]
    refine qval (.bool true) (by rfl) (by intro x hC; first | rfl | go_simp) ?_
    simp only [Act.put, List.setIfInBounds_toArray, List.set_cons_zero, List.set_cons_succ]
    refine qval (.bool true) (by rfl) (by intro x hC; first | rfl | go_simp) ?_
    simp only [Act.put, List.setIfInBounds_toArray, List.set_cons_zero, List.set_cons_succ]
    refine qval (.pointer none) (by rfl) (by intro x hC; first | rfl | go_simp) ?_
    simp only [Act.put, List.setIfInBounds_toArray, List.set_cons_zero, List.set_cons_succ]
    refine qval (.int .i64 a1) (by rfl) (by intro x hC; first | rfl | go_simp) ?_
    simp only [Act.put, List.setIfInBounds_toArray, List.set_cons_zero, List.set_cons_succ]
    refine qcall 8 #[.pointer none, .int .i64 1, .int .i64 a1] (.int .i64 0) (by rfl) (by intro x; go_simp) (fun x hC => stays hC (most_nil _ _ x)) ?_
    simp only [Act.put, List.setIfInBounds_toArray, List.set_cons_zero, List.set_cons_succ]
    refine qval (.bool true) (by rfl) (by intro x hC; first | rfl | go_simp) ?_
    simp only [Act.put, List.setIfInBounds_toArray, List.set_cons_zero, List.set_cons_succ]
    refine qval (.bool true) (by rfl) (by intro x hC; first | rfl | go_simp) ?_
    simp only [Act.put, List.setIfInBounds_toArray, List.set_cons_zero, List.set_cons_succ]
    refine qval (.bool true) (by rfl) (by intro x hC; first | rfl | go_simp) ?_
    simp only [Act.put, List.setIfInBounds_toArray, List.set_cons_zero, List.set_cons_succ]
    refine qval (.pointer none) (by rfl) (by intro x hC; first | rfl | go_simp) ?_
    simp only [Act.put, List.setIfInBounds_toArray, List.set_cons_zero, List.set_cons_succ]
    refine qcall 18 #[.pointer none] (.agg #[.int .i64 0, .int .i64 0, .int .i64 0, .int .i64 0, .int .i64 0, .int .i64 0, .int .i64 0, .int .i64 0]) (by rfl) (by intro x; go_simp) (fun x hC => grows hC (all_nil x)) ?_
    simp only [Act.put, List.setIfInBounds_toArray, List.set_cons_zero, List.set_cons_succ]
    refine qval (.agg #[.int .i64 0, .int .i64 0, .int .i64 0, .int .i64 0, .int .i64 0, .int .i64 0, .int .i64 0, .int .i64 0]) (by rfl) (by intro x hC; obtain ⟨e0, e1, e2, e3, e4, e5, e6, e7⟩ := z8_keep hC HS.out; go_simp) ?_
    simp only [Act.put, List.setIfInBounds_toArray, List.set_cons_zero, List.set_cons_succ]
    refine qval (.bool true) (by rfl) (by intro x hC; have hq := heq x; go_simp) ?_
    simp only [Act.put, List.setIfInBounds_toArray, List.set_cons_zero, List.set_cons_succ]
    refine qval (.bool true) (by rfl) (by intro x hC; first | rfl | go_simp) ?_
    simp only [Act.put, List.setIfInBounds_toArray, List.set_cons_zero, List.set_cons_succ]
    refine qval (.bool true) (by rfl) (by intro x hC; first | rfl | go_simp) ?_
    simp only [Act.put, List.setIfInBounds_toArray, List.set_cons_zero, List.set_cons_succ]
    refine qval (.pointer none) (by rfl) (by intro x hC; first | rfl | go_simp) ?_
    simp only [Act.put, List.setIfInBounds_toArray, List.set_cons_zero, List.set_cons_succ]
    refine qcall 19 #[.pointer none] (.int .i64 0) (by rfl) (by intro x; go_simp) (fun x hC => grows hC (sum_nil x)) ?_
    simp only [Act.put, List.setIfInBounds_toArray, List.set_cons_zero, List.set_cons_succ]
    refine qval (.bool true) (by rfl) (by intro x hC; first | rfl | go_simp) ?_
    simp only [Act.put, List.setIfInBounds_toArray, List.set_cons_zero, List.set_cons_succ]
    refine qval (.bool true) (by rfl) (by intro x hC; first | rfl | go_simp) ?_
    simp only [Act.put, List.setIfInBounds_toArray, List.set_cons_zero, List.set_cons_succ]
    refine qval (.bool true) (by rfl) (by intro x hC; first | rfl | go_simp) ?_
    simp only [Act.put, List.setIfInBounds_toArray, List.set_cons_zero, List.set_cons_succ]
    refine qval (.bool true) (by rfl) (by intro x hC; first | rfl | go_simp) ?_
    simp only [Act.put, List.setIfInBounds_toArray, List.set_cons_zero, List.set_cons_succ]
    refine qval (.bool true) (by rfl) (by intro x hC; first | rfl | go_simp) ?_
    simp only [Act.put, List.setIfInBounds_toArray, List.set_cons_zero, List.set_cons_succ]
    refine qval (.int .i64 a1) (by rfl) (by intro x hC; first | rfl | go_simp) ?_
    simp only [Act.put, List.setIfInBounds_toArray, List.set_cons_zero, List.set_cons_succ]
    refine qval (.int .i64 a1) (by rfl) (by intro x hC; first | rfl | go_simp) ?_
    simp only [Act.put, List.setIfInBounds_toArray, List.set_cons_zero, List.set_cons_succ]
    refine qval (.bool true) (by rfl) (fun w _ => eql_self (x := .tmp 64) (y := .tmp 65) (n := a1) rfl rfl rfl w) ?_
    simp only [Act.put, List.setIfInBounds_toArray, List.set_cons_zero, List.set_cons_succ]
    refine qval (.bool true) (by rfl) (by intro x hC; first | rfl | go_simp) ?_
    simp only [Act.put, List.setIfInBounds_toArray, List.set_cons_zero, List.set_cons_succ]
    refine qval VB (by rfl) (by intro x hC; rw [HVB.out]; rfl) ?_
    simp only [Act.put, List.setIfInBounds_toArray, List.set_cons_zero, List.set_cons_succ]
    refine qskipv HU.out (by first | (rw [HVB.out]; rfl) | (rw [HVF.out]; rfl) | (rw [HU.out]; rfl) | rfl) ?_
    simp only [Act.put, List.setIfInBounds_toArray, List.set_cons_zero, List.set_cons_succ]
    refine qskipv HU.out (by first | (rw [HVB.out]; rfl) | (rw [HVF.out]; rfl) | (rw [HU.out]; rfl) | rfl) ?_
    simp only [Act.put, List.setIfInBounds_toArray, List.set_cons_zero, List.set_cons_succ]
    refine qskipv HU.out (by first | (rw [HVB.out]; rfl) | (rw [HVF.out]; rfl) | (rw [HU.out]; rfl) | rfl) ?_
    simp only [Act.put, List.setIfInBounds_toArray, List.set_cons_zero, List.set_cons_succ]
    refine qskipv HU.out (by first | (rw [HVB.out]; rfl) | (rw [HVF.out]; rfl) | (rw [HU.out]; rfl) | rfl) ?_
    simp only [Act.put, List.setIfInBounds_toArray, List.set_cons_zero, List.set_cons_succ]
    refine qskipv HU.out (by first | (rw [HVB.out]; rfl) | (rw [HVF.out]; rfl) | (rw [HU.out]; rfl) | rfl) ?_
    simp only [Act.put, List.setIfInBounds_toArray, List.set_cons_zero, List.set_cons_succ]
    refine qskipv HU.out (by first | (rw [HVB.out]; rfl) | (rw [HVF.out]; rfl) | (rw [HU.out]; rfl) | rfl) ?_
    simp only [Act.put, List.setIfInBounds_toArray, List.set_cons_zero, List.set_cons_succ]
    refine qskipv HU.out (by first | (rw [HVB.out]; rfl) | (rw [HVF.out]; rfl) | (rw [HU.out]; rfl) | rfl) ?_
    simp only [Act.put, List.setIfInBounds_toArray, List.set_cons_zero, List.set_cons_succ]
    refine qskipv HU.out (by first | (rw [HVB.out]; rfl) | (rw [HVF.out]; rfl) | (rw [HU.out]; rfl) | rfl) ?_
    simp only [Act.put, List.setIfInBounds_toArray, List.set_cons_zero, List.set_cons_succ]
    refine qskipv HU.out (by first | (rw [HVB.out]; rfl) | (rw [HVF.out]; rfl) | (rw [HU.out]; rfl) | rfl) ?_
    simp only [Act.put, List.setIfInBounds_toArray, List.set_cons_zero, List.set_cons_succ]
    refine qskipv HU.out (by first | (rw [HVB.out]; rfl) | (rw [HVF.out]; rfl) | (rw [HU.out]; rfl) | rfl) ?_
    simp only [Act.put, List.setIfInBounds_toArray, List.set_cons_zero, List.set_cons_succ]
    refine qskipv HU.out (by first | (rw [HVB.out]; rfl) | (rw [HVF.out]; rfl) | (rw [HU.out]; rfl) | rfl) ?_
    simp only [Act.put, List.setIfInBounds_toArray, List.set_cons_zero, List.set_cons_succ]
    refine qskipv HU.out (by first | (rw [HVB.out]; rfl) | (rw [HVF.out]; rfl) | (rw [HU.out]; rfl) | rfl) ?_
    simp only [Act.put, List.setIfInBounds_toArray, List.set_cons_zero, List.set_cons_succ]
    refine qskipv HU.out (by first | (rw [HVB.out]; rfl) | (rw [HVF.out]; rfl) | (rw [HU.out]; rfl) | rfl) ?_
    simp only [Act.put, List.setIfInBounds_toArray, List.set_cons_zero, List.set_cons_succ]
    refine qskipv HU.out (by first | (rw [HVB.out]; rfl) | (rw [HVF.out]; rfl) | (rw [HU.out]; rfl) | rfl) ?_
    simp only [Act.put, List.setIfInBounds_toArray, List.set_cons_zero, List.set_cons_succ]
    refine qskipv HU.out (by first | (rw [HVB.out]; rfl) | (rw [HVF.out]; rfl) | (rw [HU.out]; rfl) | rfl) ?_
    simp only [Act.put, List.setIfInBounds_toArray, List.set_cons_zero, List.set_cons_succ]
    refine qskipv HU.out (by first | (rw [HVB.out]; rfl) | (rw [HVF.out]; rfl) | (rw [HU.out]; rfl) | rfl) ?_
    simp only [Act.put, List.setIfInBounds_toArray, List.set_cons_zero, List.set_cons_succ]
    refine qskipv HU.out (by first | (rw [HVB.out]; rfl) | (rw [HVF.out]; rfl) | (rw [HU.out]; rfl) | rfl) ?_
    simp only [Act.put, List.setIfInBounds_toArray, List.set_cons_zero, List.set_cons_succ]
    refine qskipv HU.out (by first | (rw [HVB.out]; rfl) | (rw [HVF.out]; rfl) | (rw [HU.out]; rfl) | rfl) ?_
    simp only [Act.put, List.setIfInBounds_toArray, List.set_cons_zero, List.set_cons_succ]
    refine qskipv HU.out (by first | (rw [HVB.out]; rfl) | (rw [HVF.out]; rfl) | (rw [HU.out]; rfl) | rfl) ?_
    simp only [Act.put, List.setIfInBounds_toArray, List.set_cons_zero, List.set_cons_succ]
    refine qskipv HU.out (by first | (rw [HVB.out]; rfl) | (rw [HVF.out]; rfl) | (rw [HU.out]; rfl) | rfl) ?_
    simp only [Act.put, List.setIfInBounds_toArray, List.set_cons_zero, List.set_cons_succ]
    refine qskipv HU.out (by first | (rw [HVB.out]; rfl) | (rw [HVF.out]; rfl) | (rw [HU.out]; rfl) | rfl) ?_
    simp only [Act.put, List.setIfInBounds_toArray, List.set_cons_zero, List.set_cons_succ]
    refine qskipv HU.out (by first | (rw [HVB.out]; rfl) | (rw [HVF.out]; rfl) | (rw [HU.out]; rfl) | rfl) ?_
    simp only [Act.put, List.setIfInBounds_toArray, List.set_cons_zero, List.set_cons_succ]
    refine qskipv HU.out (by first | (rw [HVB.out]; rfl) | (rw [HVF.out]; rfl) | (rw [HU.out]; rfl) | rfl) ?_
    simp only [Act.put, List.setIfInBounds_toArray, List.set_cons_zero, List.set_cons_succ]
    refine qskipv HU.out (by first | (rw [HVB.out]; rfl) | (rw [HVF.out]; rfl) | (rw [HU.out]; rfl) | rfl) ?_
    simp only [Act.put, List.setIfInBounds_toArray, List.set_cons_zero, List.set_cons_succ]
    refine qval (.bool true) (by first | rfl | (rw [HVB.out]; rfl)) (by intro x hC; rw [HVB.out]; rfl) ?_
    simp only [Act.put, List.setIfInBounds_toArray, List.set_cons_zero, List.set_cons_succ]
    refine qval (.bool true) (by rfl) (by intro x hC; first | rfl | go_simp) ?_
    simp only [Act.put, List.setIfInBounds_toArray, List.set_cons_zero, List.set_cons_succ]
    refine qval (.bool true) (by rfl) (by intro x hC; first | rfl | go_simp) ?_
    simp only [Act.put, List.setIfInBounds_toArray, List.set_cons_zero, List.set_cons_succ]
    intro w5 hb5
    go_wp2
    go_ret
    exact ⟨rfl, hb4.trans (hb5.mono hb4.size)⟩
  · have HK := Lib.hid hk
    have hd : a0 < 0 ∨ 0 ≤ a0 ∧ 8 ≤ a0 := by omega
    clear hk
    have d7 : a0 < 0 ∨ decide (a0 ≤ 7) = false := by
      rcases hd with hd | ⟨hd, hd2⟩
      · exact .inl hd
      · exact .inr (by simp; omega)
    rcases hd with hd | ⟨hd, hd2⟩
    · clear d7
      go_enter Try.func6, Try.ntmps6
      go_wp2_with fail
      refine (reset_nil _).mono ?_
      rintro e wa ⟨rfl, rfl⟩
      go_wp2_with fail
      refine (new_any _).mono ?_
      rintro e w2 ⟨rfl, hC, hb⟩
      go_wp2_with fail
      refine (add_out w.heap.size a0 a1 HK.out _).mono ?_
      rintro e w3 ⟨rfl, rfl⟩
      go_wp2_with fail
      have hlt3 := hC.lt
      have hS : (w2.alloc (.cells #[.int .i64 0, .int .i64 0, .int .i64 0, .int .i64 0, .int .i64 0, .int .i64 0, .int .i64 0, .int .i64 0] 39)).cell? ⟨w2.heap.size, 0, none⟩ = some (.int .i64 0) ∧ (w2.alloc (.cells #[.int .i64 0, .int .i64 0, .int .i64 0, .int .i64 0, .int .i64 0, .int .i64 0, .int .i64 0, .int .i64 0] 39)).cell? ⟨w2.heap.size, 1, none⟩ = some (.int .i64 0) ∧ (w2.alloc (.cells #[.int .i64 0, .int .i64 0, .int .i64 0, .int .i64 0, .int .i64 0, .int .i64 0, .int .i64 0, .int .i64 0] 39)).cell? ⟨w2.heap.size, 2, none⟩ = some (.int .i64 0) ∧ (w2.alloc (.cells #[.int .i64 0, .int .i64 0, .int .i64 0, .int .i64 0, .int .i64 0, .int .i64 0, .int .i64 0, .int .i64 0] 39)).cell? ⟨w2.heap.size, 3, none⟩ = some (.int .i64 0) ∧ (w2.alloc (.cells #[.int .i64 0, .int .i64 0, .int .i64 0, .int .i64 0, .int .i64 0, .int .i64 0, .int .i64 0, .int .i64 0] 39)).cell? ⟨w2.heap.size, 4, none⟩ = some (.int .i64 0) ∧ (w2.alloc (.cells #[.int .i64 0, .int .i64 0, .int .i64 0, .int .i64 0, .int .i64 0, .int .i64 0, .int .i64 0, .int .i64 0] 39)).cell? ⟨w2.heap.size, 5, none⟩ = some (.int .i64 0) ∧ (w2.alloc (.cells #[.int .i64 0, .int .i64 0, .int .i64 0, .int .i64 0, .int .i64 0, .int .i64 0, .int .i64 0, .int .i64 0] 39)).cell? ⟨w2.heap.size, 6, none⟩ = some (.int .i64 0) ∧ (w2.alloc (.cells #[.int .i64 0, .int .i64 0, .int .i64 0, .int .i64 0, .int .i64 0, .int .i64 0, .int .i64 0, .int .i64 0] 39)).cell? ⟨w2.heap.size, 7, none⟩ = some (.int .i64 0) := by
        have hH := heap_alloc_new w2 (Obj.cells #[.int .i64 0, .int .i64 0, .int .i64 0, .int .i64 0, .int .i64 0, .int .i64 0, .int .i64 0, .int .i64 0] 39)
        exact ⟨cellAt hH 0 rfl, cellAt hH 1 rfl, cellAt hH 2 rfl, cellAt hH 3 rfl, cellAt hH 4 rfl, cellAt hH 5 rfl, cellAt hH 6 rfl, cellAt hH 7 rfl⟩
      have hb4 := hb.alloc hb.size (Obj.cells #[.int .i64 0, .int .i64 0, .int .i64 0, .int .i64 0, .int .i64 0, .int .i64 0, .int .i64 0, .int .i64 0] 39)
      have hCC := hC.keep (w' := w2.alloc (.cells #[.int .i64 0, .int .i64 0, .int .i64 0, .int .i64 0, .int .i64 0, .int .i64 0, .int .i64 0, .int .i64 0] 39)) (Below.heap_alloc _ _ _ hlt3)
      have HS := Lib.hid hS
      have HCC := Lib.hid hCC
      clear hS hb hC hlt3 hCC
      generalize w2.heap.size = G at *
      generalize w2.alloc (.cells #[.int .i64 0, .int .i64 0, .int .i64 0, .int .i64 0, .int .i64 0, .int .i64 0, .int .i64 0, .int .i64 0] 39) = w4 at *
      try simp only [List.append_eq, List.cons_append, List.nil_append]
      obtain ⟨VB, HVB⟩ : ∃ v : Value, Hid (v = .bool true) := ⟨_, rfl⟩
      obtain ⟨VF, HVF⟩ : ∃ v : Value, Hid (v = .bool false) := ⟨_, rfl⟩
      obtain ⟨U, HU⟩ : ∃ v : Value, Hid (v = undef) := ⟨_, rfl⟩
      refine wp_region_class (C := fun w' => Below w4.heap.size w4 w') (by kernel_rfl) (by kernel_rfl) ⟨rfl, rfl, rfl, Nat.le_refl _, fun _ _ => rfl⟩ ?_
      refine qcall 7 #[] (.bool true) (by rfl) (by intro x; go_simp) (fun x hC => grows hC (awake_any x)) ?_
      simp only [Act.put, List.setIfInBounds_toArray, List.set_cons_zero, List.set_cons_succ]
      refine qval (.bool true) (by rfl) (by intro x hC; first | rfl | go_simp) ?_
      simp only [Act.put, List.setIfInBounds_toArray, List.set_cons_zero, List.set_cons_succ]
      refine qval (.pointer none) (by rfl) (by intro x hC; first | rfl | go_simp) ?_
      simp only [Act.put, List.setIfInBounds_toArray, List.set_cons_zero, List.set_cons_succ]
      refine qval (.int .i64 a1) (by rfl) (by intro x hC; first | rfl | go_simp) ?_
      simp only [Act.put, List.setIfInBounds_toArray, List.set_cons_zero, List.set_cons_succ]
      refine qcall 16 #[.pointer none, .int .i64 1, .int .i64 a1] (.int .i64 0) (by rfl) (by intro x; go_simp) (fun x hC => stays hC (add_nil _ _ x)) ?_
      simp only [Act.put, List.setIfInBounds_toArray, List.set_cons_zero, List.set_cons_succ]
      refine qval (.bool true) (by rfl) (by intro x hC; first | rfl | go_simp) ?_
      simp only [Act.put, List.setIfInBounds_toArray, List.set_cons_zero, List.set_cons_succ]
      refine qval (.bool true) (by rfl) (by intro x hC; first | rfl | go_simp) ?_
      simp only [Act.put, List.setIfInBounds_toArray, List.set_cons_zero, List.set_cons_succ]
      refine qval (.bool true) (by rfl) (by intro x hC; first | rfl | go_simp) ?_
      simp only [Act.put, List.setIfInBounds_toArray, List.set_cons_zero, List.set_cons_succ]
      refine qval (.pointer none) (by rfl) (by intro x hC; first | rfl | go_simp) ?_
      simp only [Act.put, List.setIfInBounds_toArray, List.set_cons_zero, List.set_cons_succ]
      refine qcall 9 #[.pointer none, .int .i64 1] (.int .i64 0) (by rfl) (by intro x; go_simp) (fun x hC => stays hC (get_nil _ x)) ?_
      simp only [Act.put, List.setIfInBounds_toArray, List.set_cons_zero, List.set_cons_succ]
      refine qval (.bool true) (by rfl) (by intro x hC; first | rfl | go_simp) ?_
      simp only [Act.put, List.setIfInBounds_toArray, List.set_cons_zero, List.set_cons_succ]
      refine qval (.bool true) (by rfl) (by intro x hC; first | rfl | go_simp) ?_
      simp only [Act.put, List.setIfInBounds_toArray, List.set_cons_zero, List.set_cons_succ]
      refine qval (.bool true) (by rfl) (by intro x hC; first | rfl | go_simp) ?_
      simp only [Act.put, List.setIfInBounds_toArray, List.set_cons_zero, List.set_cons_succ]
      refine qval (.pointer none) (by rfl) (by intro x hC; first | rfl | go_simp) ?_
      simp only [Act.put, List.setIfInBounds_toArray, List.set_cons_zero, List.set_cons_succ]
      refine qval (.int .i64 a1) (by rfl) (by intro x hC; first | rfl | go_simp) ?_
      simp only [Act.put, List.setIfInBounds_toArray, List.set_cons_zero, List.set_cons_succ]
      refine qcall 10 #[.pointer none, .int .i64 1, .int .i64 a1] (.int .i64 0) (by rfl) (by intro x; go_simp) (fun x hC => stays hC (swap_nil _ _ x)) ?_
      simp only [Act.put, List.setIfInBounds_toArray, List.set_cons_zero, List.set_cons_succ]
      refine qval (.bool true) (by rfl) (by intro x hC; first | rfl | go_simp) ?_
      simp only [Act.put, List.setIfInBounds_toArray, List.set_cons_zero, List.set_cons_succ]
      refine qval (.bool true) (by rfl) (by intro x hC; first | rfl | go_simp) ?_
      simp only [Act.put, List.setIfInBounds_toArray, List.set_cons_zero, List.set_cons_succ]
      refine qval (.bool true) (by rfl) (by intro x hC; first | rfl | go_simp) ?_
      simp only [Act.put, List.setIfInBounds_toArray, List.set_cons_zero, List.set_cons_succ]
      refine qval (.pointer none) (by rfl) (by intro x hC; first | rfl | go_simp) ?_
      simp only [Act.put, List.setIfInBounds_toArray, List.set_cons_zero, List.set_cons_succ]
      refine qval (.int .i64 a1) (by rfl) (by intro x hC; first | rfl | go_simp) ?_
      simp only [Act.put, List.setIfInBounds_toArray, List.set_cons_zero, List.set_cons_succ]
      refine qcall 8 #[.pointer none, .int .i64 1, .int .i64 a1] (.int .i64 0) (by rfl) (by intro x; go_simp) (fun x hC => stays hC (most_nil _ _ x)) ?_
      simp only [Act.put, List.setIfInBounds_toArray, List.set_cons_zero, List.set_cons_succ]
      refine qval (.bool true) (by rfl) (by intro x hC; first | rfl | go_simp) ?_
      simp only [Act.put, List.setIfInBounds_toArray, List.set_cons_zero, List.set_cons_succ]
      refine qval (.bool true) (by rfl) (by intro x hC; first | rfl | go_simp) ?_
      simp only [Act.put, List.setIfInBounds_toArray, List.set_cons_zero, List.set_cons_succ]
      refine qval (.bool true) (by rfl) (by intro x hC; first | rfl | go_simp) ?_
      simp only [Act.put, List.setIfInBounds_toArray, List.set_cons_zero, List.set_cons_succ]
      refine qval (.pointer none) (by rfl) (by intro x hC; first | rfl | go_simp) ?_
      simp only [Act.put, List.setIfInBounds_toArray, List.set_cons_zero, List.set_cons_succ]
      refine qcall 18 #[.pointer none] (.agg #[.int .i64 0, .int .i64 0, .int .i64 0, .int .i64 0, .int .i64 0, .int .i64 0, .int .i64 0, .int .i64 0]) (by rfl) (by intro x; go_simp) (fun x hC => grows hC (all_nil x)) ?_
      simp only [Act.put, List.setIfInBounds_toArray, List.set_cons_zero, List.set_cons_succ]
      refine qval (.agg #[.int .i64 0, .int .i64 0, .int .i64 0, .int .i64 0, .int .i64 0, .int .i64 0, .int .i64 0, .int .i64 0]) (by rfl) (by intro x hC; obtain ⟨e0, e1, e2, e3, e4, e5, e6, e7⟩ := z8_keep hC HS.out; go_simp) ?_
      simp only [Act.put, List.setIfInBounds_toArray, List.set_cons_zero, List.set_cons_succ]
      refine qval (.bool true) (by rfl) (by intro x hC; have hq := heq x; go_simp) ?_
      simp only [Act.put, List.setIfInBounds_toArray, List.set_cons_zero, List.set_cons_succ]
      refine qval (.bool true) (by rfl) (by intro x hC; first | rfl | go_simp) ?_
      simp only [Act.put, List.setIfInBounds_toArray, List.set_cons_zero, List.set_cons_succ]
      refine qval (.bool true) (by rfl) (by intro x hC; first | rfl | go_simp) ?_
      simp only [Act.put, List.setIfInBounds_toArray, List.set_cons_zero, List.set_cons_succ]
      refine qval (.pointer none) (by rfl) (by intro x hC; first | rfl | go_simp) ?_
      simp only [Act.put, List.setIfInBounds_toArray, List.set_cons_zero, List.set_cons_succ]
      refine qcall 19 #[.pointer none] (.int .i64 0) (by rfl) (by intro x; go_simp) (fun x hC => grows hC (sum_nil x)) ?_
      simp only [Act.put, List.setIfInBounds_toArray, List.set_cons_zero, List.set_cons_succ]
      refine qval (.bool true) (by rfl) (by intro x hC; first | rfl | go_simp) ?_
      simp only [Act.put, List.setIfInBounds_toArray, List.set_cons_zero, List.set_cons_succ]
      refine qval (.bool true) (by rfl) (by intro x hC; first | rfl | go_simp) ?_
      simp only [Act.put, List.setIfInBounds_toArray, List.set_cons_zero, List.set_cons_succ]
      refine qval (.bool true) (by rfl) (by intro x hC; first | rfl | go_simp) ?_
      simp only [Act.put, List.setIfInBounds_toArray, List.set_cons_zero, List.set_cons_succ]
      refine qval (.bool false) (by rfl) (by intro x hC; first | rfl | go_simp) ?_
      simp only [Act.put, List.setIfInBounds_toArray, List.set_cons_zero, List.set_cons_succ]
      refine qval VF (by rfl) (by intro x hC; rw [HVF.out]; rfl) ?_
      simp only [Act.put, List.setIfInBounds_toArray, List.set_cons_zero, List.set_cons_succ]
      refine qskipv HU.out (by first | (rw [HVB.out]; rfl) | (rw [HVF.out]; rfl) | (rw [HU.out]; rfl) | rfl) ?_
      simp only [Act.put, List.setIfInBounds_toArray, List.set_cons_zero, List.set_cons_succ]
      refine qskipv HU.out (by first | (rw [HVB.out]; rfl) | (rw [HVF.out]; rfl) | (rw [HU.out]; rfl) | rfl) ?_
      simp only [Act.put, List.setIfInBounds_toArray, List.set_cons_zero, List.set_cons_succ]
      refine qskipv HU.out (by first | (rw [HVB.out]; rfl) | (rw [HVF.out]; rfl) | (rw [HU.out]; rfl) | rfl) ?_
      simp only [Act.put, List.setIfInBounds_toArray, List.set_cons_zero, List.set_cons_succ]
      refine qval (.bool false) (by first | rfl | (rw [HVF.out]; rfl)) (by intro x hC; rw [HVF.out]; rfl) ?_
      simp only [Act.put, List.setIfInBounds_toArray, List.set_cons_zero, List.set_cons_succ]
      refine qval (.bool false) (by rfl) (by intro x hC; first | rfl | go_simp) ?_
      simp only [Act.put, List.setIfInBounds_toArray, List.set_cons_zero, List.set_cons_succ]
      refine qval (.bool false) (by rfl) (by intro x hC; first | rfl | go_simp) ?_
      simp only [Act.put, List.setIfInBounds_toArray, List.set_cons_zero, List.set_cons_succ]
      refine qval (.bool true) (by rfl) (by intro x hC; first | rfl | go_simp) ?_
      simp only [Act.put, List.setIfInBounds_toArray, List.set_cons_zero, List.set_cons_succ]
      refine qval (.bool true) (by rfl) (by intro x hC; first | rfl | go_simp) ?_
      simp only [Act.put, List.setIfInBounds_toArray, List.set_cons_zero, List.set_cons_succ]
      refine qval (.int .i64 0) (by rfl) (by intro x hC; first | rfl | go_simp) ?_
      simp only [Act.put, List.setIfInBounds_toArray, List.set_cons_zero, List.set_cons_succ]
      refine qval (.bool true) (by rfl) (by intro x hC; first | rfl | go_simp) ?_
      simp only [Act.put, List.setIfInBounds_toArray, List.set_cons_zero, List.set_cons_succ]
      refine qval (.bool true) (by rfl) (by intro x hC; first | rfl | go_simp) ?_
      simp only [Act.put, List.setIfInBounds_toArray, List.set_cons_zero, List.set_cons_succ]
      refine qval (.bool true) (by rfl) (by intro x hC; first | rfl | go_simp) ?_
      simp only [Act.put, List.setIfInBounds_toArray, List.set_cons_zero, List.set_cons_succ]
      refine qval (.pointer (some ⟨w.heap.size, 0, none⟩)) (by rfl) (by intro x hC; first | rfl | go_simp) ?_
      simp only [Act.put, List.setIfInBounds_toArray, List.set_cons_zero, List.set_cons_succ]
      refine qval (.int .i64 a0) (by rfl) (by intro x hC; first | rfl | go_simp) ?_
      simp only [Act.put, List.setIfInBounds_toArray, List.set_cons_zero, List.set_cons_succ]
      refine qcall 10 #[.pointer (some ⟨w.heap.size, 0, none⟩), .int .i64 a0, .int .i64 5] (.int .i64 0) (by rfl) (by intro x; go_simp) (fun x hC => stays hC (swap_out w.heap.size a0 5 HK.out x)) ?_
      simp only [Act.put, List.setIfInBounds_toArray, List.set_cons_zero, List.set_cons_succ]
      refine qval (.bool true) (by rfl) (by intro x hC; first | rfl | go_simp) ?_
      simp only [Act.put, List.setIfInBounds_toArray, List.set_cons_zero, List.set_cons_succ]
      refine qval (.bool true) (by rfl) (by intro x hC; first | rfl | go_simp) ?_
      simp only [Act.put, List.setIfInBounds_toArray, List.set_cons_zero, List.set_cons_succ]
      refine qval (.bool true) (by rfl) (by intro x hC; first | rfl | go_simp) ?_
      simp only [Act.put, List.setIfInBounds_toArray, List.set_cons_zero, List.set_cons_succ]
      refine qval (.pointer (some ⟨w.heap.size, 0, none⟩)) (by rfl) (by intro x hC; first | rfl | go_simp) ?_
      simp only [Act.put, List.setIfInBounds_toArray, List.set_cons_zero, List.set_cons_succ]
      refine qval (.int .i64 a0) (by rfl) (by intro x hC; first | rfl | go_simp) ?_
      simp only [Act.put, List.setIfInBounds_toArray, List.set_cons_zero, List.set_cons_succ]
      refine qcall 8 #[.pointer (some ⟨w.heap.size, 0, none⟩), .int .i64 a0, .int .i64 5] (.int .i64 0) (by rfl) (by intro x; go_simp) (fun x hC => stays hC (most_out w.heap.size a0 5 HK.out x)) ?_
      simp only [Act.put, List.setIfInBounds_toArray, List.set_cons_zero, List.set_cons_succ]
      refine qval (.bool true) (by rfl) (by intro x hC; first | rfl | go_simp) ?_
      simp only [Act.put, List.setIfInBounds_toArray, List.set_cons_zero, List.set_cons_succ]
      refine qval (.bool true) (by rfl) (by intro x hC; first | rfl | go_simp) ?_
      simp only [Act.put, List.setIfInBounds_toArray, List.set_cons_zero, List.set_cons_succ]
      refine qval (.bool true) (by rfl) (by intro x hC; first | rfl | go_simp) ?_
      simp only [Act.put, List.setIfInBounds_toArray, List.set_cons_zero, List.set_cons_succ]
      refine qval (.pointer (some ⟨w.heap.size, 0, none⟩)) (by rfl) (by intro x hC; first | rfl | go_simp) ?_
      simp only [Act.put, List.setIfInBounds_toArray, List.set_cons_zero, List.set_cons_succ]
      refine qcall 18 #[.pointer (some ⟨w.heap.size, 0, none⟩)] (.agg #[.int .i64 0, .int .i64 0, .int .i64 0, .int .i64 0, .int .i64 0, .int .i64 0, .int .i64 0, .int .i64 0]) (by rfl) (by intro x; go_simp) (fun x hC => grows hC (allC (HCC.out.keep (hC.block w.heap.size HCC.out.lt)))) ?_
      simp only [Act.put, List.setIfInBounds_toArray, List.set_cons_zero, List.set_cons_succ]
      refine qval (.agg #[.int .i64 0, .int .i64 0, .int .i64 0, .int .i64 0, .int .i64 0, .int .i64 0, .int .i64 0, .int .i64 0]) (by rfl) (by intro x hC; obtain ⟨e0, e1, e2, e3, e4, e5, e6, e7⟩ := z8_keep hC HS.out; go_simp) ?_
      simp only [Act.put, List.setIfInBounds_toArray, List.set_cons_zero, List.set_cons_succ]
      refine qval (.bool true) (by rfl) (by intro x hC; have hq := heq x; go_simp) ?_
      simp only [Act.put, List.setIfInBounds_toArray, List.set_cons_zero, List.set_cons_succ]
      refine qval (.bool true) (by rfl) (by intro x hC; first | rfl | go_simp) ?_
      simp only [Act.put, List.setIfInBounds_toArray, List.set_cons_zero, List.set_cons_succ]
      refine qval (.bool true) (by rfl) (by intro x hC; first | rfl | go_simp) ?_
      simp only [Act.put, List.setIfInBounds_toArray, List.set_cons_zero, List.set_cons_succ]
      refine qval (.bool true) (by rfl) (by intro x hC; first | rfl | go_simp) ?_
      simp only [Act.put, List.setIfInBounds_toArray, List.set_cons_zero, List.set_cons_succ]
      refine qval (.bool true) (by rfl) (by intro x hC; first | rfl | go_simp) ?_
      simp only [Act.put, List.setIfInBounds_toArray, List.set_cons_zero, List.set_cons_succ]
      intro w5 hb5
      go_wp2
      go_ret
      exact ⟨rfl, hb4.trans (hb5.mono hb4.size)⟩
    · have d8 : decide (a0 ≤ 7) = false := by simp; omega
      have hd3 : 7 < a0 := by omega
      clear d7
      go_enter Try.func6, Try.ntmps6
      go_wp2_with fail
      refine (reset_nil _).mono ?_
      rintro e wa ⟨rfl, rfl⟩
      go_wp2_with fail
      refine (new_any _).mono ?_
      rintro e w2 ⟨rfl, hC, hb⟩
      go_wp2_with fail
      refine (add_out w.heap.size a0 a1 HK.out _).mono ?_
      rintro e w3 ⟨rfl, rfl⟩
      go_wp2_with fail
      have hlt3 := hC.lt
      have hS : (w2.alloc (.cells #[.int .i64 0, .int .i64 0, .int .i64 0, .int .i64 0, .int .i64 0, .int .i64 0, .int .i64 0, .int .i64 0] 39)).cell? ⟨w2.heap.size, 0, none⟩ = some (.int .i64 0) ∧ (w2.alloc (.cells #[.int .i64 0, .int .i64 0, .int .i64 0, .int .i64 0, .int .i64 0, .int .i64 0, .int .i64 0, .int .i64 0] 39)).cell? ⟨w2.heap.size, 1, none⟩ = some (.int .i64 0) ∧ (w2.alloc (.cells #[.int .i64 0, .int .i64 0, .int .i64 0, .int .i64 0, .int .i64 0, .int .i64 0, .int .i64 0, .int .i64 0] 39)).cell? ⟨w2.heap.size, 2, none⟩ = some (.int .i64 0) ∧ (w2.alloc (.cells #[.int .i64 0, .int .i64 0, .int .i64 0, .int .i64 0, .int .i64 0, .int .i64 0, .int .i64 0, .int .i64 0] 39)).cell? ⟨w2.heap.size, 3, none⟩ = some (.int .i64 0) ∧ (w2.alloc (.cells #[.int .i64 0, .int .i64 0, .int .i64 0, .int .i64 0, .int .i64 0, .int .i64 0, .int .i64 0, .int .i64 0] 39)).cell? ⟨w2.heap.size, 4, none⟩ = some (.int .i64 0) ∧ (w2.alloc (.cells #[.int .i64 0, .int .i64 0, .int .i64 0, .int .i64 0, .int .i64 0, .int .i64 0, .int .i64 0, .int .i64 0] 39)).cell? ⟨w2.heap.size, 5, none⟩ = some (.int .i64 0) ∧ (w2.alloc (.cells #[.int .i64 0, .int .i64 0, .int .i64 0, .int .i64 0, .int .i64 0, .int .i64 0, .int .i64 0, .int .i64 0] 39)).cell? ⟨w2.heap.size, 6, none⟩ = some (.int .i64 0) ∧ (w2.alloc (.cells #[.int .i64 0, .int .i64 0, .int .i64 0, .int .i64 0, .int .i64 0, .int .i64 0, .int .i64 0, .int .i64 0] 39)).cell? ⟨w2.heap.size, 7, none⟩ = some (.int .i64 0) := by
        have hH := heap_alloc_new w2 (Obj.cells #[.int .i64 0, .int .i64 0, .int .i64 0, .int .i64 0, .int .i64 0, .int .i64 0, .int .i64 0, .int .i64 0] 39)
        exact ⟨cellAt hH 0 rfl, cellAt hH 1 rfl, cellAt hH 2 rfl, cellAt hH 3 rfl, cellAt hH 4 rfl, cellAt hH 5 rfl, cellAt hH 6 rfl, cellAt hH 7 rfl⟩
      have hb4 := hb.alloc hb.size (Obj.cells #[.int .i64 0, .int .i64 0, .int .i64 0, .int .i64 0, .int .i64 0, .int .i64 0, .int .i64 0, .int .i64 0] 39)
      have hCC := hC.keep (w' := w2.alloc (.cells #[.int .i64 0, .int .i64 0, .int .i64 0, .int .i64 0, .int .i64 0, .int .i64 0, .int .i64 0, .int .i64 0] 39)) (Below.heap_alloc _ _ _ hlt3)
      have HS := Lib.hid hS
      have HCC := Lib.hid hCC
      clear hS hb hC hlt3 hCC
      generalize w2.heap.size = G at *
      generalize w2.alloc (.cells #[.int .i64 0, .int .i64 0, .int .i64 0, .int .i64 0, .int .i64 0, .int .i64 0, .int .i64 0, .int .i64 0] 39) = w4 at *
      try simp only [List.append_eq, List.cons_append, List.nil_append]
      obtain ⟨VB, HVB⟩ : ∃ v : Value, Hid (v = .bool true) := ⟨_, rfl⟩
      obtain ⟨VF, HVF⟩ : ∃ v : Value, Hid (v = .bool false) := ⟨_, rfl⟩
      obtain ⟨U, HU⟩ : ∃ v : Value, Hid (v = undef) := ⟨_, rfl⟩
      refine wp_region_class (C := fun w' => Below w4.heap.size w4 w') (by kernel_rfl) (by kernel_rfl) ⟨rfl, rfl, rfl, Nat.le_refl _, fun _ _ => rfl⟩ ?_
      refine qcall 7 #[] (.bool true) (by rfl) (by intro x; go_simp) (fun x hC => grows hC (awake_any x)) ?_
      simp only [Act.put, List.setIfInBounds_toArray, List.set_cons_zero, List.set_cons_succ]
      refine qval (.bool true) (by rfl) (by intro x hC; first | rfl | go_simp) ?_
      simp only [Act.put, List.setIfInBounds_toArray, List.set_cons_zero, List.set_cons_succ]
      refine qval (.pointer none) (by rfl) (by intro x hC; first | rfl | go_simp) ?_
      simp only [Act.put, List.setIfInBounds_toArray, List.set_cons_zero, List.set_cons_succ]
      refine qval (.int .i64 a1) (by rfl) (by intro x hC; first | rfl | go_simp) ?_
      simp only [Act.put, List.setIfInBounds_toArray, List.set_cons_zero, List.set_cons_succ]
      refine qcall 16 #[.pointer none, .int .i64 1, .int .i64 a1] (.int .i64 0) (by rfl) (by intro x; go_simp) (fun x hC => stays hC (add_nil _ _ x)) ?_
      simp only [Act.put, List.setIfInBounds_toArray, List.set_cons_zero, List.set_cons_succ]
      refine qval (.bool true) (by rfl) (by intro x hC; first | rfl | go_simp) ?_
      simp only [Act.put, List.setIfInBounds_toArray, List.set_cons_zero, List.set_cons_succ]
      refine qval (.bool true) (by rfl) (by intro x hC; first | rfl | go_simp) ?_
      simp only [Act.put, List.setIfInBounds_toArray, List.set_cons_zero, List.set_cons_succ]
      refine qval (.bool true) (by rfl) (by intro x hC; first | rfl | go_simp) ?_
      simp only [Act.put, List.setIfInBounds_toArray, List.set_cons_zero, List.set_cons_succ]
      refine qval (.pointer none) (by rfl) (by intro x hC; first | rfl | go_simp) ?_
      simp only [Act.put, List.setIfInBounds_toArray, List.set_cons_zero, List.set_cons_succ]
      refine qcall 9 #[.pointer none, .int .i64 1] (.int .i64 0) (by rfl) (by intro x; go_simp) (fun x hC => stays hC (get_nil _ x)) ?_
      simp only [Act.put, List.setIfInBounds_toArray, List.set_cons_zero, List.set_cons_succ]
      refine qval (.bool true) (by rfl) (by intro x hC; first | rfl | go_simp) ?_
      simp only [Act.put, List.setIfInBounds_toArray, List.set_cons_zero, List.set_cons_succ]
      refine qval (.bool true) (by rfl) (by intro x hC; first | rfl | go_simp) ?_
      simp only [Act.put, List.setIfInBounds_toArray, List.set_cons_zero, List.set_cons_succ]
      refine qval (.bool true) (by rfl) (by intro x hC; first | rfl | go_simp) ?_
      simp only [Act.put, List.setIfInBounds_toArray, List.set_cons_zero, List.set_cons_succ]
      refine qval (.pointer none) (by rfl) (by intro x hC; first | rfl | go_simp) ?_
      simp only [Act.put, List.setIfInBounds_toArray, List.set_cons_zero, List.set_cons_succ]
      refine qval (.int .i64 a1) (by rfl) (by intro x hC; first | rfl | go_simp) ?_
      simp only [Act.put, List.setIfInBounds_toArray, List.set_cons_zero, List.set_cons_succ]
      refine qcall 10 #[.pointer none, .int .i64 1, .int .i64 a1] (.int .i64 0) (by rfl) (by intro x; go_simp) (fun x hC => stays hC (swap_nil _ _ x)) ?_
      simp only [Act.put, List.setIfInBounds_toArray, List.set_cons_zero, List.set_cons_succ]
      refine qval (.bool true) (by rfl) (by intro x hC; first | rfl | go_simp) ?_
      simp only [Act.put, List.setIfInBounds_toArray, List.set_cons_zero, List.set_cons_succ]
      refine qval (.bool true) (by rfl) (by intro x hC; first | rfl | go_simp) ?_
      simp only [Act.put, List.setIfInBounds_toArray, List.set_cons_zero, List.set_cons_succ]
      refine qval (.bool true) (by rfl) (by intro x hC; first | rfl | go_simp) ?_
      simp only [Act.put, List.setIfInBounds_toArray, List.set_cons_zero, List.set_cons_succ]
      refine qval (.pointer none) (by rfl) (by intro x hC; first | rfl | go_simp) ?_
      simp only [Act.put, List.setIfInBounds_toArray, List.set_cons_zero, List.set_cons_succ]
      refine qval (.int .i64 a1) (by rfl) (by intro x hC; first | rfl | go_simp) ?_
      simp only [Act.put, List.setIfInBounds_toArray, List.set_cons_zero, List.set_cons_succ]
      refine qcall 8 #[.pointer none, .int .i64 1, .int .i64 a1] (.int .i64 0) (by rfl) (by intro x; go_simp) (fun x hC => stays hC (most_nil _ _ x)) ?_
      simp only [Act.put, List.setIfInBounds_toArray, List.set_cons_zero, List.set_cons_succ]
      refine qval (.bool true) (by rfl) (by intro x hC; first | rfl | go_simp) ?_
      simp only [Act.put, List.setIfInBounds_toArray, List.set_cons_zero, List.set_cons_succ]
      refine qval (.bool true) (by rfl) (by intro x hC; first | rfl | go_simp) ?_
      simp only [Act.put, List.setIfInBounds_toArray, List.set_cons_zero, List.set_cons_succ]
      refine qval (.bool true) (by rfl) (by intro x hC; first | rfl | go_simp) ?_
      simp only [Act.put, List.setIfInBounds_toArray, List.set_cons_zero, List.set_cons_succ]
      refine qval (.pointer none) (by rfl) (by intro x hC; first | rfl | go_simp) ?_
      simp only [Act.put, List.setIfInBounds_toArray, List.set_cons_zero, List.set_cons_succ]
      refine qcall 18 #[.pointer none] (.agg #[.int .i64 0, .int .i64 0, .int .i64 0, .int .i64 0, .int .i64 0, .int .i64 0, .int .i64 0, .int .i64 0]) (by rfl) (by intro x; go_simp) (fun x hC => grows hC (all_nil x)) ?_
      simp only [Act.put, List.setIfInBounds_toArray, List.set_cons_zero, List.set_cons_succ]
      refine qval (.agg #[.int .i64 0, .int .i64 0, .int .i64 0, .int .i64 0, .int .i64 0, .int .i64 0, .int .i64 0, .int .i64 0]) (by rfl) (by intro x hC; obtain ⟨e0, e1, e2, e3, e4, e5, e6, e7⟩ := z8_keep hC HS.out; go_simp) ?_
      simp only [Act.put, List.setIfInBounds_toArray, List.set_cons_zero, List.set_cons_succ]
      refine qval (.bool true) (by rfl) (by intro x hC; have hq := heq x; go_simp) ?_
      simp only [Act.put, List.setIfInBounds_toArray, List.set_cons_zero, List.set_cons_succ]
      refine qval (.bool true) (by rfl) (by intro x hC; first | rfl | go_simp) ?_
      simp only [Act.put, List.setIfInBounds_toArray, List.set_cons_zero, List.set_cons_succ]
      refine qval (.bool true) (by rfl) (by intro x hC; first | rfl | go_simp) ?_
      simp only [Act.put, List.setIfInBounds_toArray, List.set_cons_zero, List.set_cons_succ]
      refine qval (.pointer none) (by rfl) (by intro x hC; first | rfl | go_simp) ?_
      simp only [Act.put, List.setIfInBounds_toArray, List.set_cons_zero, List.set_cons_succ]
      refine qcall 19 #[.pointer none] (.int .i64 0) (by rfl) (by intro x; go_simp) (fun x hC => grows hC (sum_nil x)) ?_
      simp only [Act.put, List.setIfInBounds_toArray, List.set_cons_zero, List.set_cons_succ]
      refine qval (.bool true) (by rfl) (by intro x hC; first | rfl | go_simp) ?_
      simp only [Act.put, List.setIfInBounds_toArray, List.set_cons_zero, List.set_cons_succ]
      refine qval (.bool true) (by rfl) (by intro x hC; first | rfl | go_simp) ?_
      simp only [Act.put, List.setIfInBounds_toArray, List.set_cons_zero, List.set_cons_succ]
      refine qval (.bool true) (by rfl) (by intro x hC; first | rfl | go_simp) ?_
      simp only [Act.put, List.setIfInBounds_toArray, List.set_cons_zero, List.set_cons_succ]
      refine qval (.bool false) (by rfl) (by intro x hC; first | rfl | go_simp) ?_
      simp only [Act.put, List.setIfInBounds_toArray, List.set_cons_zero, List.set_cons_succ]
      refine qval VF (by rfl) (by intro x hC; rw [HVF.out]; rfl) ?_
      simp only [Act.put, List.setIfInBounds_toArray, List.set_cons_zero, List.set_cons_succ]
      refine qskipv HU.out (by first | (rw [HVB.out]; rfl) | (rw [HVF.out]; rfl) | (rw [HU.out]; rfl) | rfl) ?_
      simp only [Act.put, List.setIfInBounds_toArray, List.set_cons_zero, List.set_cons_succ]
      refine qskipv HU.out (by first | (rw [HVB.out]; rfl) | (rw [HVF.out]; rfl) | (rw [HU.out]; rfl) | rfl) ?_
      simp only [Act.put, List.setIfInBounds_toArray, List.set_cons_zero, List.set_cons_succ]
      refine qskipv HU.out (by first | (rw [HVB.out]; rfl) | (rw [HVF.out]; rfl) | (rw [HU.out]; rfl) | rfl) ?_
      simp only [Act.put, List.setIfInBounds_toArray, List.set_cons_zero, List.set_cons_succ]
      refine qval (.bool false) (by first | rfl | (rw [HVF.out]; rfl)) (by intro x hC; rw [HVF.out]; rfl) ?_
      simp only [Act.put, List.setIfInBounds_toArray, List.set_cons_zero, List.set_cons_succ]
      refine qval (.bool false) (by rfl) (by intro x hC; first | rfl | go_simp) ?_
      simp only [Act.put, List.setIfInBounds_toArray, List.set_cons_zero, List.set_cons_succ]
      refine qval (.bool false) (by rfl) (by intro x hC; first | rfl | go_simp) ?_
      simp only [Act.put, List.setIfInBounds_toArray, List.set_cons_zero, List.set_cons_succ]
      refine qval (.bool true) (by rfl) (by intro x hC; first | rfl | go_simp) ?_
      simp only [Act.put, List.setIfInBounds_toArray, List.set_cons_zero, List.set_cons_succ]
      refine qval (.bool true) (by rfl) (by intro x hC; first | rfl | go_simp) ?_
      simp only [Act.put, List.setIfInBounds_toArray, List.set_cons_zero, List.set_cons_succ]
      refine qval (.int .i64 0) (by rfl) (by intro x hC; first | rfl | go_simp) ?_
      simp only [Act.put, List.setIfInBounds_toArray, List.set_cons_zero, List.set_cons_succ]
      refine qval (.bool true) (by rfl) (by intro x hC; first | rfl | go_simp) ?_
      simp only [Act.put, List.setIfInBounds_toArray, List.set_cons_zero, List.set_cons_succ]
      refine qval (.bool true) (by rfl) (by intro x hC; first | rfl | go_simp) ?_
      simp only [Act.put, List.setIfInBounds_toArray, List.set_cons_zero, List.set_cons_succ]
      refine qval (.bool true) (by rfl) (by intro x hC; first | rfl | go_simp) ?_
      simp only [Act.put, List.setIfInBounds_toArray, List.set_cons_zero, List.set_cons_succ]
      refine qval (.pointer (some ⟨w.heap.size, 0, none⟩)) (by rfl) (by intro x hC; first | rfl | go_simp) ?_
      simp only [Act.put, List.setIfInBounds_toArray, List.set_cons_zero, List.set_cons_succ]
      refine qval (.int .i64 a0) (by rfl) (by intro x hC; first | rfl | go_simp) ?_
      simp only [Act.put, List.setIfInBounds_toArray, List.set_cons_zero, List.set_cons_succ]
      refine qcall 10 #[.pointer (some ⟨w.heap.size, 0, none⟩), .int .i64 a0, .int .i64 5] (.int .i64 0) (by rfl) (by intro x; go_simp) (fun x hC => stays hC (swap_out w.heap.size a0 5 HK.out x)) ?_
      simp only [Act.put, List.setIfInBounds_toArray, List.set_cons_zero, List.set_cons_succ]
      refine qval (.bool true) (by rfl) (by intro x hC; first | rfl | go_simp) ?_
      simp only [Act.put, List.setIfInBounds_toArray, List.set_cons_zero, List.set_cons_succ]
      refine qval (.bool true) (by rfl) (by intro x hC; first | rfl | go_simp) ?_
      simp only [Act.put, List.setIfInBounds_toArray, List.set_cons_zero, List.set_cons_succ]
      refine qval (.bool true) (by rfl) (by intro x hC; first | rfl | go_simp) ?_
      simp only [Act.put, List.setIfInBounds_toArray, List.set_cons_zero, List.set_cons_succ]
      refine qval (.pointer (some ⟨w.heap.size, 0, none⟩)) (by rfl) (by intro x hC; first | rfl | go_simp) ?_
      simp only [Act.put, List.setIfInBounds_toArray, List.set_cons_zero, List.set_cons_succ]
      refine qval (.int .i64 a0) (by rfl) (by intro x hC; first | rfl | go_simp) ?_
      simp only [Act.put, List.setIfInBounds_toArray, List.set_cons_zero, List.set_cons_succ]
      refine qcall 8 #[.pointer (some ⟨w.heap.size, 0, none⟩), .int .i64 a0, .int .i64 5] (.int .i64 0) (by rfl) (by intro x; go_simp) (fun x hC => stays hC (most_out w.heap.size a0 5 HK.out x)) ?_
      simp only [Act.put, List.setIfInBounds_toArray, List.set_cons_zero, List.set_cons_succ]
      refine qval (.bool true) (by rfl) (by intro x hC; first | rfl | go_simp) ?_
      simp only [Act.put, List.setIfInBounds_toArray, List.set_cons_zero, List.set_cons_succ]
      refine qval (.bool true) (by rfl) (by intro x hC; first | rfl | go_simp) ?_
      simp only [Act.put, List.setIfInBounds_toArray, List.set_cons_zero, List.set_cons_succ]
      refine qval (.bool true) (by rfl) (by intro x hC; first | rfl | go_simp) ?_
      simp only [Act.put, List.setIfInBounds_toArray, List.set_cons_zero, List.set_cons_succ]
      refine qval (.pointer (some ⟨w.heap.size, 0, none⟩)) (by rfl) (by intro x hC; first | rfl | go_simp) ?_
      simp only [Act.put, List.setIfInBounds_toArray, List.set_cons_zero, List.set_cons_succ]
      refine qcall 18 #[.pointer (some ⟨w.heap.size, 0, none⟩)] (.agg #[.int .i64 0, .int .i64 0, .int .i64 0, .int .i64 0, .int .i64 0, .int .i64 0, .int .i64 0, .int .i64 0]) (by rfl) (by intro x; go_simp) (fun x hC => grows hC (allC (HCC.out.keep (hC.block w.heap.size HCC.out.lt)))) ?_
      simp only [Act.put, List.setIfInBounds_toArray, List.set_cons_zero, List.set_cons_succ]
      refine qval (.agg #[.int .i64 0, .int .i64 0, .int .i64 0, .int .i64 0, .int .i64 0, .int .i64 0, .int .i64 0, .int .i64 0]) (by rfl) (by intro x hC; obtain ⟨e0, e1, e2, e3, e4, e5, e6, e7⟩ := z8_keep hC HS.out; go_simp) ?_
      simp only [Act.put, List.setIfInBounds_toArray, List.set_cons_zero, List.set_cons_succ]
      refine qval (.bool true) (by rfl) (by intro x hC; have hq := heq x; go_simp) ?_
      simp only [Act.put, List.setIfInBounds_toArray, List.set_cons_zero, List.set_cons_succ]
      refine qval (.bool true) (by rfl) (by intro x hC; first | rfl | go_simp) ?_
      simp only [Act.put, List.setIfInBounds_toArray, List.set_cons_zero, List.set_cons_succ]
      refine qval (.bool true) (by rfl) (by intro x hC; first | rfl | go_simp) ?_
      simp only [Act.put, List.setIfInBounds_toArray, List.set_cons_zero, List.set_cons_succ]
      refine qval (.bool true) (by rfl) (by intro x hC; first | rfl | go_simp) ?_
      simp only [Act.put, List.setIfInBounds_toArray, List.set_cons_zero, List.set_cons_succ]
      refine qval (.bool true) (by rfl) (by intro x hC; first | rfl | go_simp) ?_
      simp only [Act.put, List.setIfInBounds_toArray, List.set_cons_zero, List.set_cons_succ]
      intro w5 hb5
      go_wp2
      go_ret
      exact ⟨rfl, hb4.trans (hb5.mono hb4.size)⟩


/-! ### THE ROW's STEP: WRITTEN OUT: LEAVE IT -/
set_option maxRecDepth 100000 in
theorem lifted (os : Os) (started : os.Started) (H : Type) (enc : TypeId × Value → H) :
    ReturnsInHanded {} Try.checked os 6 .any (Rows.countsNilSpec.pre6 enc Try.prog Try.f6 Rows.countsNilRow.domain false) (Rows.countsNilSpec.post enc Try.prog Try.f6 false true false false) := by
  refine returnsInHanded_of_change (C := Try.checked) own started (by kernel_rfl) Try.func6
    (ChangeSpec.witness6 (enc := enc) (C := Try.checked) false ⟨#[], #[.int .i64 0, .int .i64 0], []⟩ 8 (by kernel_rfl) (by kernel_rfl) (by kernel_rfl) (by kernel_rfl)) ?_
  intro W base args ds gs before hval0 hW hcnd _
  have hval : ∀ (j : Nat) t v, Try.f6.params[j]? = some t → args[j]? = some v → Value.okWide Try.prog W .any base t v := hval0
  have hW' := hW
  obtain ⟨p, q, hA0, hV, rfl, hfz, hnd⟩ := hW
  have hA : DataW.TrodAll enc Try.prog W 0 (fun _ => true) true Try.f6.params.toList args.toList ds p := hA0
  rw [Try.params6] at hA hval
  obtain ⟨v0, vs0, d0, ds0, p0, q0, hargs, rfl, rfl, h0, r0⟩ := trodAll_cons hA
  obtain ⟨v1, vs1, d1, ds1, p1, q1, rfl, rfl, rfl, h1, r1⟩ := trodAll_cons r0
  obtain ⟨rfl, rfl, rfl⟩ := trodAll_nil r1
  obtain rfl : args = #[v0, v1] := by cases args; simp_all
  obtain ⟨rfl, rfl⟩ := trodVars_none hV
  obtain ⟨a0, rfl, rfl, rfl, w0⟩ := open_int Try.underlying3 (hval 0 3 v0 rfl rfl) h0
  obtain ⟨a1, rfl, rfl, rfl, w1⟩ := open_int Try.underlying2 (hval 1 2 v1 rfl rfl) h1
  clear hA0 hval0
  simp only [List.append_nil] at hW'
  refine (walk a0 a1 w0 w1 W).mono fun e W' ⟨he, bel⟩ => ?_
  subst he
  exact ⟨_, rfl, _, _, _, [], _, [], hW', trodAll_mk1 (shut_bool Try.underlying4 _), (trodAll_cons_mk (shut_int Try.underlying3 w0) (trodAll_cons_mk (shut_int Try.underlying2 w1) trodAll_mk0)), rfl, bel.frame _, fun h => by cases h⟩

theorem over : Rows.countsNilRow.holds Try.pinned (OpenSpec.ofChange Rows.countsNilSpec) :=
  OpenClaim.holds_of_wide 6 Try.f6 rfl rfl rfl rfl rfl rfl rfl ⟨rfl, rfl, rfl, rfl, rfl⟩ rfl rfl rfl rfl rfl (by kernel_rfl) Try.func6 (by kernel_rfl)
    (of_decide_eq_true (by kernel_rfl)) (by unfold Func.isWrapper; first | (rw [if_pos (by decide +kernel)]; kernel_rfl) | (rw [if_neg (by decide +kernel)]; exact ⟨rfl, rfl⟩))
    (fun os started H enc _ => lifted os started H enc)

/-- ████ THE STATEMENT ████ -/
theorem proved : Rows.CountsNilSaid :=
  over
#print axioms proved
end Go.Proofs.Ytjkcjkcophbeiaa.countsNil
