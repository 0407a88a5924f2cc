/-
  The guard's state in memory: a struct of one map; what is known of each number, as a function. The laws on such a map at the operations of a walk.
-/
import Derived.Test.YtlohcidapoicoaaRows
import Derived.WalkKit
import Derived.WalkSpells
import Derived.WalkLawsBesides
import Derived.Lib.Hide
import Derived.Maps.OwnSet
import Derived.Maps.AppendAt
namespace Go.Proofs.Ytlohcidapoicoaa
open Go.RowKit Go.Maps

theorem law3 : Keyed Try.prog 3 := int_keyed Try.underlying3
theorem zero49 (w : World) : (zeroValue 49).run Try.prog w = .ok (.agg #[.int .i64 0, .int .i64 0]) w := by kernel_rfl

/-- What is known of a number, as data. -/
def dat (p : Int × Int) : DataW Unit := .agg [.lit (.int .i64 p.1), .lit (.int .i64 p.2)]
theorem dat_inj {p q : Int × Int} (h : dat p = dat q) : p = q := by
  unfold dat at h
  simp at h
  exact Prod.ext h.1 h.2
/-- How an element reads. -/
def rdP : Value → Option (DataW Unit × List MemPlace)
  | .agg ⟨[.int .i64 a, .int .i64 b]⟩ => some (dat (a, b), [])
  | _ => none
theorem rdP_mk (a b : Int) : rdP (.agg #[.int .i64 a, .int .i64 b]) = some (dat (a, b), []) := rfl
theorem rdP_inv {v : Value} {z : DataW Unit × List MemPlace} (h : rdP v = some z) : ∃ a b, v = .agg #[.int .i64 a, .int .i64 b] ∧ z = (dat (a, b), []) := by
  unfold rdP at h
  split at h
  · cases h; exact ⟨_, _, rfl, rfl⟩
  · cases h

/-- The map of the data is the function m. -/
def Sees (D : DataW Unit) (m : Int → Option (Int × Int)) : Prop := IsMap D ∧ ∀ k : Int, has D (.int .i64 k) = (m k).isSome ∧ D.atKey (.int .i64 k) (dat (0, 0)) = dat ((m k).getD (0, 0))

/-- m with p known of k. -/
def upd (m : Int → Option (Int × Int)) (k : Int) (p : Option (Int × Int)) : Int → Option (Int × Int) := fun j => if j = k then p else m j

theorem isKey (k : Int) : WideAt.IsKeyLit (.int .i64 k) := by simp [WideAt.IsKeyLit]
theorem key_ne {k j : Int} (h : j ≠ k) : (Lit.int .i64 j) ≠ (Lit.int .i64 k) := by simpa using h

theorem Sees.none : Sees (.map []) (fun _ => none) := ⟨isMap_empty, fun _ => ⟨rfl, rfl⟩⟩
theorem Sees.put {D : DataW Unit} {m : Int → Option (Int × Int)} (h : Sees D m) (k : Int) (p : Int × Int) : Sees (D.put (.int .i64 k) (dat p)) (upd m k (some p)) := by
  refine ⟨h.1.put _ _, fun j => ?_⟩
  unfold upd
  by_cases hj : j = k
  · subst hj
    rw [has_put_same h.1 (isKey j), atKey_put_same h.1 (isKey j), if_pos rfl]
    exact ⟨rfl, rfl⟩
  · rw [has_put_other (key_ne hj), atKey_put_other (key_ne hj), if_neg hj]
    exact h.2 j
theorem Sees.del {D : DataW Unit} {m : Int → Option (Int × Int)} (h : Sees D m) (k : Int) : Sees (D.del (.int .i64 k)) (upd m k Option.none) := by
  refine ⟨h.1.del _, fun j => ?_⟩
  unfold upd
  by_cases hj : j = k
  · subst hj
    rw [has_del_same, atKey_del_same, if_pos rfl]
    exact ⟨rfl, rfl⟩
  · rw [has_del_other (key_ne hj), atKey_del_other (key_ne hj), if_neg hj]
    exact h.2 j

/-- Block g is a guard: its one cell leads to a map, of at most n entries, that reads as D. -/
def Gd (w : World) (g bm n : Nat) (D : DataW Unit) : Prop := ∃ T, w.heap[g]? = some (.cells #[.map (some bm)] T (0, 0)) ∧ bm ≠ g ∧ w.ownsMap Try.prog 3 rdP bm n D

theorem Gd.lt {w : World} {g bm n : Nat} {D : DataW Unit} (h : Gd w g bm n D) : g < w.heap.size := by
  obtain ⟨_, hb, _⟩ := h
  exact (Array.getElem?_eq_some_iff.1 hb).1
theorem Gd.ltm {w : World} {g bm n : Nat} {D : DataW Unit} (h : Gd w g bm n D) : bm < w.heap.size := by
  obtain ⟨_, _, _, hown⟩ := h
  exact hown.lt
theorem grown_of_below {B : Nat} {w w' : World} (hb : Below B w w') (hB : w.heap.size ≤ B) (row : Option Nat) : w.grownBy w' row :=
  ⟨hb.os, hb.tape, hb.output, hb.size, fun k hk _ => hb.block k (by omega)⟩
theorem Gd.cell {w : World} {g bm n : Nat} {D : DataW Unit} (h : Gd w g bm n D) : w.cell? ⟨g, 0, none⟩ = some (.map (some bm)) := by
  obtain ⟨_, hb, _⟩ := h
  exact cell_of_one hb
theorem Gd.own {w : World} {g bm n : Nat} {D : DataW Unit} (h : Gd w g bm n D) : w.ownsMap Try.prog 3 rdP bm n D := by
  obtain ⟨_, _, _, hown⟩ := h
  exact hown
/-- It stays while other blocks are written and new ones are made. -/
theorem Gd.kept {w w' : World} {g bm n : Nat} {D : DataW Unit} (h : Gd w g bm n D) {row : Option Nat} (hg : w.grownBy w' row) (h1 : some g ≠ row) (h2 : some bm ≠ row) : Gd w' g bm n D := by
  have hlt := h.lt
  obtain ⟨T, hb, hne, hown⟩ := h
  exact ⟨T, (hg.block g hlt h1).trans hb, hne, hown.kept hg h2⟩
theorem Gd.below {w w' : World} {g bm n : Nat} {D : DataW Unit} (h : Gd w g bm n D) (hb : Below w.heap.size w w') : Gd w' g bm n D :=
  h.kept (grown_of_below hb (Nat.le_refl _) none) (by simp) (by simp)

/-- The look-up with ok, the element's shape written out. -/
theorem wpList_lookup_pair {P : Program} (w : World) {ops : Array Oper} {rest : List Oper} {o : Oper} {a : Act} {Q : Exit → Act → World → Prop}
    (hg : o.guard = none) (m x : Operand) (t : TypeId) (hop : o.op = Op.lookup t m x true)
    (k e : TypeId) (K : Keyed P k) (ht : P.underlying t = some (.map k e)) (hz : (zeroValue e).run P w = .ok (.agg #[.int .i64 0, .int .i64 0]) w) (b n : Nat) (D : DataW Unit)
    (hm : a.eval m = .map (some b)) (hown : w.ownsMap P k rdP b n D) (key : Value) (kl : Lit) (hx : a.eval x = key) (hkey : keyOf P k key = some kl)
    (hK : ∀ c d : Int, D.atKey kl (dat (0, 0)) = dat (c, d) → wpList P ops Q rest (a.put o.dst (.tuple #[.agg #[.int .i64 c, .int .i64 d], .bool (Maps.has D kl)])) w) :
    wpList P ops Q (o :: rest) a w :=
  wpList_lookup_own_ok w hg m x t hop k e K ht rdP hz (dat (0, 0)) [] (rdP_mk 0 0) b n D hm hown key kl hx hkey (fun v ps hv => by
    obtain ⟨c, d, rfl, hc⟩ := rdP_inv hv
    exact hK c d (congrArg Prod.fst hc))

set_option maxHeartbeats 400000 in
theorem of_any {g bm n : Nat} {D : DataW Unit} {m : Int → Option (Int × Int)} {w : World} (hG : Gd w g bm n D) (hs : Sees D m) (k : Int) (hk : (Lit.int .i64 k).wf = true) :
    Calls Try.prog 21 #[.pointer (some ⟨g, 0, none⟩), .int .i64 k] w fun e w' => e = .returned (.tuple #[.agg #[.int .i64 ((m k).getD (0, 0)).1, .int .i64 ((m k).getD (0, 0)).2], .bool (m k).isSome]) ∧ Below w.heap.size w w' := by
  obtain ⟨T, hb, hne, hown⟩ := hG
  have hglt : g < w.heap.size := (Array.getElem?_eq_some_iff.1 hb).1
  have hc := cell_of_one hb
  have hkey := keyOf_int_mk Try.underlying3 hk
  have hh := Lib.hid (hs.2 k)
  clear hb
  go_enter Try.func21, Try.ntmps21
  go_wp2_with (at_lookup; refine wpList_lookup_pair _ rfl _ _ 45 rfl 3 49 law3 Try.underlying45 (zero49 _) bm n D rfl (hown.alloc _) _ _ rfl hkey ?_; intro c d hat)
  obtain ⟨h1, h2⟩ := hh.out
  have hcd : (c, d) = (m k).getD (0, 0) := dat_inj (hat.symm.trans h2)
  refine bodyPost_ret (v := .tuple #[.agg #[.int .i64 c, .int .i64 d], .bool (has D (.int .i64 k))]) (by simp [results, Try.results21, go_sem]) rfl ⟨?_, ?_⟩
  · rw [h1, ← hcd]
  · exact ((Below.refl _ _).alloc (Nat.le_refl _) _).alloc (by simp) _

theorem next_any {g bm n : Nat} {D : DataW Unit} {m : Int → Option (Int × Int)} {w : World} (hG : Gd w g bm n D) (hs : Sees D m) (k : Int) (hk : (Lit.int .i64 k).wf = true) :
    Calls Try.prog 11 #[.pointer (some ⟨g, 0, none⟩), .int .i64 k] w fun e w' => e = .returned (.int .i64 ((m k).getD (0, 0)).2) ∧ Below w.heap.size w w' := by
  go_enter Try.func11, Try.ntmps11
  go_wp2_with (go_at_call 21; refine (of_any hG hs k hk).mono ?_; rintro e w1 ⟨rfl, hb⟩)
  go_ret
  exact ⟨rfl, hb.alloc hb.size _⟩

theorem last_any {g bm n : Nat} {D : DataW Unit} {m : Int → Option (Int × Int)} {w : World} (hG : Gd w g bm n D) (hs : Sees D m) (k : Int) (hk : (Lit.int .i64 k).wf = true) :
    Calls Try.prog 10 #[.pointer (some ⟨g, 0, none⟩), .int .i64 k] w fun e w' => e = .returned (.tuple #[.int .i64 ((m k).getD (0, 0)).1, .bool (m k).isSome]) ∧ Below w.heap.size w w' := by
  go_enter Try.func10, Try.ntmps10
  go_wp2_with (go_at_call 21; refine (of_any hG hs k hk).mono ?_; rintro e w1 ⟨rfl, hb⟩)
  go_ret2
  exact ⟨rfl, hb.alloc hb.size _⟩

theorem new_any (w : World) : Calls Try.prog 8 #[] w fun e w' => e = .returned (.pointer (some ⟨w.heap.size + 1, 0, none⟩)) ∧ Gd w' (w.heap.size + 1) w.heap.size 0 (.map []) ∧ Below w.heap.size w w' := by
  have hmm := @run_makeMap Try.prog
  go_enter Try.func8, Try.ntmps8
  go_wp2
  go_ret
  exact ⟨rfl, ⟨_, heap_alloc2_new _ _ _, by omega, (World.ownsMap_made _ _ _ _).alloc _⟩, ((Below.refl _ _).alloc (Nat.le_refl _) _).alloc (by simp) _⟩

/-- What a release may be asked with. -/
def may (p now : Int) : Prop := 1 ≤ p ∧ p ≤ 2147483648 ∧ 0 ≤ now ∧ now ≤ 1099511627776

theorem rel_early {g bm n : Nat} {D : DataW Unit} {m : Int → Option (Int × Int)} {w : World} (hG : Gd w g bm n D) (hs : Sees D m) (k p now : Int) (hk : (Lit.int .i64 k).wf = true) (hm : may p now) (hlt : now < ((m k).getD (0, 0)).2) :
    Calls Try.prog 9 #[.pointer (some ⟨g, 0, none⟩), .int .i64 k, .int .i64 p, .int .i64 now] w fun e w' => e = .returned (.int .i64 19) ∧ Below w.heap.size w w' := by
  obtain ⟨h1, h2, h3, h4⟩ := hm
  go_enter Try.func9, Try.ntmps9
  go_wp2_with (go_at_call 11; refine (next_any hG hs k hk).mono ?_; rintro e w1 ⟨rfl, hb⟩)
  go_ret
  exact ⟨rfl, hb⟩

set_option maxHeartbeats 400000 in
theorem rel_ok {g bm n : Nat} {D : DataW Unit} {m : Int → Option (Int × Int)} {w : World} (hG : Gd w g bm n D) (hs : Sees D m) (hn : n < 1000000) (k p now : Int) (hk : (Lit.int .i64 k).wf = true) (hm : may p now) (hge : ¬ now < ((m k).getD (0, 0)).2) :
    Calls Try.prog 9 #[.pointer (some ⟨g, 0, none⟩), .int .i64 k, .int .i64 p, .int .i64 now] w fun e w' => e = .returned (.int .i64 0) ∧ Gd w' g bm (n + 1) (D.put (.int .i64 k) (dat (now, now + p))) ∧ w.grownBy w' (some bm) := by
  obtain ⟨h1, h2, h3, h4⟩ := hm
  have hglt := hG.lt
  have hG0 := hG
  have hne : ∀ (w : World) (r : Option Nat), (binOp .eql 45 (.map r) (.map none)).run Try.prog w = .ok (.bool r.isNone) w := fun w r => run_eql_map_nil w 45 3 49 r Try.underlying45
  have hkey := keyOf_int_mk Try.underlying3 hk
  go_enter Try.func9, Try.ntmps9
  go_wp2_with (first
    | (go_at_call 11; refine (next_any hG hs k hk).mono ?_; rintro e w1 ⟨rfl, hb⟩; have hc1 := (hG.below hb).cell; have hown1 := (hG.below hb).own)
    | (at_mapUpdate; refine wpList_mapUpdate_own _ rfl _ _ _ 45 rfl 3 49 law3 Try.underlying45 rdP bm n D rfl hown1 (by unfold maxLen; omega) _ _ _ rfl rfl hkey _ [] (rdP_mk _ _) ?_; intro w2 hown2 hgrow2))
  go_ret
  have hG1 := hG.below hb
  refine ⟨rfl, ?_, (grown_of_below hb (Nat.le_refl _) _).trans hgrow2⟩
  obtain ⟨T, hbb, hnn, _⟩ := hG1
  exact ⟨T, (hgrow2.block g (by have := hb.size; omega) (fun e => hnn (Option.some.inj e).symm)).trans hbb, hnn, hown2⟩

theorem rel_arg {g bm n : Nat} {D : DataW Unit} {w : World} (_hG : Gd w g bm n D) (k p now : Int) (hm : ¬ may p now) :
    Calls Try.prog 9 #[.pointer (some ⟨g, 0, none⟩), .int .i64 k, .int .i64 p, .int .i64 now] w fun e w' => e = .returned (.int .i64 1) ∧ w = w' := by
  unfold may at hm
  have h : p < 1 ∨ 1 ≤ p ∧ 2147483648 < p ∨ 1 ≤ p ∧ p ≤ 2147483648 ∧ now < 0 ∨ 1 ≤ p ∧ p ≤ 2147483648 ∧ 0 ≤ now ∧ 1099511627776 < now := by omega
  clear hm
  rcases h with h | ⟨h, h1⟩ | ⟨h, h1, h2⟩ | ⟨h, h1, h2, h3⟩
  all_goals
    go_enter Try.func9, Try.ntmps9
    go_wp2
    go_ret
    exact ⟨rfl, rfl⟩

set_option maxHeartbeats 400000 in
theorem forget_is {g bm n : Nat} {D : DataW Unit} {m : Int → Option (Int × Int)} {w : World} (hG : Gd w g bm n D) (hs : Sees D m) (k : Int) (hk : (Lit.int .i64 k).wf = true) (his : (m k).isSome = true) :
    Calls Try.prog 12 #[.pointer (some ⟨g, 0, none⟩), .int .i64 k] w fun e w' => e = .returned (.bool true) ∧ Gd w' g bm n (D.del (.int .i64 k)) ∧ w.grownBy w' (some bm) := by
  have hglt := hG.lt
  have hkey := keyOf_int_mk Try.underlying3 hk
  go_enter Try.func12, Try.ntmps12
  go_wp2_with (first
    | (go_at_call 21; refine (of_any hG hs k hk).mono ?_; rintro e w1 ⟨rfl, hb⟩; have hc1 := ((hG.below hb).below ((Below.refl _ _).alloc (Nat.le_refl _) (.cells #[.int .i64 ((m k).getD (0, 0)).1, .int .i64 ((m k).getD (0, 0)).2] 49))).cell; have hown1 := ((hG.below hb).below ((Below.refl _ _).alloc (Nat.le_refl _) (.cells #[.int .i64 ((m k).getD (0, 0)).1, .int .i64 ((m k).getD (0, 0)).2] 49))).own)
    | (at_delete; refine wpList_delete_own _ rfl _ _ 45 3 rfl 49 law3 Try.underlying45 rdP bm n D rfl hown1 _ _ rfl hkey ?_; intro w2 hown2 hturn2))
  go_ret
  have hG1 := (hG.below hb).below ((Below.refl _ _).alloc (Nat.le_refl _) (.cells #[.int .i64 ((m k).getD (0, 0)).1, .int .i64 ((m k).getD (0, 0)).2] 49))
  have hlt1 := hG1.lt
  refine ⟨rfl, ?_, ((grown_of_below hb (Nat.le_refl _) _).trans (World.grownBy_alloc _ _ _)).trans hturn2.grown⟩
  obtain ⟨T, hbb, hnn, _⟩ := hG1
  exact ⟨T, (hturn2.grown.block g hlt1 (fun e => hnn (Option.some.inj e).symm)).trans hbb, hnn, hown2⟩
theorem forget_no {g bm n : Nat} {D : DataW Unit} {m : Int → Option (Int × Int)} {w : World} (hG : Gd w g bm n D) (hs : Sees D m) (k : Int) (hk : (Lit.int .i64 k).wf = true) (his : (m k).isSome = false) :
    Calls Try.prog 12 #[.pointer (some ⟨g, 0, none⟩), .int .i64 k] w fun e w' => e = .returned (.bool false) ∧ Below w.heap.size w w' := by
  go_enter Try.func12, Try.ntmps12
  go_wp2_with (go_at_call 21; refine (of_any hG hs k hk).mono ?_; rintro e w1 ⟨rfl, hb⟩)
  go_ret
  exact ⟨rfl, hb.alloc hb.size _⟩
end Go.Proofs.Ytlohcidapoicoaa
