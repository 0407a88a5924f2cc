/-
  edf.Run: a piece of the first job.
  The guard's state in memory: a struct of one map; what is known of each number, as a function. The laws on such a map at the operations of a walk.
  The guard, said of what is known of each number as a function; the chapter's example.
-/
import Derived.Test.YtoichcickcgbgaaGreatDoorGHfEl
import Derived.Test.YtoichcickcgbgaaGreatDoorRows
import Derived.WalkKit
import Derived.WalkSpells
import Derived.WalkLawsBesides
import Derived.Lib.Hide
import Derived.Maps.OwnSet
import Derived.Maps.AppendAt
namespace Go.Proofs.YtoichcickcgbgaaGreatDoor
open Go.RowKit
attribute [local go_sem] Oper.semAt_some
attribute [local go_sem] run_store_func
/-- One piece less. -/
def Jb.less (a : Jb) : Jb := ⟨a.id, a.rel, a.due, a.left - 1⟩
set_option maxRecDepth 100000 in
set_option maxHeartbeats 1000000 in
theorem run_none {w : World} {x h : Nat} (e : Ex w x h []) : Calls Tryz.prog 96 #[.pointer (some ⟨x, 0, none⟩)] w fun e w' => e = .returned (.agg #[.int .i64 (-1), .bool false]) ∧ Below w.heap.size w w' := by
  have bX := (Below.refl w.heap.size w).alloc (Nat.le_refl _) (.cells #[.int .i64 0, .bool false] 51)
  have hR := Bx.new w [.int .i64 0, .bool false] 51
  have HE := Lib.hid (e.below bX)
  have HB := Lib.hid bX
  have c0 := hR.cell 0 rfl
  have c1 := hR.cell 1 rfl
  have f0 := hR.free 0
  have f1 := hR.free 1
  have HR := Lib.hid hR
  clear bX e hR
  go_enter Tryz.func96, Tryz.ntmps96
  go_wp2_with fail
  generalize w.alloc (.cells #[.int .i64 0, .bool false] 51) = u0 at *
  refine (idle_any HE.out).mono ?_
  rintro e w1 ⟨rfl, rfl⟩
  simp only [decide_true]
  go_wp2_with fail
  have s0 := Bx.set (w := u0) HR.out 0 (.int .i64 (-1)) _ rfl
  have s1 := Bx.set (w := _) s0 1 (.bool false) _ rfl
  have e0 := s1.cell 0 rfl
  have e1 := s1.cell 1 rfl
  refine bodyPost_ret (v := .agg #[.int .i64 (-1), .bool false]) (by simp [results, Tryz.results96, go_sem, e0, e1]) rfl ?_
  exact ⟨rfl, bset (bset HB.out HB.out.size w.heap.size 0 (.int .i64 (-1)) (Nat.le_refl _)) (by simp only [World.size_setCell]; exact HB.out.size) w.heap.size 1 (.bool false) (Nat.le_refl _)⟩
set_option maxRecDepth 100000 in
set_option maxHeartbeats 1000000 in
theorem run_some {w : World} {x h : Nat} {a : Jb} {l : List Jb} (e : Ex w x h (a :: l)) (h0 : 0 < a.left) (h9 : a.left ≤ 2147483648) : Calls Tryz.prog 96 #[.pointer (some ⟨x, 0, none⟩)] w fun e w' => e = .returned (.agg #[.int .i64 a.id, .bool (decide (a.left = 1))]) ∧ (∃ js', Ex w' x h js' ∧ ((a.left = 1 ∧ js' = l) ∨ (a.left ≠ 1 ∧ (js' = l ++ [a.less] ∨ js' = a.less :: l)))) ∧ Turn (fun i => i = h) w w' := by
  have bX := (Below.refl w.heap.size w).alloc (Nat.le_refl _) (.cells #[.int .i64 0, .bool false] 51)
  have hR := Bx.new w [.int .i64 0, .bool false] 51
  have HE := Lib.hid (e.below bX)
  have HB := Lib.hid bX
  have HR := Lib.hid hR
  have hsz := hR.lt
  have hxl := e.1.lt
  have hhl : h < w.heap.size := by obtain ⟨t, ht⟩ := e.2.hx; exact Bx.lt ht
  clear bX e hR
  go_enter Tryz.func96, Tryz.ntmps96
  go_wp2_with fail
  generalize w.alloc (.cells #[.int .i64 0, .bool false] 51) = u0 at *
  refine (idle_any HE.out).mono ?_
  rintro e w1 ⟨rfl, rfl⟩
  have hd : decide (a :: l = []) = false := by simp
  rw [hd]
  clear hd
  have cx := HE.out.1.cell 0 rfl
  go_wp2_with fail
  refine (hmin_any HE.out.2).mono ?_
  rintro e w2 ⟨rfl, b2⟩
  have HE2 := Lib.hid (HE.out.below b2)
  have HR2 := Lib.hid (HR.out.below b2)
  have HB2 := Lib.hid (HB.out.trans (b2.mono HB.out.size))
  have hs2 : u0.heap.size ≤ w2.heap.size := b2.size
  have cx2 := HE2.out.1.cell 0 rfl
  have hx2 : x < w2.heap.size := HE2.out.1.lt
  clear b2 HE HR HB cx
  by_cases hz : a.left = 1
  · have hz2 : (a.left - 1 == 0) = true := by simp; omega
    have bA := (Below.refl w2.heap.size w2).alloc (Nat.le_refl _) (.cells #[.int .i64 a.id, .int .i64 a.rel, .int .i64 a.due, .int .i64 0] 137)
    have HJ := Lib.hid (Bx.new w2 [.int .i64 a.id, .int .i64 a.rel, .int .i64 a.due, .int .i64 0] 137)
    have HE3 := Lib.hid (HE2.out.below bA)
    have HR3 := Lib.hid (HR2.out.below bA)
    have HB3 := Lib.hid (HB2.out.trans (bA.mono HB2.out.size))
    have hJs : w2.heap.size < (w2.alloc (.cells #[.int .i64 a.id, .int .i64 a.rel, .int .i64 a.due, .int .i64 0] 137)).heap.size := HJ.out.lt
    clear bA HE2 HR2 HB2
    go_wp2_with fail
    generalize w2.alloc (.cells #[.int .i64 a.id, .int .i64 a.rel, .int .i64 a.due, .int .i64 0] 137) = u2 at *
    refine (htake_any HE3.out.2).mono ?_
    rintro e w3 ⟨rfl, hp3, t3⟩
    have hR4 := HR3.out.turn t3 (by omega)
    have hJ4 := HJ.out.turn t3 (by omega)
    have HX4 := Lib.hid (HE3.out.1.turn t3 (fun e => by obtain ⟨t, ht⟩ := HE3.out.2.hx; exact Bx.ne HE3.out.1 ht (by decide) e))
    have HP4 := Lib.hid hp3
    have HT4 := Lib.hid t3
    have i0 := hJ4.cell 0 rfl
    have r0 := hR4.cell 0 rfl
    have r1 := hR4.cell 1 rfl
    have f0 := hR4.free 0
    have f1 := hR4.free 1
    have HR4 := Lib.hid hR4
    clear hp3 t3 hR4 hJ4
    go_wp2_with fail
    have ts : Turn (fun i => i = w.heap.size) w3 ((w3.setCell ⟨w.heap.size, 0, none⟩ (.int .i64 a.id)).setCell ⟨w.heap.size, 1, none⟩ (.bool true)) := (Turn.set (S := fun i => i = w.heap.size) _ _ _ _ rfl).trans (Turn.set _ _ _ _ rfl)
    have s0 := Bx.set (w := w3) HR4.out 0 (.int .i64 a.id) _ rfl
    have s1 := Bx.set (w := _) s0 1 (.bool true) _ rfl
    have e0 := s1.cell 0 rfl
    have e1 := s1.cell 1 rfl
    refine bodyPost_ret (v := .agg #[.int .i64 a.id, .bool true]) (by simp [results, Tryz.results96, go_sem, e0, e1]) rfl ?_
    refine ⟨by simp [hz], ⟨l, ⟨HX4.out.turn ts (by omega), HP4.out.turn ts (by omega) (fun p l hp e => ?_)⟩, .inl ⟨hz, rfl⟩⟩, ((Turn.below HB3.out).trans HT4.out).then ts (fun i hi e => by omega)⟩
    exact Bx.ne hp HR4.out (by decide) e
  · have hz2 : (a.left - 1 == 0) = false := by simp; omega
    have bA := (Below.refl w2.heap.size w2).alloc (Nat.le_refl _) (.cells #[.int .i64 a.id, .int .i64 a.rel, .int .i64 a.due, .int .i64 (a.left - 1)] 137)
    have HJ := Lib.hid (Bx.new w2 [.int .i64 a.id, .int .i64 a.rel, .int .i64 a.due, .int .i64 (a.left - 1)] 137)
    have HE3 := Lib.hid (HE2.out.below bA)
    have HR3 := Lib.hid (HR2.out.below bA)
    have HB3 := Lib.hid (HB2.out.trans (bA.mono HB2.out.size))
    have hJs : w2.heap.size < (w2.alloc (.cells #[.int .i64 a.id, .int .i64 a.rel, .int .i64 a.due, .int .i64 (a.left - 1)] 137)).heap.size := HJ.out.lt
    clear bA HE2 HR2 HB2
    go_wp2_with fail
    generalize w2.alloc (.cells #[.int .i64 a.id, .int .i64 a.rel, .int .i64 a.due, .int .i64 (a.left - 1)] 137) = u2 at *
    have KC : Hid (∀ z, Hid (Turn (fun i => i = h) u2 z) → (z.cell? ⟨x, 0, none⟩ = some (.pointer (some ⟨h, 0, none⟩)) ∧ z.cell? ⟨w2.heap.size, 0, none⟩ = some (.int .i64 a.id) ∧ z.cell? ⟨w2.heap.size, 1, none⟩ = some (.int .i64 a.rel) ∧ z.cell? ⟨w2.heap.size, 2, none⟩ = some (.int .i64 a.due) ∧ z.cell? ⟨w2.heap.size, 3, none⟩ = some (.int .i64 (a.left - 1)))) := fun z b => ⟨(HE3.out.1.turn b.out (fun e => by obtain ⟨t, ht⟩ := HE3.out.2.hx; exact Bx.ne HE3.out.1 ht (by decide) e)).cell 0 rfl, (HJ.out.turn b.out (by omega)).cell 0 rfl, (HJ.out.turn b.out (by omega)).cell 1 rfl, (HJ.out.turn b.out (by omega)).cell 2 rfl, (HJ.out.turn b.out (by omega)).cell 3 rfl⟩
    have T1 : Hid (Turn (fun i => i = h) u2 u2.drew) := (Turn.refl _ _).drew
    refine wp_region_held_drew (S := fun z => (z.cell? ⟨x, 0, none⟩ = some (.pointer (some ⟨h, 0, none⟩)) ∧ z.cell? ⟨w2.heap.size, 0, none⟩ = some (.int .i64 a.id) ∧ z.cell? ⟨w2.heap.size, 1, none⟩ = some (.int .i64 a.rel) ∧ z.cell? ⟨w2.heap.size, 2, none⟩ = some (.int .i64 a.due) ∧ z.cell? ⟨w2.heap.size, 3, none⟩ = some (.int .i64 (a.left - 1))) ∧ Hid (Turn (fun i => i = h) u2 z)) (by kernel_rfl) (tkp KC T1) (fun hHeld => ?_)
    refine wtk 0 31 (.pointer (some ⟨x, 0, none⟩)) rfl (by kernel_rfl) (fun _ _ _ h => h) (by rfl) (fun x hSw => by obtain ⟨⟨d0, d1, d2, d3, d4⟩, _⟩ := id hSw; (go_simp) <;> first | decide | exact IntWalk.i64_in _ (by omega)) (by assumption) ?_
    try simp only [Act.put, pw]
    refine wtk 1 32 (.pointer (some ⟨x, 0, none⟩)) rfl (by kernel_rfl) (fun _ _ _ h => h) (by rfl) (fun x hSw => by obtain ⟨⟨d0, d1, d2, d3, d4⟩, _⟩ := id hSw; (go_simp) <;> first | decide | exact IntWalk.i64_in _ (by omega)) (by assumption) ?_
    try simp only [Act.put, pw]
    refine wtk 2 33 (.pointer (some ⟨x, 0, none⟩)) rfl (by kernel_rfl) (fun _ _ _ h => h) (by rfl) (fun x hSw => by obtain ⟨⟨d0, d1, d2, d3, d4⟩, _⟩ := id hSw; (go_simp) <;> first | decide | exact IntWalk.i64_in _ (by omega)) (by assumption) ?_
    try simp only [Act.put, pw]
    refine wtk 3 34 (.pointer (some ⟨h, 0, none⟩)) rfl (by kernel_rfl) (fun _ _ _ h => h) (by rfl) (fun x hSw => by obtain ⟨⟨d0, d1, d2, d3, d4⟩, _⟩ := id hSw; (go_simp) <;> first | decide | exact IntWalk.i64_in _ (by omega)) (by assumption) ?_
    try simp only [Act.put, pw]
    refine wtk 4 35 (.agg #[.int .i64 a.id, .int .i64 a.rel, .int .i64 a.due, .int .i64 (a.left - 1)]) rfl (by kernel_rfl) (fun _ _ _ h => h) (by rfl) (fun x hSw => by obtain ⟨⟨d0, d1, d2, d3, d4⟩, _⟩ := id hSw; (go_simp) <;> first | decide | exact IntWalk.i64_in _ (by omega)) (by assumption) ?_
    try simp only [Act.put, pw]
    refine wpAnyH_ready (rs := [5]) (by kernel_rfl) (by simp) (AllReadyH.cons rfl (fun K hK => ?_) AllReadyH.nil)
    go_simp
    refine (hchange_any (x := a.less) (HE3.out.2.below (bl_drew (bl0 _)).out)).mono ?_
    rintro e w3 ⟨⟨v3, rfl⟩, hq, t3⟩
    have T3 : Hid (Turn (fun i => i = h) u2 w3) := T1.out.trans t3
    refine hK.out _ _ (tkp KC T3) (fun hHeld => ?_)
    clear hK K
    have HQ := Lib.hid hq
    clear hq t3 T1
    try simp only [Act.put, pw]
    refine wpAnyH_done (by kernel_rfl) ?_ _
    obtain ⟨js', hq4, hjs⟩ := HQ.out
    have hR4 := HR3.out.turn T3.out (by omega)
    have hJ4 := HJ.out.turn T3.out (by omega)
    have HX4 := Lib.hid (HE3.out.1.turn T3.out (fun e => by obtain ⟨t, ht⟩ := HE3.out.2.hx; exact Bx.ne HE3.out.1 ht (by decide) e))
    have HP4 := Lib.hid hq4
    have HJS := Lib.hid hjs
    have i0 := hJ4.cell 0 rfl
    have r0 := hR4.cell 0 rfl
    have r1 := hR4.cell 1 rfl
    have f0 := hR4.free 0
    have f1 := hR4.free 1
    have HR4 := Lib.hid hR4
    clear hq4 hR4 hJ4 hjs
    go_wp2_with fail
    have ts : Turn (fun i => i = w.heap.size) w3 ((w3.setCell ⟨w.heap.size, 0, none⟩ (.int .i64 a.id)).setCell ⟨w.heap.size, 1, none⟩ (.bool false)) := (Turn.set (S := fun i => i = w.heap.size) _ _ _ _ rfl).trans (Turn.set _ _ _ _ rfl)
    have s0 := Bx.set (w := w3) HR4.out 0 (.int .i64 a.id) _ rfl
    have s1 := Bx.set (w := _) s0 1 (.bool false) _ rfl
    have e0 := s1.cell 0 rfl
    have e1 := s1.cell 1 rfl
    refine bodyPost_ret (v := .agg #[.int .i64 a.id, .bool false]) (by simp [results, Tryz.results96, go_sem, e0, e1]) rfl ?_
    refine ⟨by simp [hz], ⟨js', ⟨HX4.out.turn ts (by omega), HP4.out.turn ts (by omega) (fun p l hp e => ?_)⟩, .inr ⟨hz, HJS.out⟩⟩, ((Turn.below HB3.out).trans T3.out).then ts (fun i hi e => by omega)⟩
    exact Bx.ne hp HR4.out (by decide) e
end Go.Proofs.YtoichcickcgbgaaGreatDoor
namespace Go.Proofs.YtoichcickcgbgaaGreatDoor.Grd
open Go.RowKit Go.Maps
theorem law3 : Keyed Tryz.prog 3 := int_keyed Tryz.underlying3
theorem zero49 (w : World) : (zeroValue 210).run Tryz.prog w = .ok (.agg #[.int .i64 0, .int .i64 0]) w := by kernel_rfl
/-- What is known of a number, as data. -/
def dat (p : Int × Int) : DataW Unit := .agg [.lit (.int .i64 p.1), .lit (.int .i64 p.2)]
theorem dat_inj {p q : Int × Int} (h : dat p = dat q) : p = q := by
  unfold dat at h
  simp at h
  exact Prod.ext h.1 h.2
/-- How an element reads. -/
def rdP : Value → Option (DataW Unit × List MemPlace)
  | .agg ⟨[.int .i64 a, .int .i64 b]⟩ => some (dat (a, b), [])
  | _ => none
theorem rdP_mk (a b : Int) : rdP (.agg #[.int .i64 a, .int .i64 b]) = some (dat (a, b), []) := rfl
theorem rdP_inv {v : Value} {z : DataW Unit × List MemPlace} (h : rdP v = some z) : ∃ a b, v = .agg #[.int .i64 a, .int .i64 b] ∧ z = (dat (a, b), []) := by
  unfold rdP at h
  split at h
  · cases h; exact ⟨_, _, rfl, rfl⟩
  · cases h
/-- The map of the data is the function m. -/
def Sees (D : DataW Unit) (m : Int → Option (Int × Int)) : Prop := IsMap D ∧ ∀ k : Int, has D (.int .i64 k) = (m k).isSome ∧ D.atKey (.int .i64 k) (dat (0, 0)) = dat ((m k).getD (0, 0))
/-- m with p known of k. -/
def upd (m : Int → Option (Int × Int)) (k : Int) (p : Option (Int × Int)) : Int → Option (Int × Int) := fun j => if j = k then p else m j
theorem isKey (k : Int) : WideAt.IsKeyLit (.int .i64 k) := by simp [WideAt.IsKeyLit]
theorem key_ne {k j : Int} (h : j ≠ k) : (Lit.int .i64 j) ≠ (Lit.int .i64 k) := by simpa using h
theorem Sees.none : Sees (.map []) (fun _ => none) := ⟨isMap_empty, fun _ => ⟨rfl, rfl⟩⟩
theorem Sees.put {D : DataW Unit} {m : Int → Option (Int × Int)} (h : Sees D m) (k : Int) (p : Int × Int) : Sees (D.put (.int .i64 k) (dat p)) (upd m k (some p)) := by
  refine ⟨h.1.put _ _, fun j => ?_⟩
  unfold upd
  by_cases hj : j = k
  · subst hj
    rw [has_put_same h.1 (isKey j), atKey_put_same h.1 (isKey j), if_pos rfl]
    exact ⟨rfl, rfl⟩
  · rw [has_put_other (key_ne hj), atKey_put_other (key_ne hj), if_neg hj]
    exact h.2 j
theorem Sees.del {D : DataW Unit} {m : Int → Option (Int × Int)} (h : Sees D m) (k : Int) : Sees (D.del (.int .i64 k)) (upd m k Option.none) := by
  refine ⟨h.1.del _, fun j => ?_⟩
  unfold upd
  by_cases hj : j = k
  · subst hj
    rw [has_del_same, atKey_del_same, if_pos rfl]
    exact ⟨rfl, rfl⟩
  · rw [has_del_other (key_ne hj), atKey_del_other (key_ne hj), if_neg hj]
    exact h.2 j
/-- Block g is a guard: its one cell leads to a map, of at most n entries, that reads as D. -/
def Gd (w : World) (g bm n : Nat) (D : DataW Unit) : Prop := ∃ T, w.heap[g]? = some (.cells #[.map (some bm)] T (0, 0)) ∧ bm ≠ g ∧ w.ownsMap Tryz.prog 3 rdP bm n D
theorem Gd.lt {w : World} {g bm n : Nat} {D : DataW Unit} (h : Gd w g bm n D) : g < w.heap.size := by
  obtain ⟨_, hb, _⟩ := h
  exact (Array.getElem?_eq_some_iff.1 hb).1
theorem grown_of_below {B : Nat} {w w' : World} (hb : Below B w w') (hB : w.heap.size ≤ B) (row : Option Nat) : w.grownBy w' row :=
  ⟨hb.os, hb.tape, hb.output, hb.size, fun k hk _ => hb.block k (by omega)⟩
theorem Gd.cell {w : World} {g bm n : Nat} {D : DataW Unit} (h : Gd w g bm n D) : w.cell? ⟨g, 0, none⟩ = some (.map (some bm)) := by
  obtain ⟨_, hb, _⟩ := h
  exact cell_of_one hb
theorem Gd.own {w : World} {g bm n : Nat} {D : DataW Unit} (h : Gd w g bm n D) : w.ownsMap Tryz.prog 3 rdP bm n D := by
  obtain ⟨_, _, _, hown⟩ := h
  exact hown
/-- It stays while other blocks are written and new ones are made. -/
theorem Gd.kept {w w' : World} {g bm n : Nat} {D : DataW Unit} (h : Gd w g bm n D) {row : Option Nat} (hg : w.grownBy w' row) (h1 : some g ≠ row) (h2 : some bm ≠ row) : Gd w' g bm n D := by
  have hlt := h.lt
  obtain ⟨T, hb, hne, hown⟩ := h
  exact ⟨T, (hg.block g hlt h1).trans hb, hne, hown.kept hg h2⟩
theorem Gd.below {w w' : World} {g bm n : Nat} {D : DataW Unit} (h : Gd w g bm n D) (hb : Below w.heap.size w w') : Gd w' g bm n D :=
  h.kept (grown_of_below hb (Nat.le_refl _) none) (by simp) (by simp)
/-- The look-up with ok, the element's shape written out. -/
theorem wpList_lookup_pair {P : Program} (w : World) {ops : Array Oper} {rest : List Oper} {o : Oper} {a : Act} {Q : Exit → Act → World → Prop}
    (hg : o.guard = none) (m x : Operand) (t : TypeId) (hop : o.op = Op.lookup t m x true)
    (k e : TypeId) (K : Keyed P k) (ht : P.underlying t = some (.map k e)) (hz : (zeroValue e).run P w = .ok (.agg #[.int .i64 0, .int .i64 0]) w) (b n : Nat) (D : DataW Unit)
    (hm : a.eval m = .map (some b)) (hown : w.ownsMap P k rdP b n D) (key : Value) (kl : Lit) (hx : a.eval x = key) (hkey : keyOf P k key = some kl)
    (hK : ∀ c d : Int, D.atKey kl (dat (0, 0)) = dat (c, d) → wpList P ops Q rest (a.put o.dst (.tuple #[.agg #[.int .i64 c, .int .i64 d], .bool (Maps.has D kl)])) w) :
    wpList P ops Q (o :: rest) a w :=
  wpList_lookup_own_ok w hg m x t hop k e K ht rdP hz (dat (0, 0)) [] (rdP_mk 0 0) b n D hm hown key kl hx hkey (fun v ps hv => by
    obtain ⟨c, d, rfl, hc⟩ := rdP_inv hv
    exact hK c d (congrArg Prod.fst hc))
set_option maxHeartbeats 400000 in
theorem of_any {g bm n : Nat} {D : DataW Unit} {m : Int → Option (Int × Int)} {w : World} (hG : Gd w g bm n D) (hs : Sees D m) (k : Int) (hk : (Lit.int .i64 k).wf = true) :
    Calls Tryz.prog 102 #[.pointer (some ⟨g, 0, none⟩), .int .i64 k] w fun e w' => e = .returned (.tuple #[.agg #[.int .i64 ((m k).getD (0, 0)).1, .int .i64 ((m k).getD (0, 0)).2], .bool (m k).isSome]) ∧ Below w.heap.size w w' := by
  obtain ⟨T, hb, hne, hown⟩ := hG
  have hglt : g < w.heap.size := (Array.getElem?_eq_some_iff.1 hb).1
  have hc := cell_of_one hb
  have hkey := keyOf_int_mk Tryz.underlying3 hk
  have hh := Lib.hid (hs.2 k)
  clear hb
  go_enter Tryz.func102, Tryz.ntmps102
  go_wp2_with (at_lookup; refine wpList_lookup_pair _ rfl _ _ 131 rfl 3 210 law3 Tryz.underlying131 (zero49 _) bm n D rfl (hown.alloc _) _ _ rfl hkey ?_; intro c d hat)
  obtain ⟨h1, h2⟩ := hh.out
  have hcd : (c, d) = (m k).getD (0, 0) := dat_inj (hat.symm.trans h2)
  refine bodyPost_ret (v := .tuple #[.agg #[.int .i64 c, .int .i64 d], .bool (has D (.int .i64 k))]) (by simp [results, Tryz.results102, go_sem]) rfl ⟨?_, ?_⟩
  · rw [h1, ← hcd]
  · exact ((Below.refl _ _).alloc (Nat.le_refl _) _).alloc (by simp) _
theorem next_any {g bm n : Nat} {D : DataW Unit} {m : Int → Option (Int × Int)} {w : World} (hG : Gd w g bm n D) (hs : Sees D m) (k : Int) (hk : (Lit.int .i64 k).wf = true) :
    Calls Tryz.prog 64 #[.pointer (some ⟨g, 0, none⟩), .int .i64 k] w fun e w' => e = .returned (.int .i64 ((m k).getD (0, 0)).2) ∧ Below w.heap.size w w' := by
  go_enter Tryz.func64, Tryz.ntmps64
  go_wp2_with (go_at_call 102; refine (of_any hG hs k hk).mono ?_; rintro e w1 ⟨rfl, hb⟩)
  go_ret
  exact ⟨rfl, hb.alloc hb.size _⟩
theorem new_any (w : World) : Calls Tryz.prog 20 #[] w fun e w' => e = .returned (.pointer (some ⟨w.heap.size + 1, 0, none⟩)) ∧ Gd w' (w.heap.size + 1) w.heap.size 0 (.map []) ∧ Below w.heap.size w w' := by
  have hmm := @run_makeMap Tryz.prog
  go_enter Tryz.func20, Tryz.ntmps20
  go_wp2
  go_ret
  exact ⟨rfl, ⟨_, heap_alloc2_new _ _ _, by omega, (World.ownsMap_made _ _ _ _).alloc _⟩, ((Below.refl _ _).alloc (Nat.le_refl _) _).alloc (by simp) _⟩
/-- What a release may be asked with. -/
def may (p now : Int) : Prop := 1 ≤ p ∧ p ≤ 2147483648 ∧ 0 ≤ now ∧ now ≤ 1099511627776
set_option maxRecDepth 100000 in
set_option maxHeartbeats 400000 in
theorem rel_ok {g bm n : Nat} {D : DataW Unit} {m : Int → Option (Int × Int)} {w : World} (hG : Gd w g bm n D) (hs : Sees D m) (hn : n < 1000000) (k p now : Int) (hk : (Lit.int .i64 k).wf = true) (hm : may p now) (hge : ¬ now < ((m k).getD (0, 0)).2) :
    Calls Tryz.prog 57 #[.pointer (some ⟨g, 0, none⟩), .int .i64 k, .int .i64 p, .int .i64 now] w fun e w' => e = .returned (.int .i64 0) ∧ Gd w' g bm (n + 1) (D.put (.int .i64 k) (dat (now, now + p))) ∧ w.grownBy w' (some bm) := by
  obtain ⟨h1, h2, h3, h4⟩ := hm
  have hglt := hG.lt
  have hG0 := hG
  have hne : ∀ (w : World) (r : Option Nat), (binOp .eql 131 (.map r) (.map none)).run Tryz.prog w = .ok (.bool r.isNone) w := fun w r => run_eql_map_nil w 131 3 210 r Tryz.underlying131
  have hkey := keyOf_int_mk Tryz.underlying3 hk
  go_enter Tryz.func57, Tryz.ntmps57
  go_wp2_with (first
    | (go_at_call 64; refine (next_any hG hs k hk).mono ?_; rintro e w1 ⟨rfl, hb⟩; have hc1 := (hG.below hb).cell; have hown1 := (hG.below hb).own)
    | (at_mapUpdate; refine wpList_mapUpdate_own _ rfl _ _ _ 131 rfl 3 210 law3 Tryz.underlying131 rdP bm n D rfl hown1 (by unfold maxLen; omega) _ _ _ rfl rfl hkey _ [] (rdP_mk _ _) ?_; intro w2 hown2 hgrow2))
  go_ret
  have hG1 := hG.below hb
  refine ⟨rfl, ?_, (grown_of_below hb (Nat.le_refl _) _).trans hgrow2⟩
  obtain ⟨T, hbb, hnn, _⟩ := hG1
  exact ⟨T, (hgrow2.block g (by have := hb.size; omega) (fun e => hnn (Option.some.inj e).symm)).trans hbb, hnn, hown2⟩
end Go.Proofs.YtoichcickcgbgaaGreatDoor.Grd
namespace Go.Proofs.YtoichcickcgbgaaGreatDoor.Grd
open Go.RowKit Go.Maps
/-- Block g is a guard that knows m. -/
def Gv (w : World) (g bm n : Nat) (m : Int → Option (Int × Int)) : Prop := ∃ D, Gd w g bm n D ∧ Sees D m
theorem Gv.lt {w : World} {g bm n : Nat} {m : Int → Option (Int × Int)} (h : Gv w g bm n m) : g < w.heap.size := by obtain ⟨_, h, _⟩ := h; exact h.lt
theorem Gv.kept {w w' : World} {g bm n : Nat} {m : Int → Option (Int × Int)} (h : Gv w g bm n m) {row : Option Nat} (hg : w.grownBy w' row) (h1 : some g ≠ row) (h2 : some bm ≠ row) : Gv w' g bm n m := by
  obtain ⟨D, h, hs⟩ := h
  exact ⟨D, h.kept hg h1 h2, hs⟩
theorem Gv.below {w w' : World} {g bm n : Nat} {m : Int → Option (Int × Int)} (h : Gv w g bm n m) (hb : Below w.heap.size w w') : Gv w' g bm n m := by
  obtain ⟨D, h, hs⟩ := h
  exact ⟨D, h.below hb, hs⟩
/-- What is known: the last release, and from when on the next may be. -/
def nx (m : Int → Option (Int × Int)) (k : Int) : Int := ((m k).getD (0, 0)).2
def ls (m : Int → Option (Int × Int)) (k : Int) : Int := ((m k).getD (0, 0)).1
theorem newV (w : World) : Calls Tryz.prog 20 #[] w fun e w' => e = .returned (.pointer (some ⟨w.heap.size + 1, 0, none⟩)) ∧ Gv w' (w.heap.size + 1) w.heap.size 0 (fun _ => none) ∧ Below w.heap.size w w' :=
  (new_any w).mono fun _ _ ⟨he, hG, hb⟩ => ⟨he, ⟨_, hG, Sees.none⟩, hb⟩
theorem nextV {g bm n : Nat} {m : Int → Option (Int × Int)} {w : World} (hG : Gv w g bm n m) (k : Int) (hk : (Lit.int .i64 k).wf = true) (r : Int) (hr : nx m k = r) :
    Calls Tryz.prog 64 #[.pointer (some ⟨g, 0, none⟩), .int .i64 k] w fun e w' => e = .returned (.int .i64 r) ∧ Below w.heap.size w w' := by
  subst hr
  obtain ⟨D, hG, hs⟩ := hG
  exact next_any hG hs k hk
theorem relO {g bm n : Nat} {m : Int → Option (Int × Int)} {w : World} (hG : Gv w g bm n m) (hn : n < 1000000) (k p now : Int) (hk : (Lit.int .i64 k).wf = true) (hm : may p now) (hge : ¬ now < nx m k) :
    Calls Tryz.prog 57 #[.pointer (some ⟨g, 0, none⟩), .int .i64 k, .int .i64 p, .int .i64 now] w fun e w' => e = .returned (.int .i64 0) ∧ Gv w' g bm (n + 1) (upd m k (some (now, now + p))) ∧ w.grownBy w' (some bm) := by
  obtain ⟨D, hG, hs⟩ := hG
  exact (rel_ok hG hs hn k p now hk hm hge).mono fun _ _ ⟨he, hG, hg⟩ => ⟨he, ⟨_, hG, hs.put _ _⟩, hg⟩
end Go.Proofs.YtoichcickcgbgaaGreatDoor.Grd
