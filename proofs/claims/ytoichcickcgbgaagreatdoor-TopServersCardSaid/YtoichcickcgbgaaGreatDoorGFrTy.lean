/-
  Frames: which blocks of memory may have turned; a block known whole as a list of cells.
  ! ### Inside a drawn region: what was below stands
  Tasks, rows and jobs as they lie in memory; a task that may be.
-/
import Derived.Test.YtoichcickcgbgaaGreatDoorRows
import Derived.WalkKit
import Derived.WalkSpells
import Derived.WalkLawsBesides
import Derived.Lib.Hide
import Derived.Maps.AppendAt
import Derived.RangeFuncRecord
import Derived.Deep.MidRow
import Derived.Deep.RegionHeld3
namespace Go.Proofs.YtoichcickcgbgaaGreatDoor
open Go.RowKit
/-- Only blocks of S, and new ones, may have turned. -/
structure Turn (S : Nat → Prop) (w w' : World) : Prop where
  os : w'.os = w.os
  tape : w'.tape = w.tape
  output : w'.output = w.output
  size : w.heap.size ≤ w'.heap.size
  block : ∀ k, k < w.heap.size → ¬ S k → w'.heap[k]? = w.heap[k]?
theorem Turn.refl (S : Nat → Prop) (w : World) : Turn S w w := ⟨rfl, rfl, rfl, Nat.le_refl _, fun _ _ _ => rfl⟩
theorem Turn.trans {S : Nat → Prop} {a b c : World} (h : Turn S a b) (k : Turn S b c) : Turn S a c :=
  ⟨k.os.trans h.os, k.tape.trans h.tape, k.output.trans h.output, Nat.le_trans h.size k.size, fun i hi hs => (k.block i (Nat.lt_of_lt_of_le hi h.size) hs).trans (h.block i hi hs)⟩
/-- A wider set; what is new counts as nothing. -/
theorem Turn.wide {S S' : Nat → Prop} {a b : World} (h : Turn S a b) (hS : ∀ k, k < a.heap.size → S k → S' k) : Turn S' a b :=
  ⟨h.os, h.tape, h.output, h.size, fun k hk hs => h.block k hk (fun e => hs (hS k hk e))⟩
/-- Behind another turn: of what was there at the beginning. -/
theorem Turn.then {S S' : Nat → Prop} {a b c : World} (h : Turn S a b) (k : Turn S' b c) (hS : ∀ i, i < a.heap.size → S' i → S i) : Turn S a c :=
  ⟨k.os.trans h.os, k.tape.trans h.tape, k.output.trans h.output, Nat.le_trans h.size k.size, fun i hi hs => (k.block i (Nat.lt_of_lt_of_le hi h.size) (fun e => hs (hS i hi e))).trans (h.block i hi hs)⟩
theorem Turn.grown {S : Nat → Prop} {a b : World} {r : Option Nat} (hg : a.grownBy b r) (hj : ∀ j, r = some j → j < a.heap.size → S j) : Turn S a b :=
  ⟨hg.os, hg.tape, hg.output, hg.size, fun k hk hs => hg.block k hk (fun e => hs (hj k e.symm hk))⟩
theorem Turn.below {S : Nat → Prop} {w w' : World} (hb : Below w.heap.size w w') : Turn S w w' :=
  ⟨hb.os, hb.tape, hb.output, hb.size, fun k hk _ => hb.block k hk⟩
theorem Turn.to {S : Nat → Prop} {B : Nat} {a w w' : World} (h : Below B a w) (ht : Turn S w w') (hB : B ≤ w.heap.size) (hS : ∀ k, S k → B ≤ k) : Below B a w' :=
  h.trans ⟨ht.os, ht.tape, ht.output, ht.size, fun k hk => ht.block k (by omega) (fun hs => by have := hS k hs; omega)⟩
theorem Turn.fresh {S : Nat → Prop} {w w' : World} (h : Turn S w w') (hS : ∀ k, k < w.heap.size → ¬ S k) : Below w.heap.size w w' :=
  ⟨h.os, h.tape, h.output, h.size, fun k hk => h.block k hk (hS k hk)⟩
theorem Turn.set {S : Nat → Prop} (w : World) (b j : Nat) (v : Value) (hb : S b) : Turn S w (w.setCell ⟨b, j, none⟩ v) :=
  ⟨rfl, rfl, rfl, by simp [World.setCell], fun k _ hs => heap_setCell_other _ _ _ _ (fun e => hs (by subst e; exact hb))⟩
theorem Turn.drew {S : Nat → Prop} {w w' : World} (h : Turn S w w') : Turn S w w'.drew := ⟨h.os, h.tape, h.output, h.size, h.block⟩
theorem Turn.drewN {S : Nat → Prop} {w w' : World} (h : Turn S w w') (n : Nat) : Turn S w (w'.drewN n) := ⟨h.os, h.tape, h.output, h.size, h.block⟩
theorem Turn.alloc {S : Nat → Prop} {w w' : World} (h : Turn S w w') (o : Obj) : Turn S w (w'.alloc o) :=
  h.trans (Turn.below ((Below.refl _ _).alloc (Nat.le_refl _) _))
theorem Turn.put {S : Nat → Prop} (w : World) (l : Nat) (o : Obj) (hl : S l) : Turn S w (w.putObj l o) :=
  ⟨rfl, rfl, rfl, by simp, fun k _ hs => World.putObj_heap_other (fun e => hs (by subst e; exact hl))⟩
/-- Block b holds just the cells l. -/
def Bx (w : World) (b : Nat) (T : TypeId) (l : List Value) : Prop := w.heap[b]? = some (.cells l.toArray T (0, 0))
theorem Bx.lt {w : World} {b : Nat} {T : TypeId} {l : List Value} (h : Bx w b T l) : b < w.heap.size := (Array.getElem?_eq_some_iff.1 h).1
theorem Bx.cell {w : World} {b : Nat} {T : TypeId} {l : List Value} (h : Bx w b T l) (j : Nat) {v : Value} (hj : l[j]? = some v) : w.cell? ⟨b, j, none⟩ = some v := by
  unfold Bx at h
  simp [World.cell?, h, hj]
theorem Bx.free {w : World} {b : Nat} {T : TypeId} {l : List Value} (h : Bx w b T l) (j : Nat) : w.frozen? ⟨b, j, none⟩ = false := by
  unfold Bx at h
  simp [World.frozen?, h]
theorem Bx.set {w : World} {b : Nat} {T : TypeId} {l : List Value} (h : Bx w b T l) (j : Nat) (v : Value) (l' : List Value) (hl : l.set j v = l') : Bx (w.setCell ⟨b, j, none⟩ v) b T l' := by
  subst hl
  unfold Bx at h ⊢
  rw [heap_setCell_same w b j _ T _ h]
  simp
theorem Bx.keep {w w' : World} {b : Nat} {T : TypeId} {l : List Value} (h : Bx w b T l) (e : w'.heap[b]? = w.heap[b]?) : Bx w' b T l := e.trans h
theorem Bx.turn {S : Nat → Prop} {w w' : World} {b : Nat} {T : TypeId} {l : List Value} (h : Bx w b T l) (t : Turn S w w') (hb : ¬ S b) : Bx w' b T l := h.keep (t.block b h.lt hb)
theorem Bx.below {w w' : World} {b : Nat} {T : TypeId} {l : List Value} (h : Bx w b T l) (t : Below w.heap.size w w') : Bx w' b T l := h.keep (t.block b h.lt)
theorem Bx.new (w : World) (l : List Value) (T : TypeId) : Bx (w.alloc (.cells l.toArray T)) w.heap.size T l := heap_alloc_new _ _
theorem Bx.range {w : World} {b : Nat} {T : TypeId} {l : List Value} (h : Bx w b T l) : w.rangeAt b 0 l := by
  intro j v hj
  rw [Nat.zero_add]
  exact h.cell j hj
theorem Bx.ne {w : World} {b b' : Nat} {T T' : TypeId} {l l' : List Value} (h : Bx w b T l) (h' : Bx w b' T' l') (hT : T ≠ T') : b ≠ b' := by
  intro e
  subst e
  unfold Bx at h h'
  rw [h] at h'
  simp at h'
  exact hT h'.2
theorem bl0 (w : World) : Hid (Below w.heap.size w w) := Below.refl _ _
theorem bl_drew {w x : World} (h : Hid (Below w.heap.size w x)) : Hid (Below w.heap.size w x.drew) := h.out.drew
theorem bl_alloc {w x : World} (o : Obj) (h : Hid (Below w.heap.size w x)) : Hid (Below w.heap.size w (x.alloc o)) := h.out.alloc h.out.size o
theorem bl_allocd {w x : World} (o : Obj) (h : Hid (Below w.heap.size w x)) : Hid (Below w.heap.size w (x.alloc o).drew) := (h.out.alloc h.out.size o).drew
theorem bl_below {w x y : World} (h : Hid (Below w.heap.size w x)) (hb : Below x.heap.size x y) : Hid (Below w.heap.size w y) := h.out.trans (hb.mono h.out.size)
theorem bl_grown {w x y : World} {b : Nat} (h : Hid (Below w.heap.size w x)) (hg : x.grownBy y (some b)) (hb : w.heap.size ≤ b) : Hid (Below w.heap.size w y) := h.out.grown hg h.out.size (fun k hk => by cases hk; exact hb)
theorem skeep {w : World} {C : World → Prop} (K : Hid (∀ x, Hid (Below w.heap.size w x) → C x)) {x : World} (h : Hid (Below w.heap.size w x)) : C x ∧ Hid (Below w.heap.size w x) := ⟨K.out x h, h⟩
theorem Bx.bl {w x : World} {b : Nat} {T : TypeId} {l : List Value} (h : Bx w b T l) (hb : Hid (Below w.heap.size w x)) : Bx x b T l := h.below hb.out
theorem Bx.more {w : World} {b : Nat} {T : TypeId} {l : List Value} (h : Bx w b T l) (o : Obj) : Bx (w.alloc o) b T l := h.below ((Below.refl _ _).alloc (Nat.le_refl _) _)
section
variable {P : Program} {ops : Array Oper} {Q : Exit → Act → World → Prop} {md : Region.Mode} {S : World → Prop} {fuel : Nat} {listed : Array Bool} {a : Act} {w : World}
/-- Operation i, of slot d, yields v and is taken first. -/
theorem wtk (i d : Nat) {f1 f2 f3 f4 f5} (v : Value) (hi : ops[i]? = some ⟨some d, f1, f2, f3, f4, f5⟩)
    (hr : (Region.noSelect ops && Region.free md ops listed i && (Region.ready md ops listed).contains i) = true)
    (hQ : ∀ c a w, Q (.panic c) (a.put (some d) v) w → Q (.panic c) a w)
    (hw : Region.wanted ⟨some d, f1, f2, f3, f4, f5⟩ (yielded ops a.tmps) = true)
    (hy : ∀ x, S x → (execOp a.eval ⟨some d, f1, f2, f3, f4, f5⟩).run P x = .ok (.value v) x) (hS : S w)
    (h : wpAnyH P md ops Q S fuel (listed.setIfInBounds i true) (a.put (some d) v) w) : wpAnyH P md ops Q S (fuel + 1) listed a w := by
  simp only [Bool.and_eq_true] at hr
  exact wpAnyH_take (oi := ⟨some d, f1, f2, f3, f4, f5⟩) hi hr.1.1 hr.1.2 hr.2 hQ (Or.inl ⟨hw, hy⟩) hS h
/-- Operation i, of slot d, is passed over. -/
theorem wtu (i d : Nat) {f1 f2 f3 f4 f5} (hi : ops[i]? = some ⟨some d, f1, f2, f3, f4, f5⟩)
    (hr : (Region.noSelect ops && Region.free md ops listed i && (Region.ready md ops listed).contains i) = true)
    (hQ : ∀ c a w, Q (.panic c) (a.put (some d) undef) w → Q (.panic c) a w)
    (hw : Region.wanted ⟨some d, f1, f2, f3, f4, f5⟩ (yielded ops a.tmps) = false) (hS : S w)
    (h : wpAnyH P md ops Q S fuel (listed.setIfInBounds i true) (a.put (some d) undef) w) : wpAnyH P md ops Q S (fuel + 1) listed a w := by
  simp only [Bool.and_eq_true] at hr
  exact wpAnyH_take (oi := ⟨some d, f1, f2, f3, f4, f5⟩) hi hr.1.1 hr.1.2 hr.2 hQ (Or.inr ⟨hw, rfl⟩) hS h
end
/-- How a list takes a value at a known place. -/
theorem pw : (∀ {α : Type} (l : List α) (i : Nat) (x : α), l.toArray.setIfInBounds i x = (l.set i x).toArray) ∧
    (∀ {α : Type} (y : α) (l : List α) (x : α), (y :: l).set 0 x = x :: l) ∧ (∀ {α : Type} (y : α) (l : List α) (n : Nat) (x : α), (y :: l).set (n + 1) x = y :: l.set n x) :=
  ⟨fun _ _ _ => List.setIfInBounds_toArray .., fun _ _ _ => rfl, fun _ _ _ _ => rfl⟩
end Go.Proofs.YtoichcickcgbgaaGreatDoor
namespace Go.Proofs.YtoichcickcgbgaaGreatDoor
open Go.RowKit
attribute [local go_sem] Oper.semAt_some
structure Tk where
  id : Int
  c : Int
  d : Int
  t : Int
  m : Int
deriving Inhabited, DecidableEq
structure Rk where
  k : Tk
  s : Bool
deriving Inhabited, DecidableEq
def tc (x : Tk) : List Value := [.int .i64 x.id, .int .i64 x.c, .int .i64 x.d, .int .i64 x.t, .int .i64 x.m]
def rc (x : Rk) : List Value := [.int .i64 x.k.id, .int .i64 x.k.c, .int .i64 x.k.d, .int .i64 x.k.t, .int .i64 x.k.m, .bool x.s]
def tv (x : Tk) : Value := .agg #[.int .i64 x.id, .int .i64 x.c, .int .i64 x.d, .int .i64 x.t, .int .i64 x.m]
def rv (x : Rk) : Value := .agg #[.int .i64 x.k.id, .int .i64 x.k.c, .int .i64 x.k.d, .int .i64 x.k.t, .int .i64 x.k.m, .bool x.s]
/-- A slice's value v stands for xs; the cells lie in one block. -/
def Sx {α : Type} (f : α → List Value) (w : World) (v : Value) (xs : List α) : Prop :=
  ∃ oa cap, v = .slice oa xs.length cap ∧ (oa = none ∨ ∃ g, oa = some ⟨g, 0, none⟩) ∧ (xs ≠ [] → ∃ g, oa = some ⟨g, 0, none⟩ ∧ g < w.heap.size ∧ xs.length ≤ cap ∧ w.rangeAt g 0 (xs.flatMap f))
section
variable {α : Type} {f : α → List Value} {w w' : World} {v : Value} {xs : List α}
theorem rangeAt_block {w w' : World} {g : Nat} {o : Nat} {l : List Value} (h : w.rangeAt g o l) (e : w'.heap[g]? = w.heap[g]?) : w'.rangeAt g o l := fun j v hj => (World.cell?_of_block e).trans (h j v hj)
theorem Sx.keep (h : Sx f w v xs) (hs : w.heap.size ≤ w'.heap.size) (e : ∀ g, v.ownBlock = some g → g < w.heap.size → w'.heap[g]? = w.heap[g]?) : Sx f w' v xs := by
  obtain ⟨oa, cap, rfl, ha, h⟩ := h
  refine ⟨oa, cap, rfl, ha, fun hx => ?_⟩
  obtain ⟨g, rfl, hg, hc, hr⟩ := h hx
  exact ⟨g, rfl, Nat.lt_of_lt_of_le hg hs, hc, rangeAt_block hr (e g rfl hg)⟩
theorem Sx.below (h : Sx f w v xs) (hb : Below w.heap.size w w') : Sx f w' v xs := h.keep hb.size fun g _ hg => hb.block g hg
theorem Sx.turn {S : Nat → Prop} (h : Sx f w v xs) (t : Turn S w w') (hS : ∀ g, v.ownBlock = some g → g < w.heap.size → ¬ S g) : Sx f w' v xs := h.keep t.size fun g hv hg => t.block g hg (hS g hv hg)
theorem Sx.bl {x : World} (h : Sx f w v xs) (hb : Hid (Below w.heap.size w x)) : Sx f x v xs := h.below hb.out
theorem Sx.nil : Sx f w (.slice none 0 0) [] := ⟨none, 0, rfl, .inl rfl, fun h => absurd rfl h⟩
theorem Sx.of_own {B : Nat} {e : TypeId} {size : Nat} {n : Nat} (h : w.ownsRow B e size v n (xs.flatMap f)) (hn : xs.length = n) : Sx f w v xs := by
  subst hn
  rcases h.2 with ⟨rfl, h0⟩ | ⟨g, cap, cur, rfl, _, hb, hc, _, hsz, hcur⟩
  · exact ⟨none, 0, by rw [h0], .inl rfl, fun hx => absurd (List.eq_nil_of_length_eq_zero h0) hx⟩
  · refine ⟨_, cap, rfl, .inr ⟨g, rfl⟩, fun _ => ⟨g, rfl, (Array.getElem?_eq_some_iff.1 hb).1, hc, fun j u hj => ?_⟩⟩
    rw [← hcur] at hj
    have h2 : cur.toList[j]? = some u := by
      rw [List.getElem?_take] at hj
      split at hj
      · exact hj
      · cases hj
    rw [Array.getElem?_toList] at h2
    simp [World.cell?, hb, h2]
end
/-- A task that may be. -/
def Tk.ok (x : Tk) : Prop := 0 ≤ x.id ∧ x.id ≤ 1023 ∧ 0 < x.c ∧ x.c ≤ x.d ∧ x.d ≤ x.t ∧ x.t ≤ 2147483648 ∧ 0 < x.m ∧ x.m ≤ 15
set_option maxRecDepth 100000 in
theorem chk_any {x : Tk} (h : x.ok) (w : World) :
    Calls Tryz.prog 66 #[tv x] w fun e w' => e = .returned (.bool true) ∧ Below w.heap.size w w' := by
  obtain ⟨id, c, d, t, m⟩ := x
  obtain ⟨h1, h2, h3, h4, h5, h6, h7, h8⟩ := h
  dsimp only at h1 h2 h3 h4 h5 h6 h7 h8
  have g1 : decide (id ≥ 0) = true := by simp; omega
  have g2 : decide (id ≤ 1023) = true := by simp; omega
  have g3 : decide (0 < c) = true := by simp; omega
  have g4 : decide (c ≤ d) = true := by simp; omega
  have g5 : decide (d ≤ t) = true := by simp; omega
  have g6 : decide (t ≤ 2147483648) = true := by simp; omega
  have g7 : decide (0 < m) = true := by simp; omega
  have g8 : decide (m ≤ 15) = true := by simp; omega
  have hx : tv ⟨id, c, d, t, m⟩ = .agg #[.int .i64 id, .int .i64 c, .int .i64 d, .int .i64 t, .int .i64 m] := rfl
  rw [hx]
  clear hx
  go_enter Tryz.func66, Tryz.ntmps66
  go_wp2_with fail
  go_ret
  exact ⟨rfl, (Below.refl _ _).alloc (Nat.le_refl _) _⟩
end Go.Proofs.YtoichcickcgbgaaGreatDoor
