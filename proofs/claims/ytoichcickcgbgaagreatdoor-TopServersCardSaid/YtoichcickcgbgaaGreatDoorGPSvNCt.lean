/-
  The pool's state in memory: a struct of two maps; what waits, and what was taken, as functions of the number. A contract for each method.
  The pool, said of what waits and of what was taken as functions of the number; the chapter's example.
  The counts' own state in memory, and a contract for each of its methods: what a call hands back, and what the eight counts are behind it.
-/
import Derived.Test.YtoichcickcgbgaaGreatDoorRows
import Derived.WalkKit
import Derived.WalkSpells
import Derived.WalkLawsBesides
import Derived.Lib.Hide
import Derived.Maps.OwnSet
import Derived.Maps.AppendAt
import Derived.Laws.LoneSync
namespace Go.Proofs.YtoichcickcgbgaaGreatDoor.Pool
open Go.RowKit Go.Maps
/-- Only blocks of S, and new ones, may have turned. -/
structure Turn (S : Nat → Prop) (w w' : World) : Prop where
  os : w'.os = w.os
  tape : w'.tape = w.tape
  output : w'.output = w.output
  size : w.heap.size ≤ w'.heap.size
  block : ∀ k, k < w.heap.size → ¬ S k → w'.heap[k]? = w.heap[k]?
theorem Turn.refl (S : Nat → Prop) (w : World) : Turn S w w := ⟨rfl, rfl, rfl, Nat.le_refl _, fun _ _ _ => rfl⟩
theorem Turn.trans {S : Nat → Prop} {a b c : World} (h : Turn S a b) (k : Turn S b c) : Turn S a c :=
  ⟨k.os.trans h.os, k.tape.trans h.tape, k.output.trans h.output, Nat.le_trans h.size k.size, fun i hi hs => (k.block i (Nat.lt_of_lt_of_le hi h.size) hs).trans (h.block i hi hs)⟩
theorem Turn.grown {S : Nat → Prop} {a b : World} {j : Nat} (hg : a.grownBy b (some j)) (hj : S j) : Turn S a b :=
  ⟨hg.os, hg.tape, hg.output, hg.size, fun k hk hs => hg.block k hk (fun e => hs (by rw [Option.some.inj e]; exact hj))⟩
theorem Turn.below {S : Nat → Prop} {w w' : World} (hb : Below w.heap.size w w') : Turn S w w' :=
  ⟨hb.os, hb.tape, hb.output, hb.size, fun k hk _ => hb.block k hk⟩
theorem Turn.to {S : Nat → Prop} {B : Nat} {a w w' : World} (h : Below B a w) (ht : Turn S w w') (hB : B ≤ w.heap.size) (hS : ∀ k, S k → B ≤ k) : Below B a w' :=
  h.trans ⟨ht.os, ht.tape, ht.output, ht.size, fun k hk => ht.block k (by omega) (fun hs => by have := hS k hs; omega)⟩
theorem law3 : Keyed Tryz.prog 3 := int_keyed Tryz.underlying3
theorem zero2 (w : World) : (zeroValue 2).run Tryz.prog w = .ok (.int .i64 0) w := by kernel_rfl
def num (n : Int) : DataW Unit := .lit (.int .i64 n)
/-- The map of the data is the function f. -/
def Sees (D : DataW Unit) (f : Int → Int) : Prop := IsMap D ∧ ∀ k : Int, D.atKey (.int .i64 k) (num 0) = num (f k)
/-- What is there is not nothing. -/
def Full (D : DataW Unit) (f : Int → Int) : Prop := ∀ k : Int, has D (.int .i64 k) = (f k != 0)
def upd (f : Int → Int) (k v : Int) : Int → Int := fun j => if j = k then v else f j
theorem upd_same (f : Int → Int) (k v : Int) : upd f k v k = v := if_pos rfl
theorem upd_other (f : Int → Int) {k j : Int} (v : Int) (h : j ≠ k) : upd f k v j = f j := if_neg h
theorem isKey (k : Int) : WideAt.IsKeyLit (.int .i64 k) := by simp [WideAt.IsKeyLit]
theorem key_ne {k j : Int} (h : j ≠ k) : (Lit.int .i64 j) ≠ (Lit.int .i64 k) := by simpa using h
theorem Sees.none : Sees (.map []) (fun _ => 0) := ⟨isMap_empty, fun _ => rfl⟩
theorem Full.none : Full (.map []) (fun _ => 0) := fun _ => rfl
theorem Sees.put {D : DataW Unit} {f : Int → Int} (h : Sees D f) (k v : Int) : Sees (D.put (.int .i64 k) (num v)) (upd f k v) := by
  refine ⟨h.1.put _ _, fun j => ?_⟩
  by_cases hj : j = k
  · subst hj
    rw [atKey_put_same h.1 (isKey j), upd_same]
  · rw [atKey_put_other (key_ne hj), upd_other f v hj]
    exact h.2 j
theorem Full.put {D : DataW Unit} {f : Int → Int} (hs : Sees D f) (h : Full D f) (k v : Int) (hv : v ≠ 0) : Full (D.put (.int .i64 k) (num v)) (upd f k v) := by
  intro j
  by_cases hj : j = k
  · subst hj
    rw [has_put_same hs.1 (isKey j), upd_same]
    simp [hv]
  · rw [has_put_other (key_ne hj), upd_other f v hj]
    exact h j
theorem Sees.del {D : DataW Unit} {f : Int → Int} (h : Sees D f) (k : Int) : Sees (D.del (.int .i64 k)) (upd f k 0) := by
  refine ⟨h.1.del _, fun j => ?_⟩
  by_cases hj : j = k
  · subst hj
    rw [atKey_del_same, upd_same]
  · rw [atKey_del_other (key_ne hj), upd_other f 0 hj]
    exact h.2 j
theorem Full.del {D : DataW Unit} {f : Int → Int} (h : Full D f) (k : Int) : Full (D.del (.int .i64 k)) (upd f k 0) := by
  intro j
  by_cases hj : j = k
  · subst hj
    rw [has_del_same, upd_same]
    simp
  · rw [has_del_other (key_ne hj), upd_other f 0 hj]
    exact h j
/-- A put behind a put at one key, and a put of nothing ahead of a delete. -/
theorem upd_upd (f : Int → Int) (k v u : Int) : upd (upd f k v) k u = upd f k u := by
  funext j
  by_cases hj : j = k
  · subst hj; rw [upd_same, upd_same]
  · rw [upd_other _ _ hj, upd_other _ _ hj, upd_other _ _ hj]
/-- Deleting is as if the element ahead of it had not been put. -/
theorem Full.del_put {D : DataW Unit} {f : Int → Int} (h : Full D f) (k v : Int) : Full ((D.put (.int .i64 k) (num v)).del (.int .i64 k)) (upd f k 0) := by
  intro j
  by_cases hj : j = k
  · subst hj
    rw [has_del_same, upd_same]
    simp
  · rw [has_del_other (key_ne hj), has_put_other (key_ne hj), upd_other f 0 hj]
    exact h j
/-- Block p is a pool: its cells lead to two maps. -/
def Sv (w : World) (p bw bt n : Nat) (D E : DataW Unit) : Prop :=
  ∃ T, w.heap[p]? = some (.cells #[.map (some bw), .map (some bt)] T (0, 0)) ∧ bw ≠ p ∧ bt ≠ p ∧ bw ≠ bt ∧ w.ownsMap Tryz.prog 3 (plainElem Tryz.prog 2) bw n D ∧ w.ownsMap Tryz.prog 3 (plainElem Tryz.prog 2) bt n E
theorem Sv.lt {w : World} {p bw bt n : Nat} {D E : DataW Unit} (h : Sv w p bw bt n D E) : p < w.heap.size := by
  obtain ⟨_, hb, _⟩ := h
  exact (Array.getElem?_eq_some_iff.1 hb).1
theorem Sv.c0 {w : World} {p bw bt n : Nat} {D E : DataW Unit} (h : Sv w p bw bt n D E) : w.cell? ⟨p, 0, none⟩ = some (.map (some bw)) := by
  obtain ⟨_, hb, _⟩ := h
  simp [World.cell?, hb]
theorem Sv.c1 {w : World} {p bw bt n : Nat} {D E : DataW Unit} (h : Sv w p bw bt n D E) : w.cell? ⟨p, 1, none⟩ = some (.map (some bt)) := by
  obtain ⟨_, hb, _⟩ := h
  simp [World.cell?, hb]
theorem Sv.ow {w : World} {p bw bt n : Nat} {D E : DataW Unit} (h : Sv w p bw bt n D E) : w.ownsMap Tryz.prog 3 (plainElem Tryz.prog 2) bw n D := by
  obtain ⟨_, _, _, _, _, h, _⟩ := h; exact h
theorem Sv.ot {w : World} {p bw bt n : Nat} {D E : DataW Unit} (h : Sv w p bw bt n D E) : w.ownsMap Tryz.prog 3 (plainElem Tryz.prog 2) bt n E := by
  obtain ⟨_, _, _, _, _, _, h⟩ := h; exact h
theorem Sv.mono {w : World} {p bw bt n n' : Nat} {D E : DataW Unit} (h : Sv w p bw bt n D E) (hn : n ≤ n') : Sv w p bw bt n' D E := by
  obtain ⟨T, h1, h2, h3, h4, h5, h6⟩ := h
  exact ⟨T, h1, h2, h3, h4, h5.mono hn, h6.mono hn⟩
/-- The map of what waits has turned. -/
theorem Sv.waits {w w' : World} {p bw bt n n' : Nat} {D E D' : DataW Unit} (h : Sv w p bw bt n D E) (hg : w.grownBy w' (some bw)) (ho : w'.ownsMap Tryz.prog 3 (plainElem Tryz.prog 2) bw n' D') (hn : n ≤ n') : Sv w' p bw bt n' D' E := by
  have hlt := h.lt
  obtain ⟨T, h1, h2, h3, h4, _, h6⟩ := h
  exact ⟨T, (hg.block p hlt (fun e => h2 (Option.some.inj e).symm)).trans h1, h2, h3, h4, ho, (h6.kept hg (fun e => h4 (Option.some.inj e).symm)).mono hn⟩
theorem Sv.takes {w w' : World} {p bw bt n n' : Nat} {D E E' : DataW Unit} (h : Sv w p bw bt n D E) (hg : w.grownBy w' (some bt)) (ho : w'.ownsMap Tryz.prog 3 (plainElem Tryz.prog 2) bt n' E') (hn : n ≤ n') : Sv w' p bw bt n' D E' := by
  have hlt := h.lt
  obtain ⟨T, h1, h2, h3, h4, h5, _⟩ := h
  exact ⟨T, (hg.block p hlt (fun e => h3 (Option.some.inj e).symm)).trans h1, h2, h3, h4, (h5.kept hg (fun e => h4 (Option.some.inj e))).mono hn, ho⟩
/-- It stays. -/
theorem Sv.kept {w w' : World} {p bw bt n : Nat} {D E : DataW Unit} (h : Sv w p bw bt n D E) {row : Option Nat} (hg : w.grownBy w' row) (h1 : some p ≠ row) (h2 : some bw ≠ row) (h3 : some bt ≠ row) : Sv w' p bw bt n D E := by
  have hlt := h.lt
  obtain ⟨T, hb, h4, h5, h6, h7, h8⟩ := h
  exact ⟨T, (hg.block p hlt h1).trans hb, h4, h5, h6, h7.kept hg h2, h8.kept hg h3⟩
theorem Sv.below {w w' : World} {p bw bt n : Nat} {D E : DataW Unit} (h : Sv w p bw bt n D E) (hb : Below w.heap.size w w') : Sv w' p bw bt n D E :=
  h.kept (row := none) ⟨hb.os, hb.tape, hb.output, hb.size, fun k hk _ => hb.block k hk⟩ (by simp) (by simp) (by simp)
def two (bw bt : Nat) : Nat → Prop := fun k => k = bw ∨ k = bt
theorem new_any (w : World) : Calls Tryz.prog 22 #[] w fun e w' => e = .returned (.pointer (some ⟨w.heap.size + 2, 0, none⟩)) ∧ Sv w' (w.heap.size + 2) w.heap.size (w.heap.size + 1) 0 (.map []) (.map []) ∧ Below w.heap.size w w' := by
  have hmm := @run_makeMap Tryz.prog
  go_enter Tryz.func22, Tryz.ntmps22
  go_wp2
  go_ret
  have h1 := heap_alloc_new ((w.alloc (.map #[] 0)).alloc (.map #[] 0)) (.cells #[.map (some w.heap.size), .map (some (w.heap.size + 1))] 142)
  have h2 := World.ownsMap_made (H := Unit) (w.alloc (.map #[] 0)) Tryz.prog 3 (plainElem Tryz.prog 2)
  have e1 : (w.alloc (.map #[] 0)).heap.size = w.heap.size + 1 := by simp
  have e2 : ((w.alloc (.map #[] 0)).alloc (.map #[] 0)).heap.size = w.heap.size + 2 := by simp
  rw [e2] at h1
  rw [e1] at h2
  exact ⟨rfl, ⟨142, h1, by omega, by omega, by omega, ((World.ownsMap_made _ _ _ _).alloc _).alloc _, h2.alloc _⟩, (((Below.refl _ _).alloc (Nat.le_refl _) _).alloc (by simp) _).alloc (by simp; omega) _⟩
theorem back_any {p bw bt n : Nat} {D E : DataW Unit} {f : Int → Int} {w : World} (hS : Sv w p bw bt n D E) (hs : Sees D f) (k : Int) (hk : (Lit.int .i64 k).wf = true) :
    Calls Tryz.prog 63 #[.pointer (some ⟨p, 0, none⟩), .int .i64 k] w fun e w' => e = .returned (.int .i64 (f k)) ∧ w = w' := by
  have hc := hS.c0
  have hkey := keyOf_int_mk Tryz.underlying3 hk
  have hh := Lib.hid (hs.2 k)
  go_enter Tryz.func63, Tryz.ntmps63
  go_wp2_with (at_lookup; refine wpList_lookup_own_int _ rfl _ _ 63 rfl 3 2 .i64 law3 Tryz.underlying63 Tryz.underlying2 (zero2 _) bw n D rfl hS.ow _ _ rfl hkey ?_; intro c hat hwc)
  go_ret
  have e := hat.symm.trans hh.out
  simp only [num, DataW.lit.injEq, Lit.int.injEq, true_and] at e
  exact ⟨by rw [← e]; rfl, rfl⟩
/-- What may be asked. -/
def may (k v : Int) : Prop := 0 ≤ k ∧ k ≤ 1023 ∧ 1 ≤ v ∧ v ≤ 2147483648
set_option maxRecDepth 100000 in
set_option maxHeartbeats 400000 in
theorem ask_ok {p bw bt n : Nat} {D E : DataW Unit} {f : Int → Int} {w : World} (hS : Sv w p bw bt n D E) (hs : Sees D f) (hfu : Full D f) (hn : n < 1000000) (k v : Int) (hk : (Lit.int .i64 k).wf = true) (hm : may k v) (h0 : 0 ≤ f k) (hf : f k ≤ 1099511627776 - v) :
    Calls Tryz.prog 59 #[.pointer (some ⟨p, 0, none⟩), .int .i64 k, .int .i64 v] w fun e w' => e = .returned (.int .i64 0) ∧ (∃ D', Sv w' p bw bt (n + 1) D' E ∧ Sees D' (upd f k (f k + v)) ∧ Full D' (upd f k (f k + v))) ∧ w.grownBy w' (some bw) := by
  obtain ⟨h1, h2, h3, h4⟩ := hm
  have hne : ∀ (w : World) (r : Option Nat), (binOp .eql 63 (.map r) (.map none)).run Tryz.prog w = .ok (.bool r.isNone) w := fun w r => run_eql_map_nil w 63 3 2 r Tryz.underlying63
  have hkey := keyOf_int_mk Tryz.underlying3 hk
  have hc := hS.c0
  have hh := Lib.hid (hs.2 k)
  obtain ⟨y, hy⟩ : ∃ y, f k = y := ⟨_, rfl⟩
  rw [hy] at hh h0 hf
  have HY := Lib.hid hy
  have hback := back_any hS hs k hk
  rw [hy] at hback
  have HB := Lib.hid hback
  have htok : True := trivial
  clear hy hback
  have w1 : (Lit.int .i64 (y + v)).wf = true := WalkArith.wf_i64 (by omega)
  go_enter Tryz.func59, Tryz.ntmps59
  go_wp2_with (first
    | (go_at_call 63; refine HB.out.mono ?_; rintro e w1 ⟨rfl, rfl⟩)
    | (at_lookup; have _t := htok; refine wpList_lookup_own_int _ rfl _ _ 63 rfl 3 2 .i64 law3 Tryz.underlying63 Tryz.underlying2 (zero2 _) bw n D rfl hS.ow _ _ rfl hkey ?_; intro c hat hwc; have e := hat.symm.trans hh.out; simp only [num, DataW.lit.injEq, Lit.int.injEq, true_and] at e; rw [e]; clear e htok hat)
    | (at_mapUpdate; refine wpList_mapUpdate_own _ rfl _ _ _ 63 rfl 3 2 law3 Tryz.underlying63 _ bw n D rfl hS.ow (by unfold maxLen; omega) _ _ _ rfl rfl hkey _ [] (plainElem_int Tryz.underlying2 w1) ?_; intro w2 hown2 hgrow2))
  go_ret
  refine ⟨rfl, ⟨_, hS.waits hgrow2 hown2 (Nat.le_succ _), ?_, ?_⟩, hgrow2⟩
  · rw [HY.out]; exact hs.put k _
  · rw [HY.out]; exact hfu.put hs k _ (by omega)
/-- Nothing is taken. -/
theorem take_none {p bw bt n : Nat} {D E : DataW Unit} {f : Int → Int} {w : World} (hS : Sv w p bw bt n D E) (hs : Sees D f) (k v : Int) (hk : (Lit.int .i64 k).wf = true) (h0 : 0 ≤ f k) (hv : v ≤ 0 ∨ 0 < v ∧ f k = 0) :
    Calls Tryz.prog 143 #[.pointer (some ⟨p, 0, none⟩), .int .i64 k, .int .i64 v] w fun e w' => e = .returned (.int .i64 0) ∧ w = w' := by
  obtain ⟨y, hy⟩ : ∃ y, f k = y := ⟨_, rfl⟩
  have hback := back_any hS hs k hk
  rw [hy] at hback h0 hv
  have HB := Lib.hid hback
  clear hy hback
  have hcase : v < 0 ∧ y = 0 ∨ v < 0 ∧ 0 < y ∨ v = 0 ∧ y = 0 ∨ v = 0 ∧ 0 < y ∨ 0 < v ∧ y = 0 := by omega
  clear hv h0
  rcases hcase with ⟨hv, rfl⟩ | ⟨hv, hy⟩ | ⟨rfl, rfl⟩ | ⟨rfl, hy⟩ | ⟨hv, rfl⟩
  all_goals
    go_enter Tryz.func143, Tryz.ntmps143
    go_wp2_with (go_at_call 63; refine HB.out.mono ?_; rintro e w1 ⟨rfl, rfl⟩)
    go_ret
    exact ⟨rfl, rfl⟩
set_option maxRecDepth 100000 in
set_option maxHeartbeats 1000000 in
/-- Less is taken than waits. -/
theorem take_part {p bw bt n : Nat} {D E : DataW Unit} {f t : Int → Int} {w : World} (hS : Sv w p bw bt n D E) (hs : Sees D f) (hfu : Full D f) (ht : Sees E t) (hn : n < 1000000) (k v : Int) (hk : (Lit.int .i64 k).wf = true) (hv : 0 < v) (hlt : v < f k) (hf : f k ≤ 1099511627776)
    (ht0 : 0 ≤ t k) (ht1 : t k ≤ 4611686018427387904) :
    Calls Tryz.prog 143 #[.pointer (some ⟨p, 0, none⟩), .int .i64 k, .int .i64 v] w fun e w' => e = .returned (.int .i64 v) ∧ (∃ D' E', Sv w' p bw bt (n + 1) D' E' ∧ Sees D' (upd f k (f k - v)) ∧ Full D' (upd f k (f k - v)) ∧ Sees E' (upd t k (t k + v))) ∧ Turn (two bw bt) w w' := by
  have hkey := keyOf_int_mk Tryz.underlying3 hk
  have hc0 := hS.c0
  have hc1 := hS.c1
  have hh := Lib.hid (hs.2 k)
  have hht := Lib.hid (ht.2 k)
  obtain ⟨y, hy⟩ : ∃ y, f k = y := ⟨_, rfl⟩
  obtain ⟨z, hz⟩ : ∃ z, t k = z := ⟨_, rfl⟩
  rw [hy] at hh hlt hf
  rw [hz] at hht ht0 ht1
  have hback := back_any hS hs k hk
  rw [hy] at hback
  have HB := Lib.hid hback
  have HY := Lib.hid hy
  have HZ := Lib.hid hz
  clear hy hz hback
  have tok1 : True := trivial
  have tok2 : True := trivial
  have tok3 : True := trivial
  have tok4 : True := trivial
  have w1 : (Lit.int .i64 (y - v)).wf = true := WalkArith.wf_i64 (by omega)
  have w2 : (Lit.int .i64 (z + v)).wf = true := WalkArith.wf_i64 (by omega)
  have hp := hS.lt
  have hq := hS
  obtain ⟨_, _, hbp, htp, hbt, _, _⟩ := hq
  have HBP := Lib.hid hbp
  have HTP := Lib.hid htp
  have HBT := Lib.hid hbt
  clear hbp htp hbt
  go_enter Tryz.func143, Tryz.ntmps143
  go_wp2_with (first
    | (go_at_call 63; refine HB.out.mono ?_; rintro e w1 ⟨rfl, rfl⟩)
    | (at_lookup; have _t := tok1; refine wpList_lookup_own_int _ rfl _ _ 63 rfl 3 2 .i64 law3 Tryz.underlying63 Tryz.underlying2 (zero2 _) bw n D rfl hS.ow _ _ rfl hkey ?_; intro c hat hwc; have e := hat.symm.trans hh.out; simp only [num, DataW.lit.injEq, Lit.int.injEq, true_and] at e; rw [e]; clear e tok1 hat)
    | (at_mapUpdate; have _t := tok2; refine wpList_mapUpdate_own _ rfl _ _ _ 63 rfl 3 2 law3 Tryz.underlying63 _ bw n D rfl hS.ow (by unfold maxLen; omega) _ _ _ rfl rfl hkey _ [] (plainElem_int Tryz.underlying2 w1) ?_; intro wa hown1 hg1; have hS1 := hS.waits hg1 hown1 (Nat.le_succ _); have hd0 := hS1.c0; have hd1 := hS1.c1; clear tok2 hc0 hc1)
    | (at_lookup; have _t := tok3; refine wpList_lookup_own_int _ rfl _ _ 63 rfl 3 2 .i64 law3 Tryz.underlying63 Tryz.underlying2 (zero2 _) bt (n + 1) E rfl hS1.ot _ _ rfl hkey ?_; intro c hat hwc; have e := hat.symm.trans hht.out; simp only [num, DataW.lit.injEq, Lit.int.injEq, true_and] at e; rw [e]; clear e tok3 hat)
    | (at_mapUpdate; have _t := tok4; refine wpList_mapUpdate_own _ rfl _ _ _ 63 rfl 3 2 law3 Tryz.underlying63 _ bt n E rfl (hS.ot.kept hg1 (fun e => HBT.out (Option.some.inj e).symm)) (by unfold maxLen; omega) _ _ _ rfl rfl hkey _ [] (plainElem_int Tryz.underlying2 w2) ?_; intro wb hown2 hg2; have hS2 := hS1.takes hg2 hown2 (Nat.le_refl _); have he0 := hS2.c0; have he1 := hS2.c1; clear tok4 hd0 hd1)
    | (at_lookup; refine wpList_lookup_own_int _ rfl _ _ 63 rfl 3 2 .i64 law3 Tryz.underlying63 Tryz.underlying2 (zero2 _) bw (n + 1) _ rfl hS2.ow _ _ rfl hkey ?_; intro c hat hwc; have e := hat.symm.trans ((hs.put k (y - v)).2 k); rw [upd_same] at e; simp only [num, DataW.lit.injEq, Lit.int.injEq, true_and] at e; rw [e]; clear e hat))
  go_ret
  refine ⟨rfl, ⟨_, _, hS2, ?_, ?_, ?_⟩, (Turn.grown hg1 (.inl rfl)).trans (Turn.grown hg2 (.inr rfl))⟩
  · rw [HY.out]; exact hs.put k _
  · rw [HY.out]; exact hfu.put hs k _ (by omega)
  · rw [HZ.out]; exact ht.put k _
set_option maxRecDepth 100000 in
set_option maxHeartbeats 1000000 in
/-- All that waits is taken. -/
theorem take_all {p bw bt n : Nat} {D E : DataW Unit} {f t : Int → Int} {w : World} (hS : Sv w p bw bt n D E) (hs : Sees D f) (hfu : Full D f) (ht : Sees E t) (hn : n < 1000000) (k v : Int) (hk : (Lit.int .i64 k).wf = true) (hv : 0 < f k) (hlt : f k ≤ v) (hf : f k ≤ 1099511627776)
    (ht0 : 0 ≤ t k) (ht1 : t k ≤ 4611686018427387904) :
    Calls Tryz.prog 143 #[.pointer (some ⟨p, 0, none⟩), .int .i64 k, .int .i64 v] w fun e w' => e = .returned (.int .i64 (f k)) ∧ (∃ D' E', Sv w' p bw bt (n + 1) D' E' ∧ Sees D' (upd f k 0) ∧ Full D' (upd f k 0) ∧ Sees E' (upd t k (t k + f k))) ∧ Turn (two bw bt) w w' := by
  have hkey := keyOf_int_mk Tryz.underlying3 hk
  have hc0 := hS.c0
  have hc1 := hS.c1
  have hh := Lib.hid (hs.2 k)
  have hht := Lib.hid (ht.2 k)
  obtain ⟨y, hy⟩ : ∃ y, f k = y := ⟨_, rfl⟩
  obtain ⟨z, hz⟩ : ∃ z, t k = z := ⟨_, rfl⟩
  rw [hy] at hh hlt hf hv
  rw [hz] at hht ht0 ht1
  have hback := back_any hS hs k hk
  rw [hy] at hback
  have HB := Lib.hid hback
  have HY := Lib.hid hy
  have HZ := Lib.hid hz
  clear hy hz hback
  have tok1 : True := trivial
  have tok2 : True := trivial
  have tok3 : True := trivial
  have tok4 : True := trivial
  have w1 : (Lit.int .i64 0).wf = true := by decide
  have w2 : (Lit.int .i64 (z + y)).wf = true := WalkArith.wf_i64 (by omega)
  have hp := hS.lt
  have hq := hS
  obtain ⟨_, _, hbp, htp, hbt, _, _⟩ := hq
  have HBP := Lib.hid hbp
  have HTP := Lib.hid htp
  have HBT := Lib.hid hbt
  clear hbp htp hbt
  go_enter Tryz.func143, Tryz.ntmps143
  go_wp2_with (first
    | (go_at_call 63; refine HB.out.mono ?_; rintro e w1 ⟨rfl, rfl⟩)
    | (at_lookup; have _t := tok1; refine wpList_lookup_own_int _ rfl _ _ 63 rfl 3 2 .i64 law3 Tryz.underlying63 Tryz.underlying2 (zero2 _) bw n D rfl hS.ow _ _ rfl hkey ?_; intro c hat hwc; have e := hat.symm.trans hh.out; simp only [num, DataW.lit.injEq, Lit.int.injEq, true_and] at e; rw [e]; clear e tok1 hat)
    | (at_mapUpdate; have _t := tok2; refine wpList_mapUpdate_own _ rfl _ _ _ 63 rfl 3 2 law3 Tryz.underlying63 _ bw n D rfl hS.ow (by unfold maxLen; omega) _ _ _ rfl rfl hkey _ [] (plainElem_int Tryz.underlying2 w1) ?_; intro wa hown1 hg1; have hS1 := hS.waits hg1 hown1 (Nat.le_succ _); have hd0 := hS1.c0; have hd1 := hS1.c1; clear tok2 hc0 hc1)
    | (at_lookup; have _t := tok3; refine wpList_lookup_own_int _ rfl _ _ 63 rfl 3 2 .i64 law3 Tryz.underlying63 Tryz.underlying2 (zero2 _) bt (n + 1) E rfl hS1.ot _ _ rfl hkey ?_; intro c hat hwc; have e := hat.symm.trans hht.out; simp only [num, DataW.lit.injEq, Lit.int.injEq, true_and] at e; rw [e]; clear e tok3 hat)
    | (at_mapUpdate; have _t := tok4; refine wpList_mapUpdate_own _ rfl _ _ _ 63 rfl 3 2 law3 Tryz.underlying63 _ bt n E rfl (hS.ot.kept hg1 (fun e => HBT.out (Option.some.inj e).symm)) (by unfold maxLen; omega) _ _ _ rfl rfl hkey _ [] (plainElem_int Tryz.underlying2 w2) ?_; intro wb hown2 hg2; have hS2 := hS1.takes hg2 hown2 (Nat.le_refl _); have he0 := hS2.c0; have he1 := hS2.c1; clear tok4 hd0 hd1)
    | (at_lookup; refine wpList_lookup_own_int _ rfl _ _ 63 rfl 3 2 .i64 law3 Tryz.underlying63 Tryz.underlying2 (zero2 _) bw (n + 1) _ rfl hS2.ow _ _ rfl hkey ?_; intro c hat hwc; have e := hat.symm.trans ((hs.put k 0).2 k); rw [upd_same] at e; simp only [num, DataW.lit.injEq, Lit.int.injEq, true_and] at e; rw [e]; clear e hat)
    | (at_delete; refine wpList_delete_own _ rfl _ _ 63 3 rfl 2 law3 Tryz.underlying63 _ bw (n + 1) _ rfl hS2.ow _ _ rfl hkey ?_; intro wc hown3 hturn3))
  go_ret
  refine ⟨by rw [HY.out]; rfl, ⟨_, _, hS2.waits hturn3.grown hown3 (Nat.le_refl _), ?_, ?_, ?_⟩, ((Turn.grown hg1 (.inl rfl)).trans (Turn.grown hg2 (.inr rfl))).trans (Turn.grown hturn3.grown (.inl rfl))⟩
  · have := (hs.put k 0).del k
    rwa [upd_upd] at this
  · exact hfu.del_put k 0
  · rw [HZ.out, HY.out]; exact ht.put k _
end Go.Proofs.YtoichcickcgbgaaGreatDoor.Pool
namespace Go.Proofs.YtoichcickcgbgaaGreatDoor.Pool
open Go.RowKit Go.Maps
def Pv (w : World) (p bw bt n : Nat) (f t : Int → Int) : Prop := ∃ D E, Sv w p bw bt n D E ∧ Sees D f ∧ Full D f ∧ Sees E t
theorem Pv.lt {w : World} {p bw bt n : Nat} {f t : Int → Int} (h : Pv w p bw bt n f t) : p < w.heap.size := by obtain ⟨_, _, h, _⟩ := h; exact h.lt
theorem Pv.below {w w' : World} {p bw bt n : Nat} {f t : Int → Int} (h : Pv w p bw bt n f t) (hb : Below w.heap.size w w') : Pv w' p bw bt n f t := by
  obtain ⟨D, E, h, r⟩ := h
  exact ⟨D, E, h.below hb, r⟩
theorem Pv.kept {w w' : World} {p bw bt n : Nat} {f t : Int → Int} (h : Pv w p bw bt n f t) {row : Option Nat} (hg : w.grownBy w' row) (h1 : some p ≠ row) (h2 : some bw ≠ row) (h3 : some bt ≠ row) : Pv w' p bw bt n f t := by
  obtain ⟨D, E, h, r⟩ := h
  exact ⟨D, E, h.kept hg h1 h2 h3, r⟩
theorem Pv.mono {w : World} {p bw bt n n' : Nat} {f t : Int → Int} (h : Pv w p bw bt n f t) (hn : n ≤ n') : Pv w p bw bt n' f t := by
  obtain ⟨D, E, h, r⟩ := h
  exact ⟨D, E, h.mono hn, r⟩
theorem newV (w : World) : Calls Tryz.prog 22 #[] w fun e w' => e = .returned (.pointer (some ⟨w.heap.size + 2, 0, none⟩)) ∧ Pv w' (w.heap.size + 2) w.heap.size (w.heap.size + 1) 0 (fun _ => 0) (fun _ => 0) ∧ Below w.heap.size w w' :=
  (new_any w).mono fun _ _ ⟨he, hS, hb⟩ => ⟨he, ⟨_, _, hS, Sees.none, Full.none, Sees.none⟩, hb⟩
theorem backV {p bw bt n : Nat} {f t : Int → Int} {w : World} (hP : Pv w p bw bt n f t) (k : Int) (hk : (Lit.int .i64 k).wf = true) (r : Int) (hr : f k = r) :
    Calls Tryz.prog 63 #[.pointer (some ⟨p, 0, none⟩), .int .i64 k] w fun e w' => e = .returned (.int .i64 r) ∧ w = w' := by
  subst hr
  obtain ⟨D, E, hS, hs, _⟩ := hP
  exact back_any hS hs k hk
theorem askV {p bw bt n : Nat} {f t : Int → Int} {w : World} (hP : Pv w p bw bt n f t) (hn : n < 1000000) (k v : Int) (hk : (Lit.int .i64 k).wf = true) (hm : may k v) (h0 : 0 ≤ f k) (hf : f k ≤ 1099511627776 - v) (g : Int → Int) (hg : upd f k (f k + v) = g) :
    Calls Tryz.prog 59 #[.pointer (some ⟨p, 0, none⟩), .int .i64 k, .int .i64 v] w fun e w' => e = .returned (.int .i64 0) ∧ Pv w' p bw bt (n + 1) g t ∧ Turn (two bw bt) w w' := by
  subst hg
  obtain ⟨D, E, hS, hs, hfu, ht⟩ := hP
  exact (ask_ok hS hs hfu hn k v hk hm h0 hf).mono fun _ _ ⟨he, ⟨D', hS', hs', hfu'⟩, hg⟩ => ⟨he, ⟨D', E, hS', hs', hfu', ht⟩, Turn.grown hg (.inl rfl)⟩
/-- How much is taken. -/
def tk (y v : Int) : Int := if v ≤ 0 then 0 else if v < y then v else y
theorem takeV {p bw bt n : Nat} {f t : Int → Int} {w : World} (hP : Pv w p bw bt n f t) (hn : n < 1000000) (k v : Int) (hk : (Lit.int .i64 k).wf = true) (h0 : 0 ≤ f k) (hf : f k ≤ 1099511627776)
    (ht0 : 0 ≤ t k) (ht1 : t k ≤ 4611686018427387904) (r : Int) (hr : tk (f k) v = r) (g u : Int → Int) (hg : upd f k (f k - r) = g) (hu : upd t k (t k + r) = u) :
    Calls Tryz.prog 143 #[.pointer (some ⟨p, 0, none⟩), .int .i64 k, .int .i64 v] w fun e w' => e = .returned (.int .i64 r) ∧ Pv w' p bw bt (n + 1) g u ∧ Turn (two bw bt) w w' := by
  subst hg hu
  obtain ⟨D, E, hS, hs, hfu, ht⟩ := hP
  have idem : ∀ (h : Int → Int), upd h k (h k) = h := fun h => by
    funext j
    by_cases hj : j = k
    · subst hj; exact upd_same _ _ _
    · exact upd_other _ _ hj
  unfold tk at hr
  by_cases hv : v ≤ 0 ∨ 0 < v ∧ f k = 0
  · obtain rfl : r = 0 := by
      rcases hv with hv | ⟨hv, hy⟩
      · rw [if_pos hv] at hr; exact hr.symm
      · rw [if_neg (by omega), if_neg (by omega), hy] at hr; exact hr.symm
    have e1 : upd f k (f k - 0) = f := by rw [Int.sub_zero]; exact idem f
    have e2 : upd t k (t k + 0) = t := by rw [Int.add_zero]; exact idem t
    rw [e1, e2]
    exact (take_none hS hs k v hk h0 hv).mono fun _ _ ⟨he, hw⟩ => ⟨he, hw ▸ ⟨D, E, hS.mono (Nat.le_succ _), hs, hfu, ht⟩, hw ▸ Turn.refl _ _⟩
  · have hv0 : 0 < v := by omega
    have hy0 : 0 < f k := by omega
    rw [if_neg (by omega)] at hr
    by_cases hlt : v < f k
    · rw [if_pos hlt] at hr
      subst hr
      exact (take_part hS hs hfu ht hn k v hk hv0 hlt hf ht0 ht1).mono fun _ _ ⟨he, ⟨D', E', hS', h1, h2, h3⟩, hT⟩ => ⟨he, ⟨D', E', hS', h1, h2, h3⟩, hT⟩
    · rw [if_neg hlt] at hr
      subst hr
      rw [Int.sub_self]
      exact (take_all hS hs hfu ht hn k v hk hy0 (by omega) hf ht0 ht1).mono fun _ _ ⟨he, ⟨D', E', hS', h1, h2, h3⟩, hT⟩ => ⟨he, ⟨D', E', hS', h1, h2, h3⟩, hT⟩
end Go.Proofs.YtoichcickcgbgaaGreatDoor.Pool
namespace Go.Proofs.YtoichcickcgbgaaGreatDoor.Cnt
open Go.RowKit
/-- Block b holds eight counts. -/
def Ct (w : World) (b : Nat) (l : List Int) : Prop := ∃ T, w.heap[b]? = some (.cells (l.map (Value.int .i64)).toArray T (0, 0)) ∧ l.length = 8
theorem Ct.cell {w : World} {b : Nat} {l : List Int} (h : Ct w b l) {k : Nat} (hk : k < 8) : w.cell? ⟨b, k, none⟩ = some (.int .i64 (l.getD k 0)) := by
  obtain ⟨T, hb, hl⟩ := h
  have hk' : k < l.length := by omega
  simp [World.cell?, hb, hk']
theorem Ct.free {w : World} {b : Nat} {l : List Int} (h : Ct w b l) (k : Nat) : w.frozen? ⟨b, k, none⟩ = false := by
  obtain ⟨T, hb, _⟩ := h
  simp [World.frozen?, hb]
theorem Ct.set {w : World} {b : Nat} {l : List Int} (h : Ct w b l) (k : Nat) (v : Int) : Ct (w.setCell ⟨b, k, none⟩ (.int .i64 v)) b (l.set k v) := by
  obtain ⟨T, hb, hl⟩ := h
  refine ⟨T, ?_, by simpa using hl⟩
  rw [heap_setCell_same w b k _ T _ hb]
  simp
theorem Ct.lt {w : World} {b : Nat} {l : List Int} (h : Ct w b l) : b < w.heap.size := by
  obtain ⟨T, hb, _⟩ := h
  exact (Array.getElem?_eq_some_iff.1 hb).1
theorem Ct.keep {w w' : World} {b : Nat} {l : List Int} (h : Ct w b l) (e : w'.heap[b]? = w.heap[b]?) : Ct w' b l := by
  obtain ⟨T, hb, hl⟩ := h
  exact ⟨T, e.trans hb, hl⟩
theorem of_in (b : Nat) (k : Int) (h0 : 0 ≤ k) (h8 : k < 8) (w : World) :
    Calls Tryz.prog 47 #[.pointer (some ⟨b, 0, none⟩), .int .i64 k] w fun e w' => e = .returned (.pointer (some ⟨b, k.toNat, none⟩)) ∧ w = w' := by
  go_enter Tryz.func47, Tryz.ntmps47
  go_wp2
  go_ret
  exact ⟨by simp, rfl⟩
theorem add_in (b : Nat) (k x n : Int) (h0 : 0 ≤ k) (h8 : k < 8) (w : World) (hc : w.cell? ⟨b, k.toNat, none⟩ = some (.int .i64 x)) (hz : w.frozen? ⟨b, k.toNat, none⟩ = false) :
    Calls Tryz.prog 25 #[.pointer (some ⟨b, 0, none⟩), .int .i64 k, .int .i64 n] w fun e w' => e = .returned (.int .i64 (wrap64 (x + n))) ∧ w.setCell ⟨b, k.toNat, none⟩ (.int .i64 (wrap64 (x + n))) = w' := by
  have hl := run_call_add (P := Tryz.prog) Tryz.func82 (by kernel_rfl) (by kernel_rfl) (by kernel_rfl) .i64 (by kernel_rfl) (y := n) (s := wrap64 (x + n)) hc hz (by simp [go_sem, wrap64, IntKind.wrap_i64])
  go_enter Tryz.func25, Tryz.ntmps25
  go_wp2_with (first | (go_at_call 47; refine (of_in b k h0 h8 _).mono ?_; rintro e w' ⟨rfl, rfl⟩) | go_in)
  go_ret
  exact ⟨rfl, rfl⟩
end Go.Proofs.YtoichcickcgbgaaGreatDoor.Cnt
