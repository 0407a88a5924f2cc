/-
  A table's tasks.
  slices.DeleteFunc over tasks: all stay, or the one goes; the closures of In and Modes.
  table.In at mode 0: all tasks.
-/
import Derived.Test.YtoichcickcgbgaaGreatDoorGPtCc
import Derived.Lib.SliceRun
import Derived.Deep.Upon
namespace Go.Proofs.YtoichcickcgbgaaGreatDoor
open Go.RowKit
attribute [local go_sem] Oper.semAt_some
set_option maxRecDepth 100000 in
set_option maxHeartbeats 1000000 in
theorem tasks_0 {w : World} {oa : Option Addr} {cap : Nat} :
    Calls Tryz.prog 173 #[.agg #[.slice oa 0 cap, .int .i64 0]] w fun e w' => ∃ v, e = .returned v ∧ w'.ownsRow w.heap.size 32 5 v 0 ([].flatMap tc) ∧ Below w.heap.size w w' := by
  go_enter Tryz.func173, Tryz.ntmps173
  go_wp2_with fail
  refine wp_loop_rounds 1 ?_
  rw [rounds_succ]
  go_wp2_with fail
  go_ret
  exact ⟨_, rfl, World.ownsRow_nil _ _ _ _, (Below.refl _ _).alloc (Nat.le_refl _) _⟩
set_option maxRecDepth 100000 in
set_option maxHeartbeats 1000000 in
theorem tasks_1 {w : World} {g cap : Nat} {a : Rk} (hg : g < w.heap.size) (hr : w.rangeAt g 0 (rc a)) :
    Calls Tryz.prog 173 #[.agg #[.slice (some ⟨g, 0, none⟩) 1 cap, .int .i64 0]] w fun e w' => ∃ v, e = .returned v ∧ w'.ownsRow w.heap.size 32 5 v 1 ([a.k].flatMap tc) ∧ Below w.heap.size w w' := by
  obtain ⟨i0, hi, hz0, hz1, hz2⟩ := info_parts info32
  have bb := (Below.refl w.heap.size w).alloc (Nat.le_refl _) (.cells #[.slice (some ⟨g, 0, none⟩) 1 cap, .int .i64 0] 79)
  have R0 := Lib.hid (rangeAt_block hr (bb.block g hg))
  have hg0 := Nat.lt_of_lt_of_le hg bb.size
  have hb0 := bb.size
  have B0 := Lib.hid bb
  have O0 : Hid ((w.alloc (.cells #[.slice (some ⟨g, 0, none⟩) 1 cap, .int .i64 0] 79)).ownsRow w.heap.size 32 5 (.slice none 0 0) 0 []) := World.ownsRow_nil _ _ _ _
  clear bb hr
  go_enter Tryz.func173, Tryz.ntmps173
  go_wp2_with fail
  generalize w.alloc (.cells #[.slice (some ⟨g, 0, none⟩) 1 cap, .int .i64 0] 79) = w0 at *
  refine wp_loop_rounds 2 ?_
  rw [rounds_succ]
  have q0 := R0.out 0 _ rfl
  have q1 := R0.out 1 _ rfl
  have q2 := R0.out 2 _ rfl
  have q3 := R0.out 3 _ rfl
  have q4 := R0.out 4 _ rfl
  have q5 := R0.out 5 _ rfl
  simp only [Nat.zero_add] at q0 q1 q2 q3 q4 q5
  have hgn : g ≠ w0.heap.size := by omega
  have OX := Lib.hid ((O0.out.alloc (.cells #[.int .i64 a.k.id, .int .i64 a.k.c, .int .i64 a.k.d, .int .i64 a.k.t, .int .i64 a.k.m, .bool a.s] 37)).alloc (.cells #[.int .i64 a.k.id, .int .i64 a.k.c, .int .i64 a.k.d, .int .i64 a.k.t, .int .i64 a.k.m] 32))
  have NX : Hid (Bx ((w0.alloc (.cells #[.int .i64 a.k.id, .int .i64 a.k.c, .int .i64 a.k.d, .int .i64 a.k.t, .int .i64 a.k.m, .bool a.s] 37)).alloc (.cells #[.int .i64 a.k.id, .int .i64 a.k.c, .int .i64 a.k.d, .int .i64 a.k.t, .int .i64 a.k.m] 32)) (w0.heap.size + 1) 32 (tc a.k)) := by
    have := Bx.new (w0.alloc (.cells #[.int .i64 a.k.id, .int .i64 a.k.c, .int .i64 a.k.d, .int .i64 a.k.t, .int .i64 a.k.m, .bool a.s] 37)) [.int .i64 a.k.id, .int .i64 a.k.c, .int .i64 a.k.d, .int .i64 a.k.t, .int .i64 a.k.m] 32
    rw [World.size_alloc] at this
    exact this
  have bb := (B0.out.alloc hb0 (.cells #[.int .i64 a.k.id, .int .i64 a.k.c, .int .i64 a.k.d, .int .i64 a.k.t, .int .i64 a.k.m, .bool a.s] 37)).alloc (by simp; omega) (.cells #[.int .i64 a.k.id, .int .i64 a.k.c, .int .i64 a.k.d, .int .i64 a.k.t, .int .i64 a.k.m] 32)
  have bs := ((Below.refl w0.heap.size w0).alloc (Nat.le_refl _) (.cells #[.int .i64 a.k.id, .int .i64 a.k.c, .int .i64 a.k.d, .int .i64 a.k.t, .int .i64 a.k.m, .bool a.s] 37)).alloc (by simp) (.cells #[.int .i64 a.k.id, .int .i64 a.k.c, .int .i64 a.k.d, .int .i64 a.k.t, .int .i64 a.k.m] 32)
  have BX := Lib.hid bb
  have BS := Lib.hid bs
  clear bb bs
  go_wp2_with (at_builtin; go_loud (refine wpList_append_own _ rfl _ _ 161 rfl w.heap.size 32 i0 _ 5 40 Tryz.underlying161 hi hz0 hz1 hz2 rfl (by decide) _ 0 [] rfl OX.out ⟨w0.heap.size + 1, 0, none⟩ 1 1 (tc a.k) rfl rfl (range_add NX.out.range) (by simpa using tc_one [a.k]) (by unfold maxLen; omega) (by omega) BX.out.size ?_))
  intro v1 w1 ho hgr _
  have hsz := hgr.size
  simp only [World.size_alloc] at hsz
  have B1 : Hid (Below w.heap.size w w1) := BX.out.grown hgr BX.out.size fun k hk => own_fresh O0.out k hk
  have R1 : Hid (w1.rangeAt g 0 (rc a)) := rangeAt_block (rangeAt_block R0.out (BS.out.block g hg0)) (hgr.block g (by simp; omega) fun e => by have := own_fresh O0.out g e.symm; omega)
  have hg1 : g < w1.heap.size := by omega
  have hb1 := B1.out.size
  obtain ⟨k1, cp1, rfl⟩ := ownsRow_succ ho
  have O1 := Lib.hid ho
  clear q0 q1 q2 q3 q4 q5 ho hgr NX OX BX BS hgn hsz
  go_wp2_with fail
  rw [rounds_succ]
  go_wp2_with fail
  go_ret
  exact ⟨_, rfl, by simpa [List.append_assoc] using O1.out, B1.out⟩
set_option maxRecDepth 100000 in
set_option maxHeartbeats 1000000 in
theorem tasks_2 {w : World} {g cap : Nat} {a b : Rk} (hg : g < w.heap.size) (hr : w.rangeAt g 0 (rc a ++ rc b)) :
    Calls Tryz.prog 173 #[.agg #[.slice (some ⟨g, 0, none⟩) 2 cap, .int .i64 0]] w fun e w' => ∃ v, e = .returned v ∧ w'.ownsRow w.heap.size 32 5 v 2 ([a.k, b.k].flatMap tc) ∧ Below w.heap.size w w' := by
  obtain ⟨i0, hi, hz0, hz1, hz2⟩ := info_parts info32
  have bb := (Below.refl w.heap.size w).alloc (Nat.le_refl _) (.cells #[.slice (some ⟨g, 0, none⟩) 2 cap, .int .i64 0] 79)
  have R0 := Lib.hid (rangeAt_block hr (bb.block g hg))
  have hg0 := Nat.lt_of_lt_of_le hg bb.size
  have hb0 := bb.size
  have B0 := Lib.hid bb
  have O0 : Hid ((w.alloc (.cells #[.slice (some ⟨g, 0, none⟩) 2 cap, .int .i64 0] 79)).ownsRow w.heap.size 32 5 (.slice none 0 0) 0 []) := World.ownsRow_nil _ _ _ _
  clear bb hr
  go_enter Tryz.func173, Tryz.ntmps173
  go_wp2_with fail
  generalize w.alloc (.cells #[.slice (some ⟨g, 0, none⟩) 2 cap, .int .i64 0] 79) = w0 at *
  refine wp_loop_rounds 3 ?_
  rw [rounds_succ]
  have q0 := R0.out 0 _ rfl
  have q1 := R0.out 1 _ rfl
  have q2 := R0.out 2 _ rfl
  have q3 := R0.out 3 _ rfl
  have q4 := R0.out 4 _ rfl
  have q5 := R0.out 5 _ rfl
  simp only [Nat.zero_add] at q0 q1 q2 q3 q4 q5
  have hgn : g ≠ w0.heap.size := by omega
  have OX := Lib.hid ((O0.out.alloc (.cells #[.int .i64 a.k.id, .int .i64 a.k.c, .int .i64 a.k.d, .int .i64 a.k.t, .int .i64 a.k.m, .bool a.s] 37)).alloc (.cells #[.int .i64 a.k.id, .int .i64 a.k.c, .int .i64 a.k.d, .int .i64 a.k.t, .int .i64 a.k.m] 32))
  have NX : Hid (Bx ((w0.alloc (.cells #[.int .i64 a.k.id, .int .i64 a.k.c, .int .i64 a.k.d, .int .i64 a.k.t, .int .i64 a.k.m, .bool a.s] 37)).alloc (.cells #[.int .i64 a.k.id, .int .i64 a.k.c, .int .i64 a.k.d, .int .i64 a.k.t, .int .i64 a.k.m] 32)) (w0.heap.size + 1) 32 (tc a.k)) := by
    have := Bx.new (w0.alloc (.cells #[.int .i64 a.k.id, .int .i64 a.k.c, .int .i64 a.k.d, .int .i64 a.k.t, .int .i64 a.k.m, .bool a.s] 37)) [.int .i64 a.k.id, .int .i64 a.k.c, .int .i64 a.k.d, .int .i64 a.k.t, .int .i64 a.k.m] 32
    rw [World.size_alloc] at this
    exact this
  have bb := (B0.out.alloc hb0 (.cells #[.int .i64 a.k.id, .int .i64 a.k.c, .int .i64 a.k.d, .int .i64 a.k.t, .int .i64 a.k.m, .bool a.s] 37)).alloc (by simp; omega) (.cells #[.int .i64 a.k.id, .int .i64 a.k.c, .int .i64 a.k.d, .int .i64 a.k.t, .int .i64 a.k.m] 32)
  have bs := ((Below.refl w0.heap.size w0).alloc (Nat.le_refl _) (.cells #[.int .i64 a.k.id, .int .i64 a.k.c, .int .i64 a.k.d, .int .i64 a.k.t, .int .i64 a.k.m, .bool a.s] 37)).alloc (by simp) (.cells #[.int .i64 a.k.id, .int .i64 a.k.c, .int .i64 a.k.d, .int .i64 a.k.t, .int .i64 a.k.m] 32)
  have BX := Lib.hid bb
  have BS := Lib.hid bs
  clear bb bs
  go_wp2_with (at_builtin; go_loud (refine wpList_append_own _ rfl _ _ 161 rfl w.heap.size 32 i0 _ 5 40 Tryz.underlying161 hi hz0 hz1 hz2 rfl (by decide) _ 0 [] rfl OX.out ⟨w0.heap.size + 1, 0, none⟩ 1 1 (tc a.k) rfl rfl (range_add NX.out.range) (by simpa using tc_one [a.k]) (by unfold maxLen; omega) (by omega) BX.out.size ?_))
  intro v1 w1 ho hgr _
  have hsz := hgr.size
  simp only [World.size_alloc] at hsz
  have B1 : Hid (Below w.heap.size w w1) := BX.out.grown hgr BX.out.size fun k hk => own_fresh O0.out k hk
  have R1 : Hid (w1.rangeAt g 0 (rc a ++ rc b)) := rangeAt_block (rangeAt_block R0.out (BS.out.block g hg0)) (hgr.block g (by simp; omega) fun e => by have := own_fresh O0.out g e.symm; omega)
  have hg1 : g < w1.heap.size := by omega
  have hb1 := B1.out.size
  obtain ⟨k1, cp1, rfl⟩ := ownsRow_succ ho
  have O1 := Lib.hid ho
  clear q0 q1 q2 q3 q4 q5 ho hgr NX OX BX BS hgn hsz
  go_wp2_with fail
  rw [rounds_succ]
  have q0 := R1.out 6 _ rfl
  have q1 := R1.out 7 _ rfl
  have q2 := R1.out 8 _ rfl
  have q3 := R1.out 9 _ rfl
  have q4 := R1.out 10 _ rfl
  have q5 := R1.out 11 _ rfl
  simp only [Nat.zero_add] at q0 q1 q2 q3 q4 q5
  have hgn : g ≠ w1.heap.size := by omega
  have OX := Lib.hid ((O1.out.alloc (.cells #[.int .i64 b.k.id, .int .i64 b.k.c, .int .i64 b.k.d, .int .i64 b.k.t, .int .i64 b.k.m, .bool b.s] 37)).alloc (.cells #[.int .i64 b.k.id, .int .i64 b.k.c, .int .i64 b.k.d, .int .i64 b.k.t, .int .i64 b.k.m] 32))
  have NX : Hid (Bx ((w1.alloc (.cells #[.int .i64 b.k.id, .int .i64 b.k.c, .int .i64 b.k.d, .int .i64 b.k.t, .int .i64 b.k.m, .bool b.s] 37)).alloc (.cells #[.int .i64 b.k.id, .int .i64 b.k.c, .int .i64 b.k.d, .int .i64 b.k.t, .int .i64 b.k.m] 32)) (w1.heap.size + 1) 32 (tc b.k)) := by
    have := Bx.new (w1.alloc (.cells #[.int .i64 b.k.id, .int .i64 b.k.c, .int .i64 b.k.d, .int .i64 b.k.t, .int .i64 b.k.m, .bool b.s] 37)) [.int .i64 b.k.id, .int .i64 b.k.c, .int .i64 b.k.d, .int .i64 b.k.t, .int .i64 b.k.m] 32
    rw [World.size_alloc] at this
    exact this
  have bb := (B1.out.alloc hb1 (.cells #[.int .i64 b.k.id, .int .i64 b.k.c, .int .i64 b.k.d, .int .i64 b.k.t, .int .i64 b.k.m, .bool b.s] 37)).alloc (by simp; omega) (.cells #[.int .i64 b.k.id, .int .i64 b.k.c, .int .i64 b.k.d, .int .i64 b.k.t, .int .i64 b.k.m] 32)
  have bs := ((Below.refl w1.heap.size w1).alloc (Nat.le_refl _) (.cells #[.int .i64 b.k.id, .int .i64 b.k.c, .int .i64 b.k.d, .int .i64 b.k.t, .int .i64 b.k.m, .bool b.s] 37)).alloc (by simp) (.cells #[.int .i64 b.k.id, .int .i64 b.k.c, .int .i64 b.k.d, .int .i64 b.k.t, .int .i64 b.k.m] 32)
  have BX := Lib.hid bb
  have BS := Lib.hid bs
  clear bb bs
  go_wp2_with (at_builtin; go_loud (refine wpList_append_own _ rfl _ _ 161 rfl w.heap.size 32 i0 _ 5 40 Tryz.underlying161 hi hz0 hz1 hz2 rfl (by decide) _ 1 _ rfl OX.out ⟨w1.heap.size + 1, 0, none⟩ 1 1 (tc b.k) rfl rfl (range_add NX.out.range) (by simpa using tc_one [b.k]) (by unfold maxLen; omega) (by omega) BX.out.size ?_))
  intro v2 w2 ho hgr _
  have hsz := hgr.size
  simp only [World.size_alloc] at hsz
  have B2 : Hid (Below w.heap.size w w2) := BX.out.grown hgr BX.out.size fun k hk => own_fresh O1.out k hk
  have R2 : Hid (w2.rangeAt g 0 (rc a ++ rc b)) := rangeAt_block (rangeAt_block R1.out (BS.out.block g hg1)) (hgr.block g (by simp; omega) fun e => by have := own_fresh O1.out g e.symm; omega)
  have hg2 : g < w2.heap.size := by omega
  have hb2 := B2.out.size
  obtain ⟨k2, cp2, rfl⟩ := ownsRow_succ ho
  have O2 := Lib.hid ho
  clear q0 q1 q2 q3 q4 q5 ho hgr NX OX BX BS hgn hsz
  go_wp2_with fail
  rw [rounds_succ]
  go_wp2_with fail
  go_ret
  exact ⟨_, rfl, by simpa [List.append_assoc] using O2.out, B2.out⟩
end Go.Proofs.YtoichcickcgbgaaGreatDoor
namespace Go.Proofs.YtoichcickcgbgaaGreatDoor
open Go.RowKit
attribute [local go_sem] Oper.semAt_some
/-- Is a task out of mode j? -/
def outM (j : Nat) (x : Tk) : Bool := bits BinOp.and IntKind.i64 (x.m / 2 ^ j) 1 == 0
theorem outM_15 {x : Tk} (h : x.m = 15) {j : Nat} (hj : j < 4) : outM j x = false := by
  unfold outM
  rw [h]
  match j, hj with
  | 0, _ => decide
  | 1, _ => decide
  | 2, _ => decide
  | 3, _ => decide
theorem outM_1 {x : Tk} (h : x.m = 1) : outM 0 x = false := by
  unfold outM
  rw [h]
  decide
theorem outM_1' {x : Tk} (h : x.m = 1) {j : Nat} (hj : j < 4) (h0 : 0 < j) : outM j x = true := by
  unfold outM
  rw [h]
  match j, hj, h0 with
  | 1, _, _ => decide
  | 2, _, _ => decide
  | 3, _, _ => decide
set_option maxRecDepth 100000 in
theorem modes_pred {w : World} {b : Nat} {j : Nat} (hj : j < 4) (hb : b < w.heap.size) (hc : w.cell? ⟨b, 0, none⟩ = some (.int .i64 j)) (x : Tk) :
    Calls Tryz.prog 208 (#[.agg (tc x).toArray] ++ #[.pointer (some ⟨b, 0, none⟩)]) w fun e w' => e = .returned (.bool (outM j x)) ∧ Below w.heap.size w w' := by
  have hbn : b ≠ w.heap.size := by omega
  show Calls Tryz.prog 208 #[.agg #[.int .i64 x.id, .int .i64 x.c, .int .i64 x.d, .int .i64 x.t, .int .i64 x.m], .pointer (some ⟨b, 0, none⟩)] w _
  go_enter Tryz.func208, Tryz.ntmps208
  go_wp2_with fail
  go_ret
  exact ⟨rfl, (Below.refl _ _).alloc (Nat.le_refl _) _⟩
set_option maxRecDepth 100000 in
theorem in_pred {w : World} {b : Nat} (hb : b < w.heap.size) (hc : w.cell? ⟨b, 0, none⟩ = some (.int .i64 0)) (x : Tk) :
    Calls Tryz.prog 182 (#[.agg (tc x).toArray] ++ #[.pointer (some ⟨b, 0, none⟩)]) w fun e w' => e = .returned (.bool (outM 0 x)) ∧ Below w.heap.size w w' := by
  have hbn : b ≠ w.heap.size := by omega
  have h0 : x.m / 2 ^ 0 = x.m := by simp
  unfold outM
  rw [h0]
  show Calls Tryz.prog 182 #[.agg #[.int .i64 x.id, .int .i64 x.c, .int .i64 x.d, .int .i64 x.t, .int .i64 x.m], .pointer (some ⟨b, 0, none⟩)] w _
  clear h0
  go_enter Tryz.func182, Tryz.ntmps182
  go_wp2_with fail
  go_ret
  exact ⟨rfl, (Below.refl _ _).alloc (Nat.le_refl _) _⟩
/-- The block of a slice's value is plain. -/
def Fz (w : World) (v : Value) : Prop := ∀ g, v.ownBlock = some g → ∃ cur T, w.heap[g]? = some (.cells cur T (0, 0))
theorem Fz.of_own {w : World} {B : Nat} {e : TypeId} {size n : Nat} {v : Value} {xs : List Value} (h : w.ownsRow B e size v n xs) : Fz w v := fun g hg => by
  rcases h.2 with ⟨rfl, _⟩ | ⟨g', cap, cur, rfl, _, hb, _⟩
  · simp [Value.ownBlock] at hg
  · have : g' = g := by simpa [Value.ownBlock] using hg
    subst this
    exact ⟨_, _, hb⟩
/-- A slice that was made behind B. -/
structure Fs (B : Nat) (w : World) (v : Value) (ts : List Tk) : Prop where
  sx : Sx tc w v ts
  own : ∀ g, v.ownBlock = some g → B ≤ g
  fz : Fz w v
theorem Fs.of_own {w : World} {B : Nat} {e : TypeId} {size n : Nat} {v : Value} {ts : List Tk} (h : w.ownsRow B e size v n (ts.flatMap tc)) (hn : ts.length = n) : Fs B w v ts := ⟨Sx.of_own h hn, own_fresh h, Fz.of_own h⟩
theorem Fs.turn {S : Nat → Prop} {B : Nat} {w w' : World} {v : Value} {ts : List Tk} (h : Fs B w v ts) (t : Turn S w w') (hS : ∀ g, v.ownBlock = some g → ¬ S g) : Fs B w' v ts := by
  refine ⟨h.sx.turn t fun g hg _ => hS g hg, h.own, fun g hg => ?_⟩
  obtain ⟨cur, T, hb⟩ := h.fz g hg
  exact ⟨cur, T, (t.block g (Array.getElem?_eq_some_iff.1 hb).1 (hS g hg)).trans hb⟩
theorem Fs.below {B : Nat} {w w' : World} {v : Value} {ts : List Tk} (h : Fs B w v ts) (b : Below w.heap.size w w') : Fs B w' v ts := h.turn (S := fun _ => False) (Turn.below b) fun _ _ h => h
theorem tclone_fs {w : World} {v : Value} {rs : List Tk} (h : Sx tc w v rs) (hn : rs.length ≤ 1000) :
    Calls Tryz.prog 207 #[v] w fun e w' => ∃ v', e = .returned v' ∧ Fs w.heap.size w' v' rs ∧ Below w.heap.size w w' := by
  obtain ⟨i0, hi, hz0, hz1, hz2⟩ := info_parts info32
  obtain ⟨oa, cap, rfl, ha, h⟩ := h
  rcases ha with rfl | ⟨g, rfl⟩
  · have hrs : rs = [] := Classical.byContradiction fun hne => by obtain ⟨g, hg, _⟩ := h hne; cases hg
    subst hrs
    refine (AnyE.slices_Clone_nil Sh.cloneTask 0 cap w).mono ?_
    rintro e w' ⟨rfl, rfl⟩
    exact ⟨_, rfl, ⟨Sx.nil, fun g hg => by simp [Value.ownBlock] at hg, fun g hg => by simp [Value.ownBlock] at hg⟩, Below.refl _ _⟩
  · refine (AnyE.slices_Clone Sh.cloneTask i0 _ 5 40 hi hz0 hz1 hz2 rfl (by decide) (fun w => by kernel_rfl) g 0 rs.length cap (rs.flatMap tc) w (flat_len tc 5 (fun _ => rfl) rs) (by unfold maxLen; omega) (by omega) ?_ (tc_one rs)).mono ?_
    · intro j u hj
      by_cases hne : rs = []
      · subst hne; simp at hj
      · obtain ⟨g', hg, _, _, hr⟩ := h hne
        cases hg
        exact hr j u hj
    · rintro e w' ⟨v', rfl, ho, _, hb⟩
      exact ⟨v', rfl, Fs.of_own ho rfl, hb⟩
/-- Two rows at most: all tasks. -/
theorem tasks_any {w : World} {v : Value} {rs : List Rk} (h : Sx rc w v rs) (hn : rs.length ≤ 2) :
    Calls Tryz.prog 173 #[.agg #[v, .int .i64 0]] w fun e w' => ∃ v', e = .returned v' ∧ Fs w.heap.size w' v' (rs.map (·.k)) ∧ Below w.heap.size w w' := by
  match rs, hn, h with
  | [], _, h =>
    obtain ⟨oa, cap, rfl, _, _⟩ := h
    exact tasks_0.mono fun e w' ⟨v, he, ho, hb⟩ => ⟨v, he, Fs.of_own ho rfl, hb⟩
  | [a], _, h =>
    obtain ⟨g, cap, rfl, hg, hc, hr⟩ := h.one
    exact (tasks_1 hg hr).mono fun e w' ⟨v, he, ho, hb⟩ => ⟨v, he, Fs.of_own ho rfl, hb⟩
  | [a, b], _, h =>
    obtain ⟨g, cap, rfl, hg, hc, hr⟩ := h.two
    exact (tasks_2 hg hr).mono fun e w' ⟨v, he, ho, hb⟩ => ⟨v, he, Fs.of_own ho rfl, hb⟩
set_option maxRecDepth 100000 in
theorem idxt_nil (oa : Option Addr) (c : Nat) (f : Value) (w : World) : Calls Tryz.prog 210 #[.slice oa 0 c, f] w fun e w' => e = .returned (.int .i64 (-1)) ∧ Below w.heap.size w w' := by
  go_enter Tryz.func210, Tryz.ntmps210
  go_wp2_with fail
  refine wp_loop_rounds 1 ?_
  rw [rounds_succ]
  go_wp2_with fail
  go_ret
  exact ⟨rfl, Below.refl _ _⟩
theorem idxt_any {w : World} {v : Value} {ts : List Tk} (h : Sx tc w v ts) (hn : ts.length ≤ 16) (p : Tk → Bool) (g : Nat) (lb : Array Value) (eg : ∀ args w, (callFunc g args).run Tryz.prog w = .ok (.enter g args) w)
    (hp : PredBelow Tryz.prog g lb (fun x => .agg (tc x).toArray) p w) :
    Calls Tryz.prog 210 #[v, .func (.func g) #[] lb] w fun e w' => e = .returned (.int .i64 (Lib.idxBy (fun _ y => p y) ts default)) ∧ Below w.heap.size w w' := by
  obtain ⟨oa, cap, rfl, ha, h⟩ := h
  by_cases hne : ts = []
  · subst hne
    exact idxt_nil oa cap _ w
  · obtain ⟨b, rfl, hb, hc, hr⟩ := h hne
    refine (AnyQ.slices_IndexFunc Sh.idxTask 5 (fun w => by kernel_rfl) (fun w => by kernel_rfl) tc (fun _ => rfl) p g lb eg b 0 ts.length cap ts w hp (Nat.le_refl _) (by omega) hb ?_).mono ?_
    · intro j hj i u hu
      have := hr _ _ (chunk_at tc 5 (fun _ => rfl) ts j hj i u hu)
      rw [show 0 + j * 5 + i = 0 + (j * 5 + i) from by omega]
      exact this
    · rintro e w' ⟨rfl, hb⟩
      exact ⟨by rw [List.take_of_length_le (Nat.le_refl _)], hb⟩
theorem idx_none {p : Tk → Bool} : ∀ (ts : List Tk) (i : Nat), (∀ x ∈ ts, p x = false) → Lib.idxByFrom (fun _ y => p y) default ts i = -1
  | [], _, _ => rfl
  | x :: ts, i, h => by
    simp only [Lib.idxByFrom, h x (by simp)]
    exact idx_none ts (i + 1) fun y hy => h y (List.mem_cons_of_mem _ hy)
set_option maxRecDepth 100000 in
theorem del_keep {w : World} {oa : Option Addr} {n cap : Nat} {f : Value} (h : Calls Tryz.prog 210 #[.slice oa n cap, f] w fun e w' => e = .returned (.int .i64 (-1)) ∧ Below w.heap.size w w') :
    Calls Tryz.prog 181 #[.slice oa n cap, f] w fun e w' => e = .returned (.slice oa n cap) ∧ Below w.heap.size w w' := by
  have H := Lib.hid h
  clear h
  go_enter Tryz.func181, Tryz.ntmps181
  go_wp2_with fail
  refine H.out.mono ?_
  rintro e w1 ⟨rfl, b1⟩
  go_wp2_with fail
  go_ret
  exact ⟨rfl, b1⟩
theorem set_turn (g : Nat) : ∀ (vs : List Value) (o : Nat) (w : World), Turn (fun k => k = g) w (w.setCells g o vs)
  | [], _, w => Turn.refl _ w
  | v :: vs, o, w => (Turn.set (S := fun k => k = g) w g o v rfl).trans (set_turn g vs (o + 1) _)
theorem run_clear_task (w : World) (ty : TypeId) (g c : Nat) (hc : ∀ j, j < 5 → (w.cell? ⟨g, 0 + j, none⟩).isSome = true) (hf : ∀ j, j < 5 → w.frozen? ⟨g, 0 + j, none⟩ = false) :
    (Builtin.clear_ #[161] ty #[.slice (some ⟨g, 0, none⟩) 1 c]).run Tryz.prog w = .ok (.tuple #[]) (w.setCells g 0 [.int .i64 0, .int .i64 0, .int .i64 0, .int .i64 0, .int .i64 0]) := by
  have hst := run_storeCells_cells (P := Tryz.prog) g 0 [.int .i64 0, .int .i64 0, .int .i64 0, .int .i64 0, .int .i64 0] 0 w (by simpa using hc) (by simpa using hf) (by intro v hv'; simp only [List.mem_cons, List.not_mem_nil, or_false, or_self] at hv'; subst hv'; rfl)
  simp only [Nat.add_zero] at hst
  have hzc : (Builtin.zeroCells (Value.agg #[.int .i64 0, .int .i64 0, .int .i64 0, .int .i64 0, .int .i64 0]).cells 1).toList = [.int .i64 0, .int .i64 0, .int .i64 0, .int .i64 0, .int .i64 0] := by
    simp [Builtin.zeroCells, Value.cells]
    rfl
  have hv : ∀ w, (zeroValue 32).run Tryz.prog w = .ok (.agg #[.int .i64 0, .int .i64 0, .int .i64 0, .int .i64 0, .int .i64 0]) w := fun w => by kernel_rfl
  simp [Builtin.clear_, run_underlying Tryz.underlying161, hv, hzc, hst]
set_option maxRecDepth 100000 in
theorem del_one {w : World} {g cap : Nat} {a : Tk} {f : Value} (hr : w.rangeAt g 0 (tc a)) (hg : g < w.heap.size) (hfr : ∀ j, w.frozen? ⟨g, j, none⟩ = false) (h : Calls Tryz.prog 210 #[.slice (some ⟨g, 0, none⟩) 1 cap, f] w fun e w' => e = .returned (.int .i64 0) ∧ Below w.heap.size w w') :
    Calls Tryz.prog 181 #[.slice (some ⟨g, 0, none⟩) 1 cap, f] w fun e w' => e = .returned (.slice (some ⟨g, 0, none⟩) 0 cap) ∧ Turn (fun k => k = g) w w' := by
  have H := Lib.hid h
  have HR := Lib.hid hr
  have HFR := Lib.hid hfr
  clear h hr hfr
  go_enter Tryz.func181, Tryz.ntmps181
  go_wp2_with fail
  refine H.out.mono ?_
  rintro e w1 ⟨rfl, b1⟩
  have hb := b1.block g hg
  have hr1 := rangeAt_block HR.out hb
  have hf1 : ∀ j, w1.frozen? ⟨g, j, none⟩ = false := fun j => by
    have := HFR.out j
    simpa [World.frozen?, hb] using this
  have hcl := Lib.hid (fun ty => run_clear_task w1 ty g cap (fun j hj => by
    match j, hj with
    | 0, _ => rw [hr1 0 _ rfl]; rfl
    | 1, _ => rw [hr1 1 _ rfl]; rfl
    | 2, _ => rw [hr1 2 _ rfl]; rfl
    | 3, _ => rw [hr1 3 _ rfl]; rfl
    | 4, _ => rw [hr1 4 _ rfl]; rfl) (fun j _ => hf1 _))
  have HB := Lib.hid b1
  clear b1 hb hr1 hf1 H HR HFR
  go_wp2_with fail
  refine wp_loop_rounds 1 ?_
  rw [rounds_succ]
  have hcl := hcl.out
  go_wp2_with fail
  go_ret
  exact ⟨rfl, (Turn.below HB.out).trans (set_turn g _ _ _)⟩
/-- All stay, or there is one and it goes. -/
theorem del_any {w : World} {v : Value} {ts : List Tk} (h : Sx tc w v ts) (hz : Fz w v) (hk : Tks ts) (p : Tk → Bool) (g : Nat) (lb : Array Value) (eg : ∀ args w, (callFunc g args).run Tryz.prog w = .ok (.enter g args) w)
    (hp : PredBelow Tryz.prog g lb (fun x => .agg (tc x).toArray) p w) (hc : (∀ x ∈ ts, p x = false) ∨ ∃ a, ts = [a] ∧ p a = true) :
    Calls Tryz.prog 181 #[v, .func (.func g) #[] lb] w fun e w' => ∃ v' ts', e = .returned v' ∧ Sx tc w' v' ts' ∧ v'.ownBlock = v.ownBlock ∧ Tks ts' ∧ (ts.length ≠ 2 → ts'.length ≠ 2) ∧ ((∀ x ∈ ts, p x = false) → ts' = ts) ∧ Turn (fun k => v.ownBlock = some k) w w' := by
  have hi := idxt_any h (by have := hk.len; omega) p g lb eg hp
  rcases hc with hc | ⟨a, rfl, ha⟩
  · rw [show Lib.idxBy (fun _ y => p y) ts default = -1 from idx_none ts 0 hc] at hi
    obtain ⟨oa, cap, rfl, h1, h2⟩ := id h
    refine (del_keep hi).mono ?_
    rintro e w' ⟨rfl, hb⟩
    exact ⟨_, ts, rfl, h.below hb, rfl, hk, fun h => h, fun _ => rfl, Turn.below hb⟩
  · rw [show Lib.idxBy (fun _ y => p y) [a] default = 0 by simp [Lib.idxBy, Lib.idxByFrom, ha]] at hi
    obtain ⟨b, cap, rfl, hb, hcap, hr⟩ := h.one
    obtain ⟨cur, T, hz⟩ := hz b rfl
    refine (del_one hr hb (fun j => by simp [World.frozen?, hz]) hi).mono ?_
    rintro e w' ⟨rfl, ht⟩
    exact ⟨_, [], rfl, ⟨_, cap, rfl, .inr ⟨b, rfl⟩, fun h => absurd rfl h⟩, rfl, ⟨by simp, by simp⟩, fun _ => by simp, fun h => absurd (h a (by simp)) (by simp [ha]), ht.wide fun k _ h => by subst h; rfl⟩
end Go.Proofs.YtoichcickcgbgaaGreatDoor
namespace Go.Proofs.YtoichcickcgbgaaGreatDoor
open Go.RowKit
attribute [local go_sem] Oper.semAt_some
/-- Rows as they are met: two at most, of all modes; or one of mode 0 alone. -/
structure Rws (rs : List Rk) : Prop where
  tks : Tks (rs.map (·.k))
  srv : ∀ r ∈ rs, r.s = true → r.k.d = r.k.t
  two : ∀ a b, rs = [a, b] → a.s = true ∧ b.s = true ∧ a.k.id < b.k.id
  modes : (∀ r ∈ rs, r.k.m = 15) ∨ ∃ a, rs = [a] ∧ a.k.m = 1
theorem Rws.len {rs : List Rk} (h : Rws rs) : rs.length ≤ 2 := by simpa using h.tks.len
theorem Rws.out0 {rs : List Rk} (h : Rws rs) : ∀ x ∈ rs.map (·.k), outM 0 x = false := by
  intro x hx
  obtain ⟨r, hr, rfl⟩ := List.mem_map.1 hx
  rcases h.modes with h | ⟨a, rfl, ha⟩
  · exact outM_15 (h r hr) (by omega)
  · simp only [List.mem_singleton] at hr
    subst hr
    exact outM_1 ha
set_option maxRecDepth 100000 in
theorem in_any {w : World} {v : Value} {rs : List Rk} (h : Sx rc w v rs) (hk : Rws rs) :
    Calls Tryz.prog 134 #[.agg #[v, .int .i64 0], .int .i64 0] w fun e w' => ∃ v', e = .returned v' ∧ Sx tc w' v' (rs.map (·.k)) ∧ (∀ g, v'.ownBlock = some g → w.heap.size ≤ g) ∧ Below w.heap.size w w' := by
  have hb0 : Below w.heap.size w ((w.alloc (.cells #[v, .int .i64 0] 79)).alloc (.cells #[.int .i64 0] 3)) := ((Below.refl _ _).alloc (Nat.le_refl _) _).alloc (by simp) _
  have hA : Bx ((w.alloc (.cells #[v, .int .i64 0] 79)).alloc (.cells #[.int .i64 0] 3)) w.heap.size 79 [v, .int .i64 0] := (Bx.new w [v, .int .i64 0] 79).more _
  have hM : Bx ((w.alloc (.cells #[v, .int .i64 0] 79)).alloc (.cells #[.int .i64 0] 3)) (w.heap.size + 1) 3 [.int .i64 0] := by
    have := Bx.new (w.alloc (.cells #[v, .int .i64 0] 79)) [.int .i64 0] 3
    rwa [World.size_alloc] at this
  have HT := Lib.hid (tasks_any (h.below hb0) hk.len)
  have HB0 := Lib.hid hb0
  have HM := Lib.hid hM
  obtain ⟨oa, cap, rfl, -, -⟩ := h
  have cA0 := hA.cell 0 rfl
  have cA1 := hA.cell 1 rfl
  clear hb0 hM hA
  go_enter Tryz.func134, Tryz.ntmps134
  go_wp2_with fail
  refine HT.out.mono ?_
  rintro e w1 ⟨v1, rfl, hF, b1⟩
  have hM1 := HM.out.below b1
  have HM1 := Lib.hid hM1
  have HF := Lib.hid hF
  have hsz : w.heap.size + 2 ≤ w1.heap.size := by have := b1.size; simp at this; omega
  have hown : ∀ g, v1.ownBlock = some g → w.heap.size ≤ g := fun g hg => by have := hF.own g hg; simp at this; omega
  have HB1 := Lib.hid (HB0.out.trans (b1.mono HB0.out.size))
  have HD := Lib.hid (del_any hF.sx hF.fz hk.tks (outM 0) 182 #[.pointer (some ⟨w.heap.size + 1, 0, none⟩)] (enters_of Tryz.func182 (by kernel_rfl) rfl)
    (fun W x hb => (in_pred (Nat.lt_of_lt_of_le hM1.lt hb.size) ((hM1.below hb).cell 0 rfl) x).mono fun e w' h => ⟨h.1, hb.trans (h.2.mono hb.size)⟩) (.inl hk.out0))
  have HO := Lib.hid hown
  clear b1 hM1 hF hown HT HM HB0 cA0 cA1
  go_wp2_with fail
  refine HD.out.mono ?_
  rintro e w2 ⟨v2, ts', rfl, hs2, ho, hk2, -, hall, ht⟩
  obtain rfl := hall hk.out0
  go_wp2_with fail
  go_ret
  exact ⟨_, rfl, hs2, fun g hg => HO.out g (ho ▸ hg), Turn.to HB1.out ht HB1.out.size (fun k hk => HO.out k hk)⟩
end Go.Proofs.YtoichcickcgbgaaGreatDoor
