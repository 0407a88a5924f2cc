/-
  busy.steps: the sequence of works, as an iterator.
  busy: what turns the time; the iterator over the works; the length.
  busy.Length: some length of at most 100; of one task its work.
-/
import Derived.Test.YtoichcickcgbgaaGreatDoorGSl
namespace Go.Proofs.YtoichcickcgbgaaGreatDoor
open Go.RowKit
attribute [local go_sem] Oper.semAt_some
theorem run_store_func {P : Program} {w : World} {a : Addr} {m : Mode} (f : Fn) (ts cs : Array Value) : (store a (.func f ts cs) m).run P w = stored P w a (.func f ts cs) m := run_store P w a _ m rfl
attribute [local go_sem] run_store_func
/-- What steps has made: bv holds the tasks, bx the time, bn what turns it. -/
structure Stp (w : World) (v : Value) (bv bx bn x : Nat) : Prop where
  v0 : Bx w bv 161 [v]
  x0 : Bx w bx 2 [.int .i64 x]
  n0 : Bx w bn 25 [.func (.func 249) #[] #[.pointer (some ⟨bx, 0, none⟩), .pointer (some ⟨bv, 0, none⟩)]]
/-- A store into a block that is new. -/
theorem bset {B : Nat} {a w : World} (h : Below B a w) (hB : B ≤ w.heap.size) (b j : Nat) (v : Value) (hb : B ≤ b) : Below B a (w.setCell ⟨b, j, none⟩ v) := Turn.to (S := fun k => k = b) h (Turn.set _ _ _ _ rfl) hB (fun _ e => e ▸ hb)
set_option maxRecDepth 100000 in
set_option maxHeartbeats 1000000 in
theorem steps_1 {w : World} {g cap : Nat} {a : Tk} (hg : g < w.heap.size) (hr : w.rangeAt g 0 (tc a)) (hk_a : a.c = a.cn) (hcl_a : a.cn ≤ 10) :
    Calls Tryz.prog 235 #[.slice (some ⟨g, 0, none⟩) 1 cap] w fun e w' => ∃ bn, e = .returned (.func (.func 251) #[] #[.pointer (some ⟨w.heap.size + 1, 0, none⟩), .pointer (some ⟨bn, 0, none⟩)]) ∧ Below w.heap.size w w' ∧ w.heap.size + 1 < bn ∧ Stp w' (.slice (some ⟨g, 0, none⟩) 1 cap) w.heap.size (w.heap.size + 1) bn (sumC [a]) := by
  have r0 := hr
  clear hr
  have hB0 : Below w.heap.size w ((w.alloc (.cells #[.slice (some ⟨g, 0, none⟩) 1 cap] 161)).alloc (.cells #[.int .i64 0] 2)) := ((Below.refl _ _).alloc (Nat.le_refl _) _).alloc (by simp) _
  have hV0 : Bx ((w.alloc (.cells #[.slice (some ⟨g, 0, none⟩) 1 cap] 161)).alloc (.cells #[.int .i64 0] 2)) w.heap.size 161 [.slice (some ⟨g, 0, none⟩) 1 cap] := (Bx.new w [.slice (some ⟨g, 0, none⟩) 1 cap] 161).more _
  have hX0 : Bx ((w.alloc (.cells #[.slice (some ⟨g, 0, none⟩) 1 cap] 161)).alloc (.cells #[.int .i64 0] 2)) (w.heap.size + 1) 2 [.int .i64 0] := by
    have := Bx.new (w.alloc (.cells #[.slice (some ⟨g, 0, none⟩) 1 cap] 161)) [.int .i64 0] 2
    rwa [World.size_alloc] at this
  have R0 := Lib.hid (rangeAt_block r0 (hB0.block g hg))
  have hg0 := Nat.lt_of_lt_of_le hg hB0.size
  have hgH : g ≠ w.heap.size + 1 := by omega
  have B0 := Lib.hid hB0
  have V0 := Lib.hid hV0
  have X0 := Lib.hid hX0
  clear hB0 hV0 hX0 r0
  go_enter Tryz.func235, Tryz.ntmps235
  go_wp2_with fail
  generalize (w.alloc (.cells #[.slice (some ⟨g, 0, none⟩) 1 cap] 161)).alloc (.cells #[.int .i64 0] 2) = u0 at *
  have hs0 : w.heap.size + 1 < u0.heap.size := X0.out.lt
  refine wp_loop_rounds 2 ?_
  rw [rounds_succ]
  have q0 := R0.out 0 _ rfl
  have q1 := R0.out 1 _ rfl
  have q2 := R0.out 2 _ rfl
  have q3 := R0.out 3 _ rfl
  have q4 := R0.out 4 _ rfl
  simp only [Nat.zero_add, hk_a] at q0 q1 q2 q3 q4
  have hgn : g ≠ u0.heap.size := by omega
  have hxn : w.heap.size + 1 ≠ u0.heap.size := by omega
  have cx := X0.out.cell 0 rfl
  have fx := X0.out.free 0
  go_wp2_with fail
  have B1 := Lib.hid ((bset B0.out (by omega) (w.heap.size + 1) 0 (.int .i64 (a.cn : Int)) (by omega)).alloc (by simp [World.setCell]; omega) (.cells #[.int .i64 a.id, .int .i64 a.cn, .int .i64 a.d, .int .i64 a.t, .int .i64 a.m] 32))
  have V1 := Lib.hid ((V0.out.keep (heap_setCell_other u0 ⟨w.heap.size + 1, 0, none⟩ _ (.int .i64 (a.cn : Int)) (show w.heap.size ≠ w.heap.size + 1 by omega))).more (.cells #[.int .i64 a.id, .int .i64 a.cn, .int .i64 a.d, .int .i64 a.t, .int .i64 a.m] 32))
  have X1 := Lib.hid ((Bx.set X0.out 0 (.int .i64 (a.cn : Int)) _ rfl).more (.cells #[.int .i64 a.id, .int .i64 a.cn, .int .i64 a.d, .int .i64 a.t, .int .i64 a.m] 32))
  have R1 := Lib.hid (rangeAt_block R0.out (((Below.refl (u0.setCell ⟨w.heap.size + 1, 0, none⟩ (.int .i64 (a.cn : Int))).heap.size _).alloc (Nat.le_refl _) (.cells #[.int .i64 a.id, .int .i64 a.cn, .int .i64 a.d, .int .i64 a.t, .int .i64 a.m] 32)).block g (by simpa [World.setCell] using hg0) |>.trans (heap_setCell_other u0 ⟨w.heap.size + 1, 0, none⟩ _ (.int .i64 (a.cn : Int)) hgH)))
  clear q0 q1 q2 q3 q4 cx fx hgn hxn
  have hs1 : w.heap.size + 1 < ((u0.setCell ⟨w.heap.size + 1, 0, none⟩ (.int .i64 (a.cn : Int))).alloc (.cells #[.int .i64 a.id, .int .i64 a.cn, .int .i64 a.d, .int .i64 a.t, .int .i64 a.m] 32)).heap.size := X1.out.lt
  have hg1 : g < ((u0.setCell ⟨w.heap.size + 1, 0, none⟩ (.int .i64 (a.cn : Int))).alloc (.cells #[.int .i64 a.id, .int .i64 a.cn, .int .i64 a.d, .int .i64 a.t, .int .i64 a.m] 32)).heap.size := by simp [World.setCell]; omega
  generalize (u0.setCell ⟨w.heap.size + 1, 0, none⟩ (.int .i64 (a.cn : Int))).alloc (.cells #[.int .i64 a.id, .int .i64 a.cn, .int .i64 a.d, .int .i64 a.t, .int .i64 a.m] 32) = u1 at *
  rw [rounds_succ]
  have cx := X1.out.cell 0 rfl
  have hxn : w.heap.size + 1 ≠ u1.heap.size := by omega
  go_wp2_with fail
  go_ret
  exact ⟨_, rfl, (B1.out.alloc (by omega) _), by omega, V1.out.more _, by have := X1.out.more (.cells #[.func (.func 249) #[] #[.pointer (some ⟨w.heap.size + 1, 0, none⟩), .pointer (some ⟨w.heap.size, 0, none⟩)]] 25); simpa [sumC] using this, Bx.new u1 [.func (.func 249) #[] #[.pointer (some ⟨w.heap.size + 1, 0, none⟩), .pointer (some ⟨w.heap.size, 0, none⟩)]] 25⟩
set_option maxRecDepth 100000 in
set_option maxHeartbeats 1000000 in
theorem steps_2 {w : World} {g cap : Nat} {a b : Tk} (hg : g < w.heap.size) (hr : w.rangeAt g 0 (tc a ++ tc b)) (hk_a : a.c = a.cn) (hcl_a : a.cn ≤ 10) (hk_b : b.c = b.cn) (hcl_b : b.cn ≤ 10) :
    Calls Tryz.prog 235 #[.slice (some ⟨g, 0, none⟩) 2 cap] w fun e w' => ∃ bn, e = .returned (.func (.func 251) #[] #[.pointer (some ⟨w.heap.size + 1, 0, none⟩), .pointer (some ⟨bn, 0, none⟩)]) ∧ Below w.heap.size w w' ∧ w.heap.size + 1 < bn ∧ Stp w' (.slice (some ⟨g, 0, none⟩) 2 cap) w.heap.size (w.heap.size + 1) bn (sumC [a, b]) := by
  have r0 := hr
  clear hr
  have hB0 : Below w.heap.size w ((w.alloc (.cells #[.slice (some ⟨g, 0, none⟩) 2 cap] 161)).alloc (.cells #[.int .i64 0] 2)) := ((Below.refl _ _).alloc (Nat.le_refl _) _).alloc (by simp) _
  have hV0 : Bx ((w.alloc (.cells #[.slice (some ⟨g, 0, none⟩) 2 cap] 161)).alloc (.cells #[.int .i64 0] 2)) w.heap.size 161 [.slice (some ⟨g, 0, none⟩) 2 cap] := (Bx.new w [.slice (some ⟨g, 0, none⟩) 2 cap] 161).more _
  have hX0 : Bx ((w.alloc (.cells #[.slice (some ⟨g, 0, none⟩) 2 cap] 161)).alloc (.cells #[.int .i64 0] 2)) (w.heap.size + 1) 2 [.int .i64 0] := by
    have := Bx.new (w.alloc (.cells #[.slice (some ⟨g, 0, none⟩) 2 cap] 161)) [.int .i64 0] 2
    rwa [World.size_alloc] at this
  have R0 := Lib.hid (rangeAt_block r0 (hB0.block g hg))
  have hg0 := Nat.lt_of_lt_of_le hg hB0.size
  have hgH : g ≠ w.heap.size + 1 := by omega
  have B0 := Lib.hid hB0
  have V0 := Lib.hid hV0
  have X0 := Lib.hid hX0
  clear hB0 hV0 hX0 r0
  go_enter Tryz.func235, Tryz.ntmps235
  go_wp2_with fail
  generalize (w.alloc (.cells #[.slice (some ⟨g, 0, none⟩) 2 cap] 161)).alloc (.cells #[.int .i64 0] 2) = u0 at *
  have hs0 : w.heap.size + 1 < u0.heap.size := X0.out.lt
  obtain ⟨m, HM⟩ : ∃ m : Nat, Hid (m = 1 + 1) := ⟨2, rfl⟩
  refine wp_loop_rounds (m + 1) ?_
  rw [rounds_succ]
  have q0 := R0.out 0 _ rfl
  have q1 := R0.out 1 _ rfl
  have q2 := R0.out 2 _ rfl
  have q3 := R0.out 3 _ rfl
  have q4 := R0.out 4 _ rfl
  simp only [Nat.zero_add, hk_a] at q0 q1 q2 q3 q4
  have hgn : g ≠ u0.heap.size := by omega
  have hxn : w.heap.size + 1 ≠ u0.heap.size := by omega
  have cx := X0.out.cell 0 rfl
  have fx := X0.out.free 0
  go_wp2_with fail
  have B1 := Lib.hid ((bset B0.out (by omega) (w.heap.size + 1) 0 (.int .i64 (a.cn : Int)) (by omega)).alloc (by simp [World.setCell]; omega) (.cells #[.int .i64 a.id, .int .i64 a.cn, .int .i64 a.d, .int .i64 a.t, .int .i64 a.m] 32))
  have V1 := Lib.hid ((V0.out.keep (heap_setCell_other u0 ⟨w.heap.size + 1, 0, none⟩ _ (.int .i64 (a.cn : Int)) (show w.heap.size ≠ w.heap.size + 1 by omega))).more (.cells #[.int .i64 a.id, .int .i64 a.cn, .int .i64 a.d, .int .i64 a.t, .int .i64 a.m] 32))
  have X1 := Lib.hid ((Bx.set X0.out 0 (.int .i64 (a.cn : Int)) _ rfl).more (.cells #[.int .i64 a.id, .int .i64 a.cn, .int .i64 a.d, .int .i64 a.t, .int .i64 a.m] 32))
  have R1 := Lib.hid (rangeAt_block R0.out (((Below.refl (u0.setCell ⟨w.heap.size + 1, 0, none⟩ (.int .i64 (a.cn : Int))).heap.size _).alloc (Nat.le_refl _) (.cells #[.int .i64 a.id, .int .i64 a.cn, .int .i64 a.d, .int .i64 a.t, .int .i64 a.m] 32)).block g (by simpa [World.setCell] using hg0) |>.trans (heap_setCell_other u0 ⟨w.heap.size + 1, 0, none⟩ _ (.int .i64 (a.cn : Int)) hgH)))
  clear q0 q1 q2 q3 q4 cx fx hgn hxn
  have hs1 : w.heap.size + 1 < ((u0.setCell ⟨w.heap.size + 1, 0, none⟩ (.int .i64 (a.cn : Int))).alloc (.cells #[.int .i64 a.id, .int .i64 a.cn, .int .i64 a.d, .int .i64 a.t, .int .i64 a.m] 32)).heap.size := X1.out.lt
  have hg1 : g < ((u0.setCell ⟨w.heap.size + 1, 0, none⟩ (.int .i64 (a.cn : Int))).alloc (.cells #[.int .i64 a.id, .int .i64 a.cn, .int .i64 a.d, .int .i64 a.t, .int .i64 a.m] 32)).heap.size := by simp [World.setCell]; omega
  generalize (u0.setCell ⟨w.heap.size + 1, 0, none⟩ (.int .i64 (a.cn : Int))).alloc (.cells #[.int .i64 a.id, .int .i64 a.cn, .int .i64 a.d, .int .i64 a.t, .int .i64 a.m] 32) = u1 at *
  rw [HM.out, rounds_succ]
  have q0 := R1.out 5 _ rfl
  have q1 := R1.out 6 _ rfl
  have q2 := R1.out 7 _ rfl
  have q3 := R1.out 8 _ rfl
  have q4 := R1.out 9 _ rfl
  simp only [Nat.zero_add, hk_b] at q0 q1 q2 q3 q4
  have hgn : g ≠ u1.heap.size := by omega
  have hxn : w.heap.size + 1 ≠ u1.heap.size := by omega
  have cx := X1.out.cell 0 rfl
  have fx := X1.out.free 0
  go_wp2_with fail
  have B2 := Lib.hid ((bset B1.out (by omega) (w.heap.size + 1) 0 (.int .i64 ((a.cn : Int) + (b.cn : Int))) (by omega)).alloc (by simp [World.setCell]; omega) (.cells #[.int .i64 b.id, .int .i64 b.cn, .int .i64 b.d, .int .i64 b.t, .int .i64 b.m] 32))
  have V2 := Lib.hid ((V1.out.keep (heap_setCell_other u1 ⟨w.heap.size + 1, 0, none⟩ _ (.int .i64 ((a.cn : Int) + (b.cn : Int))) (show w.heap.size ≠ w.heap.size + 1 by omega))).more (.cells #[.int .i64 b.id, .int .i64 b.cn, .int .i64 b.d, .int .i64 b.t, .int .i64 b.m] 32))
  have X2 := Lib.hid ((Bx.set X1.out 0 (.int .i64 ((a.cn : Int) + (b.cn : Int))) _ rfl).more (.cells #[.int .i64 b.id, .int .i64 b.cn, .int .i64 b.d, .int .i64 b.t, .int .i64 b.m] 32))
  have R2 := Lib.hid (rangeAt_block R1.out (((Below.refl (u1.setCell ⟨w.heap.size + 1, 0, none⟩ (.int .i64 ((a.cn : Int) + (b.cn : Int)))).heap.size _).alloc (Nat.le_refl _) (.cells #[.int .i64 b.id, .int .i64 b.cn, .int .i64 b.d, .int .i64 b.t, .int .i64 b.m] 32)).block g (by simpa [World.setCell] using hg1) |>.trans (heap_setCell_other u1 ⟨w.heap.size + 1, 0, none⟩ _ (.int .i64 ((a.cn : Int) + (b.cn : Int))) hgH)))
  clear q0 q1 q2 q3 q4 cx fx hgn hxn
  have hs2 : w.heap.size + 1 < ((u1.setCell ⟨w.heap.size + 1, 0, none⟩ (.int .i64 ((a.cn : Int) + (b.cn : Int)))).alloc (.cells #[.int .i64 b.id, .int .i64 b.cn, .int .i64 b.d, .int .i64 b.t, .int .i64 b.m] 32)).heap.size := X2.out.lt
  have hg2 : g < ((u1.setCell ⟨w.heap.size + 1, 0, none⟩ (.int .i64 ((a.cn : Int) + (b.cn : Int)))).alloc (.cells #[.int .i64 b.id, .int .i64 b.cn, .int .i64 b.d, .int .i64 b.t, .int .i64 b.m] 32)).heap.size := by simp [World.setCell]; omega
  generalize (u1.setCell ⟨w.heap.size + 1, 0, none⟩ (.int .i64 ((a.cn : Int) + (b.cn : Int)))).alloc (.cells #[.int .i64 b.id, .int .i64 b.cn, .int .i64 b.d, .int .i64 b.t, .int .i64 b.m] 32) = u2 at *
  rw [rounds_succ]
  have cx := X2.out.cell 0 rfl
  have hxn : w.heap.size + 1 ≠ u2.heap.size := by omega
  go_wp2_with fail
  go_ret
  exact ⟨_, rfl, (B2.out.alloc (by omega) _), by omega, V2.out.more _, by have := X2.out.more (.cells #[.func (.func 249) #[] #[.pointer (some ⟨w.heap.size + 1, 0, none⟩), .pointer (some ⟨w.heap.size, 0, none⟩)]] 25); simpa [sumC] using this, Bx.new u2 [.func (.func 249) #[] #[.pointer (some ⟨w.heap.size + 1, 0, none⟩), .pointer (some ⟨w.heap.size, 0, none⟩)]] 25⟩
end Go.Proofs.YtoichcickcgbgaaGreatDoor
namespace Go.Proofs.YtoichcickcgbgaaGreatDoor
open Go.RowKit
attribute [local go_sem] Oper.semAt_some
attribute [local go_sem] run_store_func
theorem steps_any {w : World} {v : Value} {ts : List Tk} (h : Sx tc w v ts) (hk : Tks ts) (hne : ts ≠ []) :
    Calls Tryz.prog 235 #[v] w fun e w' => ∃ bn, e = .returned (.func (.func 251) #[] #[.pointer (some ⟨w.heap.size + 1, 0, none⟩), .pointer (some ⟨bn, 0, none⟩)]) ∧ Below w.heap.size w w' ∧ w.heap.size + 1 < bn ∧ Stp w' v w.heap.size (w.heap.size + 1) bn (sumC ts) := by
  rcases one_two hk hne with ⟨a, rfl⟩ | ⟨a, b, rfl⟩
  · obtain ⟨g, cap, rfl, hg, hc, hr⟩ := h.one
    have ha := Tk.nums (hk.ok a (by simp))
    exact steps_1 hg hr ha.1 (by omega)
  · obtain ⟨g, cap, rfl, hg, hc, hr⟩ := h.two
    have ha := Tk.nums (hk.ok a (by simp))
    have hb := Tk.nums (hk.ok b (by simp))
    exact steps_2 hg hr ha.1 (by omega) hb.1 (by omega)
theorem Stp.turn {w w' : World} {v : Value} {bv bx bn x : Nat} {S : Nat → Prop} (h : Stp w v bv bx bn x) (t : Turn S w w') (hv : ¬ S bv) (hx : ¬ S bx) (hn : ¬ S bn) : Stp w' v bv bx bn x := ⟨h.v0.turn t hv, h.x0.turn t hx, h.n0.turn t hn⟩
theorem Stp.keep {w w' : World} {v : Value} {bv bx bn x : Nat} (h : Stp w v bv bx bn x) (e : ∀ k, k < w.heap.size → (k = bv ∨ k = bx ∨ k = bn) → w'.heap[k]? = w.heap[k]?) : Stp w' v bv bx bn x := ⟨h.v0.keep (e _ h.v0.lt (.inl rfl)), h.x0.keep (e _ h.x0.lt (.inr (.inl rfl))), h.n0.keep (e _ h.n0.lt (.inr (.inr rfl)))⟩
theorem Stp.ne {w : World} {v : Value} {bv bx bn x : Nat} (h : Stp w v bv bx bn x) : bv ≠ bx ∧ bn ≠ bx ∧ bv ≠ bn := ⟨h.v0.ne h.x0 (by decide), h.n0.ne h.x0 (by decide), h.v0.ne h.n0 (by decide)⟩
set_option maxRecDepth 100000 in
theorem next_any {w : World} {v : Value} {ts : List Tk} {bv bx bn x : Nat} (hS : Stp w v bv bx bn x) (h : Sx tc w v ts) (hk : Tks ts) (hne : ts ≠ []) (hx : x ≤ 100000) :
    Calls Tryz.prog 249 #[.pointer (some ⟨bx, 0, none⟩), .pointer (some ⟨bv, 0, none⟩)] w fun e w' => e = .returned (.bool (((workF ts x : Nat) : Int) != (x : Int))) ∧ Stp w' v bv bx bn (workF ts x) ∧ Turn (fun k => k = bx) w w' := by
  have c0 := hS.x0.cell 0 rfl
  have c1 := hS.v0.cell 0 rfl
  have HW := Lib.hid (work_any h hk hne x hx)
  have HS := Lib.hid hS
  clear hS h
  go_enter Tryz.func249, Tryz.ntmps249
  go_wp2_with fail
  refine HW.out.mono ?_
  rintro e w1 ⟨rfl, hb⟩
  clear c0 c1
  have c0 := (HS.out.x0.below hb).cell 0 rfl
  have f0 := (HS.out.x0.below hb).free 0
  have HB := Lib.hid hb
  clear hb
  go_wp2_with fail
  go_ret
  have n := HS.out.ne
  exact ⟨rfl, ⟨(HS.out.v0.below HB.out).keep (heap_setCell_other _ _ _ _ n.1), Bx.set (HS.out.x0.below HB.out) 0 _ _ rfl, (HS.out.n0.below HB.out).keep (heap_setCell_other _ _ _ _ n.2.1)⟩, (Turn.below HB.out).trans (Turn.set _ _ _ _ rfl)⟩
/-- What rounds over the works keep. -/
def Kb (v : Value) (bv bx bn : Nat) (A B : World) : Prop := A.heap.size ≤ B.heap.size ∧ ∀ k, k < A.heap.size → (k = bv ∨ k = bx ∨ k = bn ∨ v.ownBlock = some k) → B.heap[k]? = A.heap[k]?
theorem Kb.trans {v : Value} {bv bx bn : Nat} {A B C : World} (h : Kb v bv bx bn A B) (k : Kb v bv bx bn B C) : Kb v bv bx bn A C := ⟨Nat.le_trans h.1 k.1, fun i hi hs => (k.2 i (Nat.lt_of_lt_of_le hi h.1) hs).trans (h.2 i hi hs)⟩
/-- What a cell counts. -/
def cellN (w : World) (b : Nat) : Nat := match w.cell? ⟨b, 0, none⟩ with
  | some (.int _ n) => n.toNat
  | _ => 0
set_option maxRecDepth 100000 in
set_option maxHeartbeats 1000000 in
theorem seq_steps (nn : Nat) {w0 : World} {v : Value} {ts : List Tk} {bv bx bn : Nat} (hS : Stp w0 v bv bx bn (sumC ts)) (h : Sx tc w0 v ts) (hk : Tks ts) (hne : ts ≠ []) (hl : loadN ts ≤ loadP ts) (hv : v.ownBlock ≠ some bx) :
    SeqT nn Tryz.prog 251 #[.pointer (some ⟨bx, 0, none⟩), .pointer (some ⟨bn, 0, none⟩)] (fun x : Nat => #[.int .i64 x]) (fun k => k = bx) (Kb v bv bx bn) (fun pre x => x = itW ts pre.length) (fun xs _ => xs ≠ []) (fun _ _ => True) w0 := by
  intro l J Jx W hK hJ hJx hY h0
  dsimp only at hY
  have hS' : Stp W v bv bx bn (sumC ts) := hS.keep fun k hk hs => hK.2 k hk (by rcases hs with h | h | h; exact .inl h; exact .inr (.inl h); exact .inr (.inr (.inl h)))
  have h' : Sx tc W v ts := h.keep hK.1 fun g hg hl => hK.2 g hl (.inr (.inr (.inr hg)))
  have HY := Lib.hid hY
  have HJ := Lib.hid hJ
  have HS := Lib.hid hS'
  have HX := Lib.hid h'
  have HU := Lib.hid (itW_up hk hne hl)
  have HP := Lib.hid (loadP_le hk)
  clear hS hK hY hJ hJx h hS' h'
  refine callsIn_of_wp Tryz.func251 rfl trivial ?_ rfl
  simp only [Tryz.ntmps251, List.size_toArray, List.length_cons, List.length_nil, Nat.reduceAdd, Nat.reduceSub, Array.replicate_succ, Array.replicate_zero, List.push_toArray, List.append_toArray, List.nil_append, List.cons_append]
  gi_wp2
  refine wpIn_wide.2 ?_
  go_step3
  go_wp2_with fail
  go_step3
  go_wp2_with fail
  refine (wpIn_wide (n := nn)).1 ?_
  gi_loopw [4] (fun _ wr => ∃ (pre : List Nat), Hid (J pre wr) ∧ Hid (Stp wr v bv bx bn (itW ts pre.length)) ∧ Hid (Sx tc wr v ts)) (fun _ wr => loadP ts - cellN wr bx)
  case atStart => exact ⟨[], h0, HS, HX⟩
  case round =>
    obtain ⟨pre, hJr, hSr, hXr⟩ := hrel
    have c0 := hSr.out.x0.cell 0 rfl
    have hB0 := HU.out pre.length
    gi_wp2
    obtain ⟨fn, tmps, assign, body, hy, hR⟩ := HY.out pre _ wr hJr.out rfl
    rw [hy]
    refine ⟨fun h => (by simp [Fence.wide] at h), RoundIn.mono hR ?_⟩
    clear hR hy c0
    rintro e w1 (⟨rfl, hJ1, hk1⟩ | ⟨rfl, hJ1, hk1⟩)
    · have hS1 : Stp w1 v bv bx bn (itW ts pre.length) := hSr.out.keep fun k hk hs => hk1.2 k hk (by rcases hs with h | h | h; exact .inl h; exact .inr (.inl h); exact .inr (.inr (.inl h)))
      have h1 : Sx tc w1 v ts := hXr.out.keep hk1.1 fun g hg hl => hk1.2 g hl (.inr (.inr (.inr hg)))
      have c0 := hS1.n0.cell 0 rfl
      have HN := Lib.hid (next_any hS1 h1 hk hne (by have := HP.out; omega))
      have HS1 := Lib.hid hS1
      have HJ1 := Lib.hid hJ1
      have H1 := Lib.hid h1
      clear hS1 h1 hJ1 hk1
      gi_wp2
      refine ⟨trivial, fun h => (by simp [Fence.wide] at h), (callsIn_wide.2 HN.out).mono ?_⟩
      rintro e w2 ⟨rfl, hS2, hT⟩
      have HJ2 : Hid (J (pre ++ [itW ts pre.length]) w2) := HJ.out _ _ _ HJ1.out hT
      have HX2 : Hid (Sx tc w2 v ts) := H1.out.turn hT (fun g hg _ e => hv (by rw [hg, e]))
      have HS2 : Hid (Stp w2 v bv bx bn (itW ts (pre.length + 1))) := hS2
      clear hS2 hT HN HS1 HJ1 H1 c0
      by_cases hxx : ((workF ts (itW ts pre.length) : Nat) : Int) = (itW ts pre.length : Int)
      · have hd : (((workF ts (itW ts pre.length) : Nat) : Int) != (itW ts pre.length : Int)) = false := by simp [hxx]
        gi_wp2
        simp only [Exit.noGoto]
        go_end0
        exact ⟨⟨_, rfl⟩, .inl ⟨_, by simp, HJ2.out⟩⟩
      · have hd : (((workF ts (itW ts pre.length) : Nat) : Int) != (itW ts pre.length : Int)) = true := by simpa using hxx
        gi_wp2
        go_roundw
        case rel => exact ⟨pre ++ [itW ts pre.length], HJ2, (by show Stp _ _ _ _ _ _; rw [List.length_append]; exact HS2.out), HX2⟩
        case measure =>
          have e1 : cellN wr bx = itW ts pre.length := by unfold cellN; rw [hSr.out.x0.cell 0 rfl]; simp
          have e2 : cellN w2 bx = itW ts (pre.length + 1) := by unfold cellN; rw [HS2.out.x0.cell 0 rfl]; simp
          have h3 := HU.out (pre.length + 1)
          have h4 : itW ts (pre.length + 1) = workF ts (itW ts pre.length) := rfl
          show loadP ts - cellN w2 bx < loadP ts - cellN wr bx
          rw [e1, e2]
          omega
    · gi_wp2
      simp only [Exit.noGoto]
      go_end0
      exact ⟨⟨_, rfl⟩, .inr ⟨_, trivial, hJ1⟩⟩
end Go.Proofs.YtoichcickcgbgaaGreatDoor
namespace Go.Proofs.YtoichcickcgbgaaGreatDoor
open Go.RowKit
attribute [local go_sem] Oper.semAt_some
/-- What Length tells. -/
def LenOk (ts : List Tk) (E : Nat) (er : Int) : Prop := E ≤ 100 ∧ (ts = [] → E = 0 ∧ er = 0) ∧ (∀ a, ts = [a] → E = a.cn ∧ er = 0)
/-- The last of some works. -/
def lastW (ts : List Tk) : Nat → Nat
  | 0 => 0
  | n + 1 => itW ts n
set_option maxRecDepth 100000 in
set_option maxHeartbeats 1000000 in
theorem length_any {w : World} {v : Value} {ts : List Tk} (h : Sx tc w v ts) (hk : Tks ts) :
    Calls Tryz.prog 225 #[v] w fun e w' => ∃ (E : Nat) (er : Int), e = .returned (.tuple #[.int .i64 E, .int .i64 er]) ∧ LenOk ts E er ∧ Below w.heap.size w w' := by
  have HR := Lib.hid (right_tks h hk)
  have HX := Lib.hid h
  clear h
  obtain ⟨oa, cap, hv, -, -⟩ := HX.out
  subst hv
  refine (callsIn_wide (n := 3)).1 ?_
  refine callsIn_of_wp_marks Tryz.func225 rfl trivial ?_ rfl
  simp only [Tryz.ntmps225, List.size_toArray, List.length_cons, List.length_nil, Nat.reduceAdd, Nat.reduceSub, Array.replicate_succ, Array.replicate_zero, List.push_toArray, List.append_toArray, List.nil_append, List.cons_append]
  refine wpIn_wide.2 ?_
  go_wp2_with fail
  refine HR.out.mono ?_
  rintro e w0 ⟨rfl, b0⟩
  have HX0 := Lib.hid (HX.out.below b0)
  have HB0 := Lib.hid b0
  clear b0 HR
  by_cases hl : loadP ts < loadN ts
  · simp only [hl, if_true]
    go_wp2_with fail
    refine ⟨.tuple #[.int .i64 (0 : Nat), .int .i64 17], by simp [results, Tryz.results225, go_sem], 0, 17, rfl, ⟨by omega, fun e => ?_, fun a e => ?_⟩, HB0.out⟩
    · subst e
      exact absurd hl (by decide)
    · subst e
      exact absurd (load_one hk) (by omega)
  · simp only [hl, if_false]
    by_cases hne : ts = []
    · subst hne
      go_wp2_with fail
      refine ⟨.tuple #[.int .i64 (0 : Nat), .int .i64 0], by simp [results, Tryz.results225, go_sem], 0, 0, rfl, ⟨by omega, fun e => ⟨rfl, rfl⟩, fun a e => by cases e⟩, HB0.out⟩
    · have hlen : (((ts.length : Nat) : Int) == 0) = false := by
        have : ts.length ≠ 0 := fun e => hne (List.eq_nil_of_length_eq_zero e)
        simp; omega
      have hgo : ∀ g, Value.ownBlock (.slice oa ts.length cap) = some g → g < w0.heap.size := by
        obtain ⟨oa', cap', e1, -, h2⟩ := HX0.out
        obtain ⟨g, rfl, hg, -⟩ := h2 hne
        cases e1
        intro k e
        have : g = k := by simpa [Value.ownBlock] using e
        omega
      have hw0 := HB0.out.size
      have HE := Lib.hid (Bx.new w0 [.int .i64 0] 2)
      have HXA := Lib.hid (HX0.out.below ((Below.refl w0.heap.size w0).alloc (Nat.le_refl _) (.cells #[.int .i64 0] 2)))
      have HBA := Lib.hid (HB0.out.alloc HB0.out.size (.cells #[.int .i64 0] 2))
      have hsA : (w0.alloc (.cells #[.int .i64 0] 2)).heap.size = w0.heap.size + 1 := World.size_alloc _ _
      have hsA2 : w0.heap.size < (w0.alloc (.cells #[.int .i64 0] 2)).heap.size := by omega
      go_wp2_with fail
      refine (steps_any HXA.out hk hne).mono ?_
      rintro e w1 ⟨bn, rfl, hb1, hbn, hS1⟩
      have HEA : Hid (Bx w1 w0.heap.size 2 [.int .i64 0]) := HE.out.below hb1
      clear hsA
      generalize (w0.alloc (.cells #[.int .i64 0] 2)) = wA at *
      have HX1 := Lib.hid (HXA.out.below hb1)
      have HB1 := Lib.hid (HBA.out.trans (hb1.mono HBA.out.size))
      have HS1 := Lib.hid hS1
      have hsz1 := hb1.size
      have HU := Lib.hid (itW_up hk hne (by omega))
      have HP := Lib.hid (loadP_le hk)
      have hown : Value.ownBlock (.slice oa ts.length cap) ≠ some (wA.heap.size + 1) := fun e => by
        have := hgo _ e
        omega
      have HSEQ := Lib.hid (seq_steps 2 hS1 HX1.out hk hne (by omega) hown)
      clear hb1 hS1 HE HX0 HB0 HXA HBA HX
      go_wp2_with fail
      refine (wpIn_wide (n := 3)).1 ?_
      refine range_law (gf := 251) (lb := #[.pointer (some ⟨wA.heap.size + 1, 0, none⟩), .pointer (some ⟨bn, 0, none⟩)]) rfl (enters_of Tryz.func251 (by kernel_rfl) rfl) (fun _ => rfl)
        HSEQ.out ⟨Nat.le_refl _, fun _ _ _ => rfl⟩ (fun k hk => by subst hk; exact HS1.out.x0.lt) (fun h k => h.trans k)
        ?hKb (fun xs A B h t => h) (fun _ _ _ h _ => h)
        (fun pre W => Bx W w0.heap.size 2 [.int .i64 (lastW ts pre.length)] ∧ Below w.heap.size w W) (fun _ _ _ => False)
        ?hI (fun _ _ _ _ h _ => h) ⟨HEA.out, HB1.out⟩
        (fun x => { tmps := #[.slice oa ts.length cap, undef, .int .i64 0, .int .i64 0, .int .i64 0, .pointer (some ⟨w0.heap.size, 0, none⟩), .int .i64 x, .slice oa ts.length cap, .int .i64 0, .int .i64 0, .bool false, .bool false, .slice oa ts.length cap, .int .i64 ts.length, .bool false, .bool false, undef, .slice oa ts.length cap, .func (.func 251) #[] #[.pointer (some ⟨wA.heap.size + 1, 0, none⟩), .pointer (some ⟨bn, 0, none⟩)], .int .i64 x, undef, undef], defers := [] }) ?assign ?body ?done ?stop
      case assign =>
        intro l x W K hK
        gi_wp2
        exact hK
      case stop =>
        rintro c pre W _ h _
        exact h.elim
      case hKb =>
        intro A B _ t
        refine ⟨t.size, fun k hk hs => t.block k hk ?_⟩
        have h1 := HS1.out.v0.lt
        have h2 := HS1.out.x0.lt
        have h3 := HS1.out.n0.lt
        rcases hs with rfl | rfl | rfl | hs
        · omega
        · omega
        · omega
        · have := hgo _ hs
          omega
      case hI =>
        intro xs A B h t
        refine ⟨h.1.turn t (by omega), Turn.to h.2 t h.2.size (fun k hk => ?_)⟩
        have := HB1.out.size
        omega
      case body =>
        rintro l pre x W ⟨hE, hB⟩ hx hsW hnc
        have c0 := hE.cell 0 rfl
        have f0 := hE.free 0
        subst hx
        have HE := Lib.hid hE
        have HB := Lib.hid hB
        clear hE hB hnc
        gi_wp2
        refine ⟨⟨heap_setCell_other _ _ _ _ (show w1.heap.size ≠ w0.heap.size by omega), heap_setCell_other _ _ _ _ (show w1.heap.size + 1 ≠ w0.heap.size by omega)⟩, ⟨by simp [World.setCell], fun k hk hs => heap_setCell_other _ _ _ _ (show k ≠ w0.heap.size from ?_)⟩, ?_, bset HB.out HB.out.size _ _ _ hw0⟩
        · have h3 := HS1.out.n0.lt
          rcases hs with rfl | rfl | rfl | hs
          · omega
          · omega
          · omega
          · have := hgo _ hs
            omega
        · have := Bx.set HE.out 0 (.int .i64 (itW ts pre.length)) _ rfl
          rw [List.length_append]
          exact this
      case done =>
        rintro xs W hxs ⟨hE, hB⟩ hK
        obtain ⟨n, hn⟩ : ∃ n, xs.length = n + 1 := ⟨xs.length - 1, by have : xs.length ≠ 0 := fun e => hxs (List.eq_nil_of_length_eq_zero e); omega⟩
        rw [hn] at hE
        have c0 := hE.cell 0 rfl
        go_wp2_with fail
        have hw1 := (Array.getElem?_eq_some_iff.1 hK).1
        have hu := HU.out n
        have hp := HP.out
        refine ⟨by simp, .inl ⟨_, _, rfl, run_takeDeferred hK, ?_⟩⟩
        refine ⟨.tuple #[.int .i64 (lastW ts (n + 1)), .int .i64 0], by simp [results, Tryz.results225, go_sem], _, _, rfl, ⟨by show itW ts n ≤ 100; omega, fun e => absurd e hne, fun a e => ⟨?_, rfl⟩⟩, ?_⟩
        · subst e
          exact itW_one hk n
        · exact Turn.to hB (shut_turn (S := fun k => k = w1.heap.size) W w1.heap.size _ rfl) hB.size (fun k e => by have := HB1.out.size; omega)
end Go.Proofs.YtoichcickcgbgaaGreatDoor
