/-
  A table that may be.
-/
import Derived.Test.YtoichcickcgbgaaGreatDoorGFrTy
namespace Go.Proofs.YtoichcickcgbgaaGreatDoor
open Go.RowKit
attribute [local go_sem] Oper.semAt_some
theorem Sx.one {α : Type} {f : α → List Value} {w : World} {v : Value} {a : α} (h : Sx f w v [a]) : ∃ g cap, v = .slice (some ⟨g, 0, none⟩) 1 cap ∧ g < w.heap.size ∧ 1 ≤ cap ∧ w.rangeAt g 0 (f a) := by
  obtain ⟨oa, cap, rfl, _, h⟩ := h
  obtain ⟨g, rfl, hg, hc, hr⟩ := h (by simp)
  exact ⟨g, cap, rfl, hg, hc, by simpa using hr⟩
theorem Sx.two {α : Type} {f : α → List Value} {w : World} {v : Value} {a b : α} (h : Sx f w v [a, b]) : ∃ g cap, v = .slice (some ⟨g, 0, none⟩) 2 cap ∧ g < w.heap.size ∧ 2 ≤ cap ∧ w.rangeAt g 0 (f a ++ f b) := by
  obtain ⟨oa, cap, rfl, _, h⟩ := h
  obtain ⟨g, rfl, hg, hc, hr⟩ := h (by simp)
  exact ⟨g, cap, rfl, hg, hc, by simpa using hr⟩
theorem Sx.none {α : Type} {f : α → List Value} {w : World} {v : Value} (h : Sx f w v []) : ∃ oa cap, v = .slice oa 0 cap ∧ (oa = none ∨ ∃ g, oa = some ⟨g, 0, none⟩) := by
  obtain ⟨oa, cap, rfl, ha, h⟩ := h
  exact ⟨oa, cap, rfl, ha⟩
set_option maxRecDepth 100000 in
theorem tchk_0 (w : World) (oa : Option Addr) (cap : Nat) :
    Calls Tryz.prog 34 #[.agg #[.slice oa 0 cap, .int .i64 0]] w fun e w' => e = .returned (.bool true) ∧ Below w.heap.size w w' := by
  go_enter Tryz.func34, Tryz.ntmps34
  go_wp2_with fail
  refine wp_loop_rounds 1 ?_
  rw [rounds_succ]
  go_wp2_with fail
  go_ret
  exact ⟨rfl, (Below.refl _ _).alloc (Nat.le_refl _) _⟩
set_option maxRecDepth 100000 in
set_option maxHeartbeats 4000000 in
theorem tchk_1f {w : World} {g cap : Nat} {a : Rk} (hg : g < w.heap.size) (hr : w.rangeAt g 0 (rc a)) (hs_a : a.s = false) (hk_a : a.k.ok) (he_a : a.s = true → a.k.d = a.k.t) :
    Calls Tryz.prog 34 #[.agg #[.slice (some ⟨g, 0, none⟩) 1 cap, .int .i64 0]] w fun e w' => e = .returned (.bool true) ∧ Below w.heap.size w w' := by
  have hq_a := Lib.hid he_a
  clear he_a
  have B0 := Lib.hid ((Below.refl w.heap.size w).alloc (Nat.le_refl _) (.cells #[.slice (some ⟨g, 0, none⟩) 1 cap, .int .i64 0] 79))
  have T0 := Lib.hid (Bx.new w [.slice (some ⟨g, 0, none⟩) 1 cap, .int .i64 0] 79)
  have R0 := Lib.hid (rangeAt_block hr (((Below.refl w.heap.size w).alloc (Nat.le_refl _) (.cells #[.slice (some ⟨g, 0, none⟩) 1 cap, .int .i64 0] 79)).block g hg))
  have hg0 : g < (w.alloc (.cells #[.slice (some ⟨g, 0, none⟩) 1 cap, .int .i64 0] 79)).heap.size := by rw [World.size_alloc]; omega
  clear hr
  go_enter Tryz.func34, Tryz.ntmps34
  go_wp2_with fail
  generalize w.alloc (.cells #[.slice (some ⟨g, 0, none⟩) 1 cap, .int .i64 0] 79) = w0 at *
  refine wp_loop_rounds 2 ?_
  rw [rounds_succ]
  have q0 := R0.out 0 _ rfl
  have q1 := R0.out 1 _ rfl
  have q2 := R0.out 2 _ rfl
  have q3 := R0.out 3 _ rfl
  have q4 := R0.out 4 _ rfl
  have q5 := R0.out 5 _ rfl
  simp only [Nat.zero_add, hs_a] at q0 q1 q2 q3 q4 q5
  have hgn : g ≠ w0.heap.size := by omega
  go_wp2_with fail
  clear q0 q1 q2 q3 q4 q5
  have A0 := Lib.hid (Bx.new w0 [.int .i64 a.k.id, .int .i64 a.k.c, .int .i64 a.k.d, .int .i64 a.k.t, .int .i64 a.k.m, .bool false] 37)
  have bb := (Below.refl w0.heap.size w0).alloc (Nat.le_refl _) (.cells #[.int .i64 a.k.id, .int .i64 a.k.c, .int .i64 a.k.d, .int .i64 a.k.t, .int .i64 a.k.m, .bool false] 37)
  have BA0 := Lib.hid (B0.out.trans (bb.mono B0.out.size))
  have TA0 := Lib.hid (T0.out.below bb)
  have RA0 := Lib.hid (rangeAt_block R0.out (bb.block g hg0))
  have hgA0 : g < (w0.alloc (.cells #[.int .i64 a.k.id, .int .i64 a.k.c, .int .i64 a.k.d, .int .i64 a.k.t, .int .i64 a.k.m, .bool false] 37)).heap.size := Nat.lt_of_lt_of_le hg0 bb.size
  have sz0 := World.size_alloc w0 (.cells #[.int .i64 a.k.id, .int .i64 a.k.c, .int .i64 a.k.d, .int .i64 a.k.t, .int .i64 a.k.m, .bool false] 37)
  clear bb B0 R0
  generalize w0.alloc (.cells #[.int .i64 a.k.id, .int .i64 a.k.c, .int .i64 a.k.d, .int .i64 a.k.t, .int .i64 a.k.m, .bool false] 37) = u0 at *
  have KC : Hid (∀ x, Hid (Below u0.heap.size u0 x) → (x.cell? ⟨w0.heap.size, 0, none⟩ = some (.int .i64 a.k.id) ∧ x.cell? ⟨w0.heap.size, 1, none⟩ = some (.int .i64 a.k.c) ∧ x.cell? ⟨w0.heap.size, 2, none⟩ = some (.int .i64 a.k.d) ∧ x.cell? ⟨w0.heap.size, 3, none⟩ = some (.int .i64 a.k.t) ∧ x.cell? ⟨w0.heap.size, 4, none⟩ = some (.int .i64 a.k.m) ∧ x.cell? ⟨w0.heap.size, 5, none⟩ = some (.bool false) ∧ x.cell? ⟨w.heap.size, 0, none⟩ = some (.slice (some ⟨g, 0, none⟩) 1 cap) ∧ x.cell? ⟨g, 0, none⟩ = some (.int .i64 a.k.id))) := fun x h => ⟨(A0.out.bl h).cell 0 rfl, (A0.out.bl h).cell 1 rfl, (A0.out.bl h).cell 2 rfl, (A0.out.bl h).cell 3 rfl, (A0.out.bl h).cell 4 rfl, (A0.out.bl h).cell 5 rfl, (TA0.out.bl h).cell 0 rfl, (by have := (rangeAt_block RA0.out (h.out.block g hgA0)) 0 _ rfl; simpa using this)⟩
  refine wp_region_held_drew (S := fun x => (x.cell? ⟨w0.heap.size, 0, none⟩ = some (.int .i64 a.k.id) ∧ x.cell? ⟨w0.heap.size, 1, none⟩ = some (.int .i64 a.k.c) ∧ x.cell? ⟨w0.heap.size, 2, none⟩ = some (.int .i64 a.k.d) ∧ x.cell? ⟨w0.heap.size, 3, none⟩ = some (.int .i64 a.k.t) ∧ x.cell? ⟨w0.heap.size, 4, none⟩ = some (.int .i64 a.k.m) ∧ x.cell? ⟨w0.heap.size, 5, none⟩ = some (.bool false) ∧ x.cell? ⟨w.heap.size, 0, none⟩ = some (.slice (some ⟨g, 0, none⟩) 1 cap) ∧ x.cell? ⟨g, 0, none⟩ = some (.int .i64 a.k.id)) ∧ Hid (Below u0.heap.size u0 x)) (by kernel_rfl) (skeep KC (bl_drew (bl0 _))) (fun hHeld => ?_)
  refine wtk 0 13 (.pointer (some ⟨w0.heap.size, 0, none⟩)) rfl (by kernel_rfl) (fun _ _ _ h => h) (by rfl) (fun x hSw => by obtain ⟨⟨d0, d1, d2, d3, d4, d5, d6, d7⟩, _⟩ := id hSw; (go_simp) <;> first | decide | exact IntWalk.i64_in _ (by omega) | simp [hq_a.out] | (simp; omega)) (by assumption) ?_
  try simp only [Act.put, pw]
  refine wtk 1 14 (.agg #[.int .i64 a.k.id, .int .i64 a.k.c, .int .i64 a.k.d, .int .i64 a.k.t, .int .i64 a.k.m]) rfl (by kernel_rfl) (fun _ _ _ h => h) (by rfl) (fun x hSw => by obtain ⟨⟨d0, d1, d2, d3, d4, d5, d6, d7⟩, _⟩ := id hSw; (go_simp) <;> first | decide | exact IntWalk.i64_in _ (by omega) | simp [hq_a.out] | (simp; omega)) (by assumption) ?_
  try simp only [Act.put, pw]
  refine wpAnyH_ready (rs := [2]) (by kernel_rfl) (by simp) (AllReadyH.cons rfl (fun K hK => ?_) AllReadyH.nil)
  go_simp
  refine (chk_any (x := a.k) (hk_a) _).mono ?_
  rintro e w1 ⟨rfl, hb⟩
  have HB := bl_below (bl_drew (bl0 _)) hb
  refine hK.out _ _ (skeep KC HB) (fun hHeld => ?_)
  clear hK K
  clear hb
  try simp only [Act.put, pw]
  refine wtk 3 16 (.bool false) rfl (by kernel_rfl) (fun _ _ _ h => h) (by rfl) (fun x hSw => by obtain ⟨⟨d0, d1, d2, d3, d4, d5, d6, d7⟩, _⟩ := id hSw; (go_simp) <;> first | decide | exact IntWalk.i64_in _ (by omega) | simp [hq_a.out] | (simp; omega)) (by assumption) ?_
  try simp only [Act.put, pw]
  refine wtk 4 17 (.bool false) rfl (by kernel_rfl) (fun _ _ _ h => h) (by rfl) (fun x hSw => by obtain ⟨⟨d0, d1, d2, d3, d4, d5, d6, d7⟩, _⟩ := id hSw; (go_simp) <;> first | decide | exact IntWalk.i64_in _ (by omega) | simp [hq_a.out] | (simp; omega)) (by assumption) ?_
  try simp only [Act.put, pw]
  refine wtk 5 18 (.pointer (some ⟨w0.heap.size, 5, none⟩)) rfl (by kernel_rfl) (fun _ _ _ h => h) (by rfl) (fun x hSw => by obtain ⟨⟨d0, d1, d2, d3, d4, d5, d6, d7⟩, _⟩ := id hSw; (go_simp) <;> first | decide | exact IntWalk.i64_in _ (by omega) | simp [hq_a.out] | (simp; omega)) (by assumption) ?_
  try simp only [Act.put, pw]
  refine wtk 6 19 (.bool false) rfl (by kernel_rfl) (fun _ _ _ h => h) (by rfl) (fun x hSw => by obtain ⟨⟨d0, d1, d2, d3, d4, d5, d6, d7⟩, _⟩ := id hSw; (go_simp) <;> first | decide | exact IntWalk.i64_in _ (by omega) | simp [hq_a.out] | (simp; omega)) (by assumption) ?_
  try simp only [Act.put, pw]
  refine wtk 7 20 (.bool false) rfl (by kernel_rfl) (fun _ _ _ h => h) (by rfl) (fun x hSw => by obtain ⟨⟨d0, d1, d2, d3, d4, d5, d6, d7⟩, _⟩ := id hSw; (go_simp) <;> first | decide | exact IntWalk.i64_in _ (by omega) | simp [hq_a.out] | (simp; omega)) (by assumption) ?_
  try simp only [Act.put, pw]
  refine wtu 8 21 rfl (by kernel_rfl) (fun _ _ _ h => h) (by rfl) (by assumption) ?_
  try simp only [Act.put, pw]
  refine wtu 9 22 rfl (by kernel_rfl) (fun _ _ _ h => h) (by rfl) (by assumption) ?_
  try simp only [Act.put, pw]
  refine wtu 10 23 rfl (by kernel_rfl) (fun _ _ _ h => h) (by rfl) (by assumption) ?_
  try simp only [Act.put, pw]
  refine wtu 11 24 rfl (by kernel_rfl) (fun _ _ _ h => h) (by rfl) (by assumption) ?_
  try simp only [Act.put, pw]
  refine wtu 12 25 rfl (by kernel_rfl) (fun _ _ _ h => h) (by rfl) (by assumption) ?_
  try simp only [Act.put, pw]
  refine wtu 13 26 rfl (by kernel_rfl) (fun _ _ _ h => h) (by rfl) (by assumption) ?_
  try simp only [Act.put, pw]
  refine wtu 14 27 rfl (by kernel_rfl) (fun _ _ _ h => h) (by rfl) (by assumption) ?_
  try simp only [Act.put, pw]
  refine wtk 15 28 (.bool false) rfl (by kernel_rfl) (fun _ _ _ h => h) (by rfl) (fun x hSw => by obtain ⟨⟨d0, d1, d2, d3, d4, d5, d6, d7⟩, _⟩ := id hSw; (go_simp) <;> first | decide | exact IntWalk.i64_in _ (by omega) | simp [hq_a.out] | (simp; omega)) (by assumption) ?_
  try simp only [Act.put, pw]
  refine wtk 16 29 (.bool false) rfl (by kernel_rfl) (fun _ _ _ h => h) (by rfl) (fun x hSw => by obtain ⟨⟨d0, d1, d2, d3, d4, d5, d6, d7⟩, _⟩ := id hSw; (go_simp) <;> first | decide | exact IntWalk.i64_in _ (by omega) | simp [hq_a.out] | (simp; omega)) (by assumption) ?_
  try simp only [Act.put, pw]
  refine wtk 17 30 (.bool false) rfl (by kernel_rfl) (fun _ _ _ h => h) (by rfl) (fun x hSw => by obtain ⟨⟨d0, d1, d2, d3, d4, d5, d6, d7⟩, _⟩ := id hSw; (go_simp) <;> first | decide | exact IntWalk.i64_in _ (by omega) | simp [hq_a.out] | (simp; omega)) (by assumption) ?_
  try simp only [Act.put, pw]
  refine wtk 18 31 (.int .i64 0) rfl (by kernel_rfl) (fun _ _ _ h => h) (by rfl) (fun x hSw => by obtain ⟨⟨d0, d1, d2, d3, d4, d5, d6, d7⟩, _⟩ := id hSw; (go_simp) <;> first | decide | exact IntWalk.i64_in _ (by omega) | simp [hq_a.out] | (simp; omega)) (by assumption) ?_
  try simp only [Act.put, pw]
  refine wtk 19 32 (.bool false) rfl (by kernel_rfl) (fun _ _ _ h => h) (by rfl) (fun x hSw => by obtain ⟨⟨d0, d1, d2, d3, d4, d5, d6, d7⟩, _⟩ := id hSw; (go_simp) <;> first | decide | exact IntWalk.i64_in _ (by omega) | simp [hq_a.out] | (simp; omega)) (by assumption) ?_
  try simp only [Act.put, pw]
  refine wtk 20 33 (.bool false) rfl (by kernel_rfl) (fun _ _ _ h => h) (by rfl) (fun x hSw => by obtain ⟨⟨d0, d1, d2, d3, d4, d5, d6, d7⟩, _⟩ := id hSw; (go_simp) <;> first | decide | exact IntWalk.i64_in _ (by omega) | simp [hq_a.out] | (simp; omega)) (by assumption) ?_
  try simp only [Act.put, pw]
  refine wtu 21 34 rfl (by kernel_rfl) (fun _ _ _ h => h) (by rfl) (by assumption) ?_
  try simp only [Act.put, pw]
  refine wtu 22 35 rfl (by kernel_rfl) (fun _ _ _ h => h) (by rfl) (by assumption) ?_
  try simp only [Act.put, pw]
  refine wtu 23 36 rfl (by kernel_rfl) (fun _ _ _ h => h) (by rfl) (by assumption) ?_
  try simp only [Act.put, pw]
  refine wtu 24 37 rfl (by kernel_rfl) (fun _ _ _ h => h) (by rfl) (by assumption) ?_
  try simp only [Act.put, pw]
  refine wtu 25 38 rfl (by kernel_rfl) (fun _ _ _ h => h) (by rfl) (by assumption) ?_
  try simp only [Act.put, pw]
  refine wtu 26 39 rfl (by kernel_rfl) (fun _ _ _ h => h) (by rfl) (by assumption) ?_
  try simp only [Act.put, pw]
  refine wtu 27 40 rfl (by kernel_rfl) (fun _ _ _ h => h) (by rfl) (by assumption) ?_
  try simp only [Act.put, pw]
  refine wtu 28 41 rfl (by kernel_rfl) (fun _ _ _ h => h) (by rfl) (by assumption) ?_
  try simp only [Act.put, pw]
  refine wtu 29 42 rfl (by kernel_rfl) (fun _ _ _ h => h) (by rfl) (by assumption) ?_
  try simp only [Act.put, pw]
  refine wtu 30 43 rfl (by kernel_rfl) (fun _ _ _ h => h) (by rfl) (by assumption) ?_
  try simp only [Act.put, pw]
  refine wtu 31 44 rfl (by kernel_rfl) (fun _ _ _ h => h) (by rfl) (by assumption) ?_
  try simp only [Act.put, pw]
  refine wtu 32 45 rfl (by kernel_rfl) (fun _ _ _ h => h) (by rfl) (by assumption) ?_
  try simp only [Act.put, pw]
  refine wtk 33 46 (.bool false) rfl (by kernel_rfl) (fun _ _ _ h => h) (by rfl) (fun x hSw => by obtain ⟨⟨d0, d1, d2, d3, d4, d5, d6, d7⟩, _⟩ := id hSw; (go_simp) <;> first | decide | exact IntWalk.i64_in _ (by omega) | simp [hq_a.out] | (simp; omega)) (by assumption) ?_
  try simp only [Act.put, pw]
  refine wtk 34 47 (.bool false) rfl (by kernel_rfl) (fun _ _ _ h => h) (by rfl) (fun x hSw => by obtain ⟨⟨d0, d1, d2, d3, d4, d5, d6, d7⟩, _⟩ := id hSw; (go_simp) <;> first | decide | exact IntWalk.i64_in _ (by omega) | simp [hq_a.out] | (simp; omega)) (by assumption) ?_
  try simp only [Act.put, pw]
  refine wpAnyH_done (by kernel_rfl) ?_ _
  clear hHeld KC
  have hb := HB.out
  have B1 := Lib.hid (BA0.out.trans (hb.mono BA0.out.size))
  have T1 := Lib.hid (TA0.out.below hb)
  have R1 := Lib.hid (rangeAt_block RA0.out (hb.block g hgA0))
  have hg1 := Nat.lt_of_lt_of_le hgA0 hb.size
  clear hb BA0 TA0 RA0 A0 HB
  go_wp2_with fail
  rw [rounds_succ]
  have t0 := T1.out.cell 0 rfl
  have t1 := T1.out.cell 1 rfl
  go_wp2_with fail
  go_ret
  exact ⟨rfl, B1.out⟩
set_option maxRecDepth 100000 in
set_option maxHeartbeats 4000000 in
theorem tchk_1t {w : World} {g cap : Nat} {a : Rk} (hg : g < w.heap.size) (hr : w.rangeAt g 0 (rc a)) (hs_a : a.s = true) (hk_a : a.k.ok) (he_a : a.s = true → a.k.d = a.k.t) :
    Calls Tryz.prog 34 #[.agg #[.slice (some ⟨g, 0, none⟩) 1 cap, .int .i64 0]] w fun e w' => e = .returned (.bool true) ∧ Below w.heap.size w w' := by
  have hq_a := Lib.hid (he_a hs_a)
  clear he_a
  have B0 := Lib.hid ((Below.refl w.heap.size w).alloc (Nat.le_refl _) (.cells #[.slice (some ⟨g, 0, none⟩) 1 cap, .int .i64 0] 79))
  have T0 := Lib.hid (Bx.new w [.slice (some ⟨g, 0, none⟩) 1 cap, .int .i64 0] 79)
  have R0 := Lib.hid (rangeAt_block hr (((Below.refl w.heap.size w).alloc (Nat.le_refl _) (.cells #[.slice (some ⟨g, 0, none⟩) 1 cap, .int .i64 0] 79)).block g hg))
  have hg0 : g < (w.alloc (.cells #[.slice (some ⟨g, 0, none⟩) 1 cap, .int .i64 0] 79)).heap.size := by rw [World.size_alloc]; omega
  clear hr
  go_enter Tryz.func34, Tryz.ntmps34
  go_wp2_with fail
  generalize w.alloc (.cells #[.slice (some ⟨g, 0, none⟩) 1 cap, .int .i64 0] 79) = w0 at *
  refine wp_loop_rounds 2 ?_
  rw [rounds_succ]
  have q0 := R0.out 0 _ rfl
  have q1 := R0.out 1 _ rfl
  have q2 := R0.out 2 _ rfl
  have q3 := R0.out 3 _ rfl
  have q4 := R0.out 4 _ rfl
  have q5 := R0.out 5 _ rfl
  simp only [Nat.zero_add, hs_a] at q0 q1 q2 q3 q4 q5
  have hgn : g ≠ w0.heap.size := by omega
  go_wp2_with fail
  clear q0 q1 q2 q3 q4 q5
  have A0 := Lib.hid (Bx.new w0 [.int .i64 a.k.id, .int .i64 a.k.c, .int .i64 a.k.d, .int .i64 a.k.t, .int .i64 a.k.m, .bool true] 37)
  have bb := (Below.refl w0.heap.size w0).alloc (Nat.le_refl _) (.cells #[.int .i64 a.k.id, .int .i64 a.k.c, .int .i64 a.k.d, .int .i64 a.k.t, .int .i64 a.k.m, .bool true] 37)
  have BA0 := Lib.hid (B0.out.trans (bb.mono B0.out.size))
  have TA0 := Lib.hid (T0.out.below bb)
  have RA0 := Lib.hid (rangeAt_block R0.out (bb.block g hg0))
  have hgA0 : g < (w0.alloc (.cells #[.int .i64 a.k.id, .int .i64 a.k.c, .int .i64 a.k.d, .int .i64 a.k.t, .int .i64 a.k.m, .bool true] 37)).heap.size := Nat.lt_of_lt_of_le hg0 bb.size
  have sz0 := World.size_alloc w0 (.cells #[.int .i64 a.k.id, .int .i64 a.k.c, .int .i64 a.k.d, .int .i64 a.k.t, .int .i64 a.k.m, .bool true] 37)
  clear bb B0 R0
  generalize w0.alloc (.cells #[.int .i64 a.k.id, .int .i64 a.k.c, .int .i64 a.k.d, .int .i64 a.k.t, .int .i64 a.k.m, .bool true] 37) = u0 at *
  have KC : Hid (∀ x, Hid (Below u0.heap.size u0 x) → (x.cell? ⟨w0.heap.size, 0, none⟩ = some (.int .i64 a.k.id) ∧ x.cell? ⟨w0.heap.size, 1, none⟩ = some (.int .i64 a.k.c) ∧ x.cell? ⟨w0.heap.size, 2, none⟩ = some (.int .i64 a.k.d) ∧ x.cell? ⟨w0.heap.size, 3, none⟩ = some (.int .i64 a.k.t) ∧ x.cell? ⟨w0.heap.size, 4, none⟩ = some (.int .i64 a.k.m) ∧ x.cell? ⟨w0.heap.size, 5, none⟩ = some (.bool true) ∧ x.cell? ⟨w.heap.size, 0, none⟩ = some (.slice (some ⟨g, 0, none⟩) 1 cap) ∧ x.cell? ⟨g, 0, none⟩ = some (.int .i64 a.k.id))) := fun x h => ⟨(A0.out.bl h).cell 0 rfl, (A0.out.bl h).cell 1 rfl, (A0.out.bl h).cell 2 rfl, (A0.out.bl h).cell 3 rfl, (A0.out.bl h).cell 4 rfl, (A0.out.bl h).cell 5 rfl, (TA0.out.bl h).cell 0 rfl, (by have := (rangeAt_block RA0.out (h.out.block g hgA0)) 0 _ rfl; simpa using this)⟩
  refine wp_region_held_drew (S := fun x => (x.cell? ⟨w0.heap.size, 0, none⟩ = some (.int .i64 a.k.id) ∧ x.cell? ⟨w0.heap.size, 1, none⟩ = some (.int .i64 a.k.c) ∧ x.cell? ⟨w0.heap.size, 2, none⟩ = some (.int .i64 a.k.d) ∧ x.cell? ⟨w0.heap.size, 3, none⟩ = some (.int .i64 a.k.t) ∧ x.cell? ⟨w0.heap.size, 4, none⟩ = some (.int .i64 a.k.m) ∧ x.cell? ⟨w0.heap.size, 5, none⟩ = some (.bool true) ∧ x.cell? ⟨w.heap.size, 0, none⟩ = some (.slice (some ⟨g, 0, none⟩) 1 cap) ∧ x.cell? ⟨g, 0, none⟩ = some (.int .i64 a.k.id)) ∧ Hid (Below u0.heap.size u0 x)) (by kernel_rfl) (skeep KC (bl_drew (bl0 _))) (fun hHeld => ?_)
  refine wtk 0 13 (.pointer (some ⟨w0.heap.size, 0, none⟩)) rfl (by kernel_rfl) (fun _ _ _ h => h) (by rfl) (fun x hSw => by obtain ⟨⟨d0, d1, d2, d3, d4, d5, d6, d7⟩, _⟩ := id hSw; (go_simp) <;> first | decide | exact IntWalk.i64_in _ (by omega) | simp [hq_a.out] | (simp; omega)) (by assumption) ?_
  try simp only [Act.put, pw]
  refine wtk 1 14 (.agg #[.int .i64 a.k.id, .int .i64 a.k.c, .int .i64 a.k.d, .int .i64 a.k.t, .int .i64 a.k.m]) rfl (by kernel_rfl) (fun _ _ _ h => h) (by rfl) (fun x hSw => by obtain ⟨⟨d0, d1, d2, d3, d4, d5, d6, d7⟩, _⟩ := id hSw; (go_simp) <;> first | decide | exact IntWalk.i64_in _ (by omega) | simp [hq_a.out] | (simp; omega)) (by assumption) ?_
  try simp only [Act.put, pw]
  refine wpAnyH_ready (rs := [2]) (by kernel_rfl) (by simp) (AllReadyH.cons rfl (fun K hK => ?_) AllReadyH.nil)
  go_simp
  refine (chk_any (x := a.k) (hk_a) _).mono ?_
  rintro e w1 ⟨rfl, hb⟩
  have HB := bl_below (bl_drew (bl0 _)) hb
  refine hK.out _ _ (skeep KC HB) (fun hHeld => ?_)
  clear hK K
  clear hb
  try simp only [Act.put, pw]
  refine wtk 3 16 (.bool false) rfl (by kernel_rfl) (fun _ _ _ h => h) (by rfl) (fun x hSw => by obtain ⟨⟨d0, d1, d2, d3, d4, d5, d6, d7⟩, _⟩ := id hSw; (go_simp) <;> first | decide | exact IntWalk.i64_in _ (by omega) | simp [hq_a.out] | (simp; omega)) (by assumption) ?_
  try simp only [Act.put, pw]
  refine wtk 4 17 (.bool false) rfl (by kernel_rfl) (fun _ _ _ h => h) (by rfl) (fun x hSw => by obtain ⟨⟨d0, d1, d2, d3, d4, d5, d6, d7⟩, _⟩ := id hSw; (go_simp) <;> first | decide | exact IntWalk.i64_in _ (by omega) | simp [hq_a.out] | (simp; omega)) (by assumption) ?_
  try simp only [Act.put, pw]
  refine wtk 5 18 (.pointer (some ⟨w0.heap.size, 5, none⟩)) rfl (by kernel_rfl) (fun _ _ _ h => h) (by rfl) (fun x hSw => by obtain ⟨⟨d0, d1, d2, d3, d4, d5, d6, d7⟩, _⟩ := id hSw; (go_simp) <;> first | decide | exact IntWalk.i64_in _ (by omega) | simp [hq_a.out] | (simp; omega)) (by assumption) ?_
  try simp only [Act.put, pw]
  refine wtk 6 19 (.bool true) rfl (by kernel_rfl) (fun _ _ _ h => h) (by rfl) (fun x hSw => by obtain ⟨⟨d0, d1, d2, d3, d4, d5, d6, d7⟩, _⟩ := id hSw; (go_simp) <;> first | decide | exact IntWalk.i64_in _ (by omega) | simp [hq_a.out] | (simp; omega)) (by assumption) ?_
  try simp only [Act.put, pw]
  refine wtk 7 20 (.bool true) rfl (by kernel_rfl) (fun _ _ _ h => h) (by rfl) (fun x hSw => by obtain ⟨⟨d0, d1, d2, d3, d4, d5, d6, d7⟩, _⟩ := id hSw; (go_simp) <;> first | decide | exact IntWalk.i64_in _ (by omega) | simp [hq_a.out] | (simp; omega)) (by assumption) ?_
  try simp only [Act.put, pw]
  refine wtk 8 21 (.pointer (some ⟨w0.heap.size, 0, none⟩)) rfl (by kernel_rfl) (fun _ _ _ h => h) (by rfl) (fun x hSw => by obtain ⟨⟨d0, d1, d2, d3, d4, d5, d6, d7⟩, _⟩ := id hSw; (go_simp) <;> first | decide | exact IntWalk.i64_in _ (by omega) | simp [hq_a.out] | (simp; omega)) (by assumption) ?_
  try simp only [Act.put, pw]
  refine wtk 9 22 (.pointer (some ⟨w0.heap.size, 2, none⟩)) rfl (by kernel_rfl) (fun _ _ _ h => h) (by rfl) (fun x hSw => by obtain ⟨⟨d0, d1, d2, d3, d4, d5, d6, d7⟩, _⟩ := id hSw; (go_simp) <;> first | decide | exact IntWalk.i64_in _ (by omega) | simp [hq_a.out] | (simp; omega)) (by assumption) ?_
  try simp only [Act.put, pw]
  refine wtk 10 23 (.int .i64 a.k.d) rfl (by kernel_rfl) (fun _ _ _ h => h) (by rfl) (fun x hSw => by obtain ⟨⟨d0, d1, d2, d3, d4, d5, d6, d7⟩, _⟩ := id hSw; (go_simp) <;> first | decide | exact IntWalk.i64_in _ (by omega) | simp [hq_a.out] | (simp; omega)) (by assumption) ?_
  try simp only [Act.put, pw]
  refine wtk 11 24 (.pointer (some ⟨w0.heap.size, 0, none⟩)) rfl (by kernel_rfl) (fun _ _ _ h => h) (by rfl) (fun x hSw => by obtain ⟨⟨d0, d1, d2, d3, d4, d5, d6, d7⟩, _⟩ := id hSw; (go_simp) <;> first | decide | exact IntWalk.i64_in _ (by omega) | simp [hq_a.out] | (simp; omega)) (by assumption) ?_
  try simp only [Act.put, pw]
  refine wtk 12 25 (.pointer (some ⟨w0.heap.size, 3, none⟩)) rfl (by kernel_rfl) (fun _ _ _ h => h) (by rfl) (fun x hSw => by obtain ⟨⟨d0, d1, d2, d3, d4, d5, d6, d7⟩, _⟩ := id hSw; (go_simp) <;> first | decide | exact IntWalk.i64_in _ (by omega) | simp [hq_a.out] | (simp; omega)) (by assumption) ?_
  try simp only [Act.put, pw]
  refine wtk 13 26 (.int .i64 a.k.t) rfl (by kernel_rfl) (fun _ _ _ h => h) (by rfl) (fun x hSw => by obtain ⟨⟨d0, d1, d2, d3, d4, d5, d6, d7⟩, _⟩ := id hSw; (go_simp) <;> first | decide | exact IntWalk.i64_in _ (by omega) | simp [hq_a.out] | (simp; omega)) (by assumption) ?_
  try simp only [Act.put, pw]
  refine wtk 14 27 (.bool false) rfl (by kernel_rfl) (fun _ _ _ h => h) (by rfl) (fun x hSw => by obtain ⟨⟨d0, d1, d2, d3, d4, d5, d6, d7⟩, _⟩ := id hSw; (go_simp) <;> first | decide | exact IntWalk.i64_in _ (by omega) | simp [hq_a.out] | (simp; omega)) (by assumption) ?_
  try simp only [Act.put, pw]
  refine wtk 15 28 (.bool false) rfl (by kernel_rfl) (fun _ _ _ h => h) (by rfl) (fun x hSw => by obtain ⟨⟨d0, d1, d2, d3, d4, d5, d6, d7⟩, _⟩ := id hSw; (go_simp) <;> first | decide | exact IntWalk.i64_in _ (by omega) | simp [hq_a.out] | (simp; omega)) (by assumption) ?_
  try simp only [Act.put, pw]
  refine wtk 16 29 (.bool false) rfl (by kernel_rfl) (fun _ _ _ h => h) (by rfl) (fun x hSw => by obtain ⟨⟨d0, d1, d2, d3, d4, d5, d6, d7⟩, _⟩ := id hSw; (go_simp) <;> first | decide | exact IntWalk.i64_in _ (by omega) | simp [hq_a.out] | (simp; omega)) (by assumption) ?_
  try simp only [Act.put, pw]
  refine wtk 17 30 (.bool false) rfl (by kernel_rfl) (fun _ _ _ h => h) (by rfl) (fun x hSw => by obtain ⟨⟨d0, d1, d2, d3, d4, d5, d6, d7⟩, _⟩ := id hSw; (go_simp) <;> first | decide | exact IntWalk.i64_in _ (by omega) | simp [hq_a.out] | (simp; omega)) (by assumption) ?_
  try simp only [Act.put, pw]
  refine wtk 18 31 (.int .i64 0) rfl (by kernel_rfl) (fun _ _ _ h => h) (by rfl) (fun x hSw => by obtain ⟨⟨d0, d1, d2, d3, d4, d5, d6, d7⟩, _⟩ := id hSw; (go_simp) <;> first | decide | exact IntWalk.i64_in _ (by omega) | simp [hq_a.out] | (simp; omega)) (by assumption) ?_
  try simp only [Act.put, pw]
  refine wtk 19 32 (.bool false) rfl (by kernel_rfl) (fun _ _ _ h => h) (by rfl) (fun x hSw => by obtain ⟨⟨d0, d1, d2, d3, d4, d5, d6, d7⟩, _⟩ := id hSw; (go_simp) <;> first | decide | exact IntWalk.i64_in _ (by omega) | simp [hq_a.out] | (simp; omega)) (by assumption) ?_
  try simp only [Act.put, pw]
  refine wtk 20 33 (.bool false) rfl (by kernel_rfl) (fun _ _ _ h => h) (by rfl) (fun x hSw => by obtain ⟨⟨d0, d1, d2, d3, d4, d5, d6, d7⟩, _⟩ := id hSw; (go_simp) <;> first | decide | exact IntWalk.i64_in _ (by omega) | simp [hq_a.out] | (simp; omega)) (by assumption) ?_
  try simp only [Act.put, pw]
  refine wtu 21 34 rfl (by kernel_rfl) (fun _ _ _ h => h) (by rfl) (by assumption) ?_
  try simp only [Act.put, pw]
  refine wtu 22 35 rfl (by kernel_rfl) (fun _ _ _ h => h) (by rfl) (by assumption) ?_
  try simp only [Act.put, pw]
  refine wtu 23 36 rfl (by kernel_rfl) (fun _ _ _ h => h) (by rfl) (by assumption) ?_
  try simp only [Act.put, pw]
  refine wtu 24 37 rfl (by kernel_rfl) (fun _ _ _ h => h) (by rfl) (by assumption) ?_
  try simp only [Act.put, pw]
  refine wtu 25 38 rfl (by kernel_rfl) (fun _ _ _ h => h) (by rfl) (by assumption) ?_
  try simp only [Act.put, pw]
  refine wtu 26 39 rfl (by kernel_rfl) (fun _ _ _ h => h) (by rfl) (by assumption) ?_
  try simp only [Act.put, pw]
  refine wtu 27 40 rfl (by kernel_rfl) (fun _ _ _ h => h) (by rfl) (by assumption) ?_
  try simp only [Act.put, pw]
  refine wtu 28 41 rfl (by kernel_rfl) (fun _ _ _ h => h) (by rfl) (by assumption) ?_
  try simp only [Act.put, pw]
  refine wtu 29 42 rfl (by kernel_rfl) (fun _ _ _ h => h) (by rfl) (by assumption) ?_
  try simp only [Act.put, pw]
  refine wtu 30 43 rfl (by kernel_rfl) (fun _ _ _ h => h) (by rfl) (by assumption) ?_
  try simp only [Act.put, pw]
  refine wtu 31 44 rfl (by kernel_rfl) (fun _ _ _ h => h) (by rfl) (by assumption) ?_
  try simp only [Act.put, pw]
  refine wtu 32 45 rfl (by kernel_rfl) (fun _ _ _ h => h) (by rfl) (by assumption) ?_
  try simp only [Act.put, pw]
  refine wtk 33 46 (.bool false) rfl (by kernel_rfl) (fun _ _ _ h => h) (by rfl) (fun x hSw => by obtain ⟨⟨d0, d1, d2, d3, d4, d5, d6, d7⟩, _⟩ := id hSw; (go_simp) <;> first | decide | exact IntWalk.i64_in _ (by omega) | simp [hq_a.out] | (simp; omega)) (by assumption) ?_
  try simp only [Act.put, pw]
  refine wtk 34 47 (.bool false) rfl (by kernel_rfl) (fun _ _ _ h => h) (by rfl) (fun x hSw => by obtain ⟨⟨d0, d1, d2, d3, d4, d5, d6, d7⟩, _⟩ := id hSw; (go_simp) <;> first | decide | exact IntWalk.i64_in _ (by omega) | simp [hq_a.out] | (simp; omega)) (by assumption) ?_
  try simp only [Act.put, pw]
  refine wpAnyH_done (by kernel_rfl) ?_ _
  clear hHeld KC
  have hb := HB.out
  have B1 := Lib.hid (BA0.out.trans (hb.mono BA0.out.size))
  have T1 := Lib.hid (TA0.out.below hb)
  have R1 := Lib.hid (rangeAt_block RA0.out (hb.block g hgA0))
  have hg1 := Nat.lt_of_lt_of_le hgA0 hb.size
  clear hb BA0 TA0 RA0 A0 HB
  go_wp2_with fail
  rw [rounds_succ]
  have t0 := T1.out.cell 0 rfl
  have t1 := T1.out.cell 1 rfl
  go_wp2_with fail
  go_ret
  exact ⟨rfl, B1.out⟩
set_option maxRecDepth 100000 in
set_option maxHeartbeats 4000000 in
theorem tchk_2tt {w : World} {g cap : Nat} {a b : Rk} (hg : g < w.heap.size) (hr : w.rangeAt g 0 (rc a ++ rc b)) (hs_a : a.s = true) (hk_a : a.k.ok) (he_a : a.s = true → a.k.d = a.k.t) (hs_b : b.s = true) (hk_b : b.k.ok) (he_b : b.s = true → b.k.d = b.k.t) (hlt : a.k.id < b.k.id) :
    Calls Tryz.prog 34 #[.agg #[.slice (some ⟨g, 0, none⟩) 2 cap, .int .i64 0]] w fun e w' => e = .returned (.bool true) ∧ Below w.heap.size w w' := by
  have hq_a := Lib.hid (he_a hs_a)
  clear he_a
  have hq_b := Lib.hid (he_b hs_b)
  clear he_b
  have B0 := Lib.hid ((Below.refl w.heap.size w).alloc (Nat.le_refl _) (.cells #[.slice (some ⟨g, 0, none⟩) 2 cap, .int .i64 0] 79))
  have T0 := Lib.hid (Bx.new w [.slice (some ⟨g, 0, none⟩) 2 cap, .int .i64 0] 79)
  have R0 := Lib.hid (rangeAt_block hr (((Below.refl w.heap.size w).alloc (Nat.le_refl _) (.cells #[.slice (some ⟨g, 0, none⟩) 2 cap, .int .i64 0] 79)).block g hg))
  have hg0 : g < (w.alloc (.cells #[.slice (some ⟨g, 0, none⟩) 2 cap, .int .i64 0] 79)).heap.size := by rw [World.size_alloc]; omega
  clear hr
  go_enter Tryz.func34, Tryz.ntmps34
  go_wp2_with fail
  generalize w.alloc (.cells #[.slice (some ⟨g, 0, none⟩) 2 cap, .int .i64 0] 79) = w0 at *
  refine wp_loop_rounds 3 ?_
  rw [rounds_succ]
  have q0 := R0.out 0 _ rfl
  have q1 := R0.out 1 _ rfl
  have q2 := R0.out 2 _ rfl
  have q3 := R0.out 3 _ rfl
  have q4 := R0.out 4 _ rfl
  have q5 := R0.out 5 _ rfl
  simp only [Nat.zero_add, hs_a] at q0 q1 q2 q3 q4 q5
  have hgn : g ≠ w0.heap.size := by omega
  go_wp2_with fail
  clear q0 q1 q2 q3 q4 q5
  have A0 := Lib.hid (Bx.new w0 [.int .i64 a.k.id, .int .i64 a.k.c, .int .i64 a.k.d, .int .i64 a.k.t, .int .i64 a.k.m, .bool true] 37)
  have bb := (Below.refl w0.heap.size w0).alloc (Nat.le_refl _) (.cells #[.int .i64 a.k.id, .int .i64 a.k.c, .int .i64 a.k.d, .int .i64 a.k.t, .int .i64 a.k.m, .bool true] 37)
  have BA0 := Lib.hid (B0.out.trans (bb.mono B0.out.size))
  have TA0 := Lib.hid (T0.out.below bb)
  have RA0 := Lib.hid (rangeAt_block R0.out (bb.block g hg0))
  have hgA0 : g < (w0.alloc (.cells #[.int .i64 a.k.id, .int .i64 a.k.c, .int .i64 a.k.d, .int .i64 a.k.t, .int .i64 a.k.m, .bool true] 37)).heap.size := Nat.lt_of_lt_of_le hg0 bb.size
  have sz0 := World.size_alloc w0 (.cells #[.int .i64 a.k.id, .int .i64 a.k.c, .int .i64 a.k.d, .int .i64 a.k.t, .int .i64 a.k.m, .bool true] 37)
  clear bb B0 R0
  generalize w0.alloc (.cells #[.int .i64 a.k.id, .int .i64 a.k.c, .int .i64 a.k.d, .int .i64 a.k.t, .int .i64 a.k.m, .bool true] 37) = u0 at *
  have KC : Hid (∀ x, Hid (Below u0.heap.size u0 x) → (x.cell? ⟨w0.heap.size, 0, none⟩ = some (.int .i64 a.k.id) ∧ x.cell? ⟨w0.heap.size, 1, none⟩ = some (.int .i64 a.k.c) ∧ x.cell? ⟨w0.heap.size, 2, none⟩ = some (.int .i64 a.k.d) ∧ x.cell? ⟨w0.heap.size, 3, none⟩ = some (.int .i64 a.k.t) ∧ x.cell? ⟨w0.heap.size, 4, none⟩ = some (.int .i64 a.k.m) ∧ x.cell? ⟨w0.heap.size, 5, none⟩ = some (.bool true) ∧ x.cell? ⟨w.heap.size, 0, none⟩ = some (.slice (some ⟨g, 0, none⟩) 2 cap) ∧ x.cell? ⟨g, 0, none⟩ = some (.int .i64 a.k.id))) := fun x h => ⟨(A0.out.bl h).cell 0 rfl, (A0.out.bl h).cell 1 rfl, (A0.out.bl h).cell 2 rfl, (A0.out.bl h).cell 3 rfl, (A0.out.bl h).cell 4 rfl, (A0.out.bl h).cell 5 rfl, (TA0.out.bl h).cell 0 rfl, (by have := (rangeAt_block RA0.out (h.out.block g hgA0)) 0 _ rfl; simpa using this)⟩
  refine wp_region_held_drew (S := fun x => (x.cell? ⟨w0.heap.size, 0, none⟩ = some (.int .i64 a.k.id) ∧ x.cell? ⟨w0.heap.size, 1, none⟩ = some (.int .i64 a.k.c) ∧ x.cell? ⟨w0.heap.size, 2, none⟩ = some (.int .i64 a.k.d) ∧ x.cell? ⟨w0.heap.size, 3, none⟩ = some (.int .i64 a.k.t) ∧ x.cell? ⟨w0.heap.size, 4, none⟩ = some (.int .i64 a.k.m) ∧ x.cell? ⟨w0.heap.size, 5, none⟩ = some (.bool true) ∧ x.cell? ⟨w.heap.size, 0, none⟩ = some (.slice (some ⟨g, 0, none⟩) 2 cap) ∧ x.cell? ⟨g, 0, none⟩ = some (.int .i64 a.k.id)) ∧ Hid (Below u0.heap.size u0 x)) (by kernel_rfl) (skeep KC (bl_drew (bl0 _))) (fun hHeld => ?_)
  refine wtk 0 13 (.pointer (some ⟨w0.heap.size, 0, none⟩)) rfl (by kernel_rfl) (fun _ _ _ h => h) (by rfl) (fun x hSw => by obtain ⟨⟨d0, d1, d2, d3, d4, d5, d6, d7⟩, _⟩ := id hSw; (go_simp) <;> first | decide | exact IntWalk.i64_in _ (by omega) | simp [hq_a.out] | (simp; omega)) (by assumption) ?_
  try simp only [Act.put, pw]
  refine wtk 1 14 (.agg #[.int .i64 a.k.id, .int .i64 a.k.c, .int .i64 a.k.d, .int .i64 a.k.t, .int .i64 a.k.m]) rfl (by kernel_rfl) (fun _ _ _ h => h) (by rfl) (fun x hSw => by obtain ⟨⟨d0, d1, d2, d3, d4, d5, d6, d7⟩, _⟩ := id hSw; (go_simp) <;> first | decide | exact IntWalk.i64_in _ (by omega) | simp [hq_a.out] | (simp; omega)) (by assumption) ?_
  try simp only [Act.put, pw]
  refine wpAnyH_ready (rs := [2]) (by kernel_rfl) (by simp) (AllReadyH.cons rfl (fun K hK => ?_) AllReadyH.nil)
  go_simp
  refine (chk_any (x := a.k) (hk_a) _).mono ?_
  rintro e w1 ⟨rfl, hb⟩
  have HB := bl_below (bl_drew (bl0 _)) hb
  refine hK.out _ _ (skeep KC HB) (fun hHeld => ?_)
  clear hK K
  clear hb
  try simp only [Act.put, pw]
  refine wtk 3 16 (.bool false) rfl (by kernel_rfl) (fun _ _ _ h => h) (by rfl) (fun x hSw => by obtain ⟨⟨d0, d1, d2, d3, d4, d5, d6, d7⟩, _⟩ := id hSw; (go_simp) <;> first | decide | exact IntWalk.i64_in _ (by omega) | simp [hq_a.out] | (simp; omega)) (by assumption) ?_
  try simp only [Act.put, pw]
  refine wtk 4 17 (.bool false) rfl (by kernel_rfl) (fun _ _ _ h => h) (by rfl) (fun x hSw => by obtain ⟨⟨d0, d1, d2, d3, d4, d5, d6, d7⟩, _⟩ := id hSw; (go_simp) <;> first | decide | exact IntWalk.i64_in _ (by omega) | simp [hq_a.out] | (simp; omega)) (by assumption) ?_
  try simp only [Act.put, pw]
  refine wtk 5 18 (.pointer (some ⟨w0.heap.size, 5, none⟩)) rfl (by kernel_rfl) (fun _ _ _ h => h) (by rfl) (fun x hSw => by obtain ⟨⟨d0, d1, d2, d3, d4, d5, d6, d7⟩, _⟩ := id hSw; (go_simp) <;> first | decide | exact IntWalk.i64_in _ (by omega) | simp [hq_a.out] | (simp; omega)) (by assumption) ?_
  try simp only [Act.put, pw]
  refine wtk 6 19 (.bool true) rfl (by kernel_rfl) (fun _ _ _ h => h) (by rfl) (fun x hSw => by obtain ⟨⟨d0, d1, d2, d3, d4, d5, d6, d7⟩, _⟩ := id hSw; (go_simp) <;> first | decide | exact IntWalk.i64_in _ (by omega) | simp [hq_a.out] | (simp; omega)) (by assumption) ?_
  try simp only [Act.put, pw]
  refine wtk 7 20 (.bool true) rfl (by kernel_rfl) (fun _ _ _ h => h) (by rfl) (fun x hSw => by obtain ⟨⟨d0, d1, d2, d3, d4, d5, d6, d7⟩, _⟩ := id hSw; (go_simp) <;> first | decide | exact IntWalk.i64_in _ (by omega) | simp [hq_a.out] | (simp; omega)) (by assumption) ?_
  try simp only [Act.put, pw]
  refine wtk 8 21 (.pointer (some ⟨w0.heap.size, 0, none⟩)) rfl (by kernel_rfl) (fun _ _ _ h => h) (by rfl) (fun x hSw => by obtain ⟨⟨d0, d1, d2, d3, d4, d5, d6, d7⟩, _⟩ := id hSw; (go_simp) <;> first | decide | exact IntWalk.i64_in _ (by omega) | simp [hq_a.out] | (simp; omega)) (by assumption) ?_
  try simp only [Act.put, pw]
  refine wtk 9 22 (.pointer (some ⟨w0.heap.size, 2, none⟩)) rfl (by kernel_rfl) (fun _ _ _ h => h) (by rfl) (fun x hSw => by obtain ⟨⟨d0, d1, d2, d3, d4, d5, d6, d7⟩, _⟩ := id hSw; (go_simp) <;> first | decide | exact IntWalk.i64_in _ (by omega) | simp [hq_a.out] | (simp; omega)) (by assumption) ?_
  try simp only [Act.put, pw]
  refine wtk 10 23 (.int .i64 a.k.d) rfl (by kernel_rfl) (fun _ _ _ h => h) (by rfl) (fun x hSw => by obtain ⟨⟨d0, d1, d2, d3, d4, d5, d6, d7⟩, _⟩ := id hSw; (go_simp) <;> first | decide | exact IntWalk.i64_in _ (by omega) | simp [hq_a.out] | (simp; omega)) (by assumption) ?_
  try simp only [Act.put, pw]
  refine wtk 11 24 (.pointer (some ⟨w0.heap.size, 0, none⟩)) rfl (by kernel_rfl) (fun _ _ _ h => h) (by rfl) (fun x hSw => by obtain ⟨⟨d0, d1, d2, d3, d4, d5, d6, d7⟩, _⟩ := id hSw; (go_simp) <;> first | decide | exact IntWalk.i64_in _ (by omega) | simp [hq_a.out] | (simp; omega)) (by assumption) ?_
  try simp only [Act.put, pw]
  refine wtk 12 25 (.pointer (some ⟨w0.heap.size, 3, none⟩)) rfl (by kernel_rfl) (fun _ _ _ h => h) (by rfl) (fun x hSw => by obtain ⟨⟨d0, d1, d2, d3, d4, d5, d6, d7⟩, _⟩ := id hSw; (go_simp) <;> first | decide | exact IntWalk.i64_in _ (by omega) | simp [hq_a.out] | (simp; omega)) (by assumption) ?_
  try simp only [Act.put, pw]
  refine wtk 13 26 (.int .i64 a.k.t) rfl (by kernel_rfl) (fun _ _ _ h => h) (by rfl) (fun x hSw => by obtain ⟨⟨d0, d1, d2, d3, d4, d5, d6, d7⟩, _⟩ := id hSw; (go_simp) <;> first | decide | exact IntWalk.i64_in _ (by omega) | simp [hq_a.out] | (simp; omega)) (by assumption) ?_
  try simp only [Act.put, pw]
  refine wtk 14 27 (.bool false) rfl (by kernel_rfl) (fun _ _ _ h => h) (by rfl) (fun x hSw => by obtain ⟨⟨d0, d1, d2, d3, d4, d5, d6, d7⟩, _⟩ := id hSw; (go_simp) <;> first | decide | exact IntWalk.i64_in _ (by omega) | simp [hq_a.out] | (simp; omega)) (by assumption) ?_
  try simp only [Act.put, pw]
  refine wtk 15 28 (.bool false) rfl (by kernel_rfl) (fun _ _ _ h => h) (by rfl) (fun x hSw => by obtain ⟨⟨d0, d1, d2, d3, d4, d5, d6, d7⟩, _⟩ := id hSw; (go_simp) <;> first | decide | exact IntWalk.i64_in _ (by omega) | simp [hq_a.out] | (simp; omega)) (by assumption) ?_
  try simp only [Act.put, pw]
  refine wtk 16 29 (.bool false) rfl (by kernel_rfl) (fun _ _ _ h => h) (by rfl) (fun x hSw => by obtain ⟨⟨d0, d1, d2, d3, d4, d5, d6, d7⟩, _⟩ := id hSw; (go_simp) <;> first | decide | exact IntWalk.i64_in _ (by omega) | simp [hq_a.out] | (simp; omega)) (by assumption) ?_
  try simp only [Act.put, pw]
  refine wtk 17 30 (.bool false) rfl (by kernel_rfl) (fun _ _ _ h => h) (by rfl) (fun x hSw => by obtain ⟨⟨d0, d1, d2, d3, d4, d5, d6, d7⟩, _⟩ := id hSw; (go_simp) <;> first | decide | exact IntWalk.i64_in _ (by omega) | simp [hq_a.out] | (simp; omega)) (by assumption) ?_
  try simp only [Act.put, pw]
  refine wtk 18 31 (.int .i64 0) rfl (by kernel_rfl) (fun _ _ _ h => h) (by rfl) (fun x hSw => by obtain ⟨⟨d0, d1, d2, d3, d4, d5, d6, d7⟩, _⟩ := id hSw; (go_simp) <;> first | decide | exact IntWalk.i64_in _ (by omega) | simp [hq_a.out] | (simp; omega)) (by assumption) ?_
  try simp only [Act.put, pw]
  refine wtk 19 32 (.bool false) rfl (by kernel_rfl) (fun _ _ _ h => h) (by rfl) (fun x hSw => by obtain ⟨⟨d0, d1, d2, d3, d4, d5, d6, d7⟩, _⟩ := id hSw; (go_simp) <;> first | decide | exact IntWalk.i64_in _ (by omega) | simp [hq_a.out] | (simp; omega)) (by assumption) ?_
  try simp only [Act.put, pw]
  refine wtk 20 33 (.bool false) rfl (by kernel_rfl) (fun _ _ _ h => h) (by rfl) (fun x hSw => by obtain ⟨⟨d0, d1, d2, d3, d4, d5, d6, d7⟩, _⟩ := id hSw; (go_simp) <;> first | decide | exact IntWalk.i64_in _ (by omega) | simp [hq_a.out] | (simp; omega)) (by assumption) ?_
  try simp only [Act.put, pw]
  refine wtu 21 34 rfl (by kernel_rfl) (fun _ _ _ h => h) (by rfl) (by assumption) ?_
  try simp only [Act.put, pw]
  refine wtu 22 35 rfl (by kernel_rfl) (fun _ _ _ h => h) (by rfl) (by assumption) ?_
  try simp only [Act.put, pw]
  refine wtu 23 36 rfl (by kernel_rfl) (fun _ _ _ h => h) (by rfl) (by assumption) ?_
  try simp only [Act.put, pw]
  refine wtu 24 37 rfl (by kernel_rfl) (fun _ _ _ h => h) (by rfl) (by assumption) ?_
  try simp only [Act.put, pw]
  refine wtu 25 38 rfl (by kernel_rfl) (fun _ _ _ h => h) (by rfl) (by assumption) ?_
  try simp only [Act.put, pw]
  refine wtu 26 39 rfl (by kernel_rfl) (fun _ _ _ h => h) (by rfl) (by assumption) ?_
  try simp only [Act.put, pw]
  refine wtu 27 40 rfl (by kernel_rfl) (fun _ _ _ h => h) (by rfl) (by assumption) ?_
  try simp only [Act.put, pw]
  refine wtu 28 41 rfl (by kernel_rfl) (fun _ _ _ h => h) (by rfl) (by assumption) ?_
  try simp only [Act.put, pw]
  refine wtu 29 42 rfl (by kernel_rfl) (fun _ _ _ h => h) (by rfl) (by assumption) ?_
  try simp only [Act.put, pw]
  refine wtu 30 43 rfl (by kernel_rfl) (fun _ _ _ h => h) (by rfl) (by assumption) ?_
  try simp only [Act.put, pw]
  refine wtu 31 44 rfl (by kernel_rfl) (fun _ _ _ h => h) (by rfl) (by assumption) ?_
  try simp only [Act.put, pw]
  refine wtu 32 45 rfl (by kernel_rfl) (fun _ _ _ h => h) (by rfl) (by assumption) ?_
  try simp only [Act.put, pw]
  refine wtk 33 46 (.bool false) rfl (by kernel_rfl) (fun _ _ _ h => h) (by rfl) (fun x hSw => by obtain ⟨⟨d0, d1, d2, d3, d4, d5, d6, d7⟩, _⟩ := id hSw; (go_simp) <;> first | decide | exact IntWalk.i64_in _ (by omega) | simp [hq_a.out] | (simp; omega)) (by assumption) ?_
  try simp only [Act.put, pw]
  refine wtk 34 47 (.bool false) rfl (by kernel_rfl) (fun _ _ _ h => h) (by rfl) (fun x hSw => by obtain ⟨⟨d0, d1, d2, d3, d4, d5, d6, d7⟩, _⟩ := id hSw; (go_simp) <;> first | decide | exact IntWalk.i64_in _ (by omega) | simp [hq_a.out] | (simp; omega)) (by assumption) ?_
  try simp only [Act.put, pw]
  refine wpAnyH_done (by kernel_rfl) ?_ _
  clear hHeld KC
  have hb := HB.out
  have B1 := Lib.hid (BA0.out.trans (hb.mono BA0.out.size))
  have T1 := Lib.hid (TA0.out.below hb)
  have R1 := Lib.hid (rangeAt_block RA0.out (hb.block g hgA0))
  have hg1 := Nat.lt_of_lt_of_le hgA0 hb.size
  clear hb BA0 TA0 RA0 A0 HB
  go_wp2_with fail
  rw [rounds_succ]
  have q0 := R1.out 6 _ rfl
  have q1 := R1.out 7 _ rfl
  have q2 := R1.out 8 _ rfl
  have q3 := R1.out 9 _ rfl
  have q4 := R1.out 10 _ rfl
  have q5 := R1.out 11 _ rfl
  simp only [Nat.zero_add, hs_b] at q0 q1 q2 q3 q4 q5
  have hgn : g ≠ w1.heap.size := by omega
  go_wp2_with fail
  clear q0 q1 q2 q3 q4 q5
  have A1 := Lib.hid (Bx.new w1 [.int .i64 b.k.id, .int .i64 b.k.c, .int .i64 b.k.d, .int .i64 b.k.t, .int .i64 b.k.m, .bool true] 37)
  have bb := (Below.refl w1.heap.size w1).alloc (Nat.le_refl _) (.cells #[.int .i64 b.k.id, .int .i64 b.k.c, .int .i64 b.k.d, .int .i64 b.k.t, .int .i64 b.k.m, .bool true] 37)
  have BA1 := Lib.hid (B1.out.trans (bb.mono B1.out.size))
  have TA1 := Lib.hid (T1.out.below bb)
  have RA1 := Lib.hid (rangeAt_block R1.out (bb.block g hg1))
  have hgA1 : g < (w1.alloc (.cells #[.int .i64 b.k.id, .int .i64 b.k.c, .int .i64 b.k.d, .int .i64 b.k.t, .int .i64 b.k.m, .bool true] 37)).heap.size := Nat.lt_of_lt_of_le hg1 bb.size
  have sz1 := World.size_alloc w1 (.cells #[.int .i64 b.k.id, .int .i64 b.k.c, .int .i64 b.k.d, .int .i64 b.k.t, .int .i64 b.k.m, .bool true] 37)
  clear bb B1 R1
  generalize w1.alloc (.cells #[.int .i64 b.k.id, .int .i64 b.k.c, .int .i64 b.k.d, .int .i64 b.k.t, .int .i64 b.k.m, .bool true] 37) = u1 at *
  have KC : Hid (∀ x, Hid (Below u1.heap.size u1 x) → (x.cell? ⟨w1.heap.size, 0, none⟩ = some (.int .i64 b.k.id) ∧ x.cell? ⟨w1.heap.size, 1, none⟩ = some (.int .i64 b.k.c) ∧ x.cell? ⟨w1.heap.size, 2, none⟩ = some (.int .i64 b.k.d) ∧ x.cell? ⟨w1.heap.size, 3, none⟩ = some (.int .i64 b.k.t) ∧ x.cell? ⟨w1.heap.size, 4, none⟩ = some (.int .i64 b.k.m) ∧ x.cell? ⟨w1.heap.size, 5, none⟩ = some (.bool true) ∧ x.cell? ⟨w.heap.size, 0, none⟩ = some (.slice (some ⟨g, 0, none⟩) 2 cap) ∧ x.cell? ⟨g, 0, none⟩ = some (.int .i64 a.k.id))) := fun x h => ⟨(A1.out.bl h).cell 0 rfl, (A1.out.bl h).cell 1 rfl, (A1.out.bl h).cell 2 rfl, (A1.out.bl h).cell 3 rfl, (A1.out.bl h).cell 4 rfl, (A1.out.bl h).cell 5 rfl, (TA1.out.bl h).cell 0 rfl, (by have := (rangeAt_block RA1.out (h.out.block g hgA1)) 0 _ rfl; simpa using this)⟩
  refine wp_region_held_drew (S := fun x => (x.cell? ⟨w1.heap.size, 0, none⟩ = some (.int .i64 b.k.id) ∧ x.cell? ⟨w1.heap.size, 1, none⟩ = some (.int .i64 b.k.c) ∧ x.cell? ⟨w1.heap.size, 2, none⟩ = some (.int .i64 b.k.d) ∧ x.cell? ⟨w1.heap.size, 3, none⟩ = some (.int .i64 b.k.t) ∧ x.cell? ⟨w1.heap.size, 4, none⟩ = some (.int .i64 b.k.m) ∧ x.cell? ⟨w1.heap.size, 5, none⟩ = some (.bool true) ∧ x.cell? ⟨w.heap.size, 0, none⟩ = some (.slice (some ⟨g, 0, none⟩) 2 cap) ∧ x.cell? ⟨g, 0, none⟩ = some (.int .i64 a.k.id)) ∧ Hid (Below u1.heap.size u1 x)) (by kernel_rfl) (skeep KC (bl_drew (bl0 _))) (fun hHeld => ?_)
  refine wtk 0 13 (.pointer (some ⟨w1.heap.size, 0, none⟩)) rfl (by kernel_rfl) (fun _ _ _ h => h) (by rfl) (fun x hSw => by obtain ⟨⟨d0, d1, d2, d3, d4, d5, d6, d7⟩, _⟩ := id hSw; (go_simp) <;> first | decide | exact IntWalk.i64_in _ (by omega) | simp [hq_b.out] | (simp; omega)) (by assumption) ?_
  try simp only [Act.put, pw]
  refine wtk 1 14 (.agg #[.int .i64 b.k.id, .int .i64 b.k.c, .int .i64 b.k.d, .int .i64 b.k.t, .int .i64 b.k.m]) rfl (by kernel_rfl) (fun _ _ _ h => h) (by rfl) (fun x hSw => by obtain ⟨⟨d0, d1, d2, d3, d4, d5, d6, d7⟩, _⟩ := id hSw; (go_simp) <;> first | decide | exact IntWalk.i64_in _ (by omega) | simp [hq_b.out] | (simp; omega)) (by assumption) ?_
  try simp only [Act.put, pw]
  refine wpAnyH_ready (rs := [2]) (by kernel_rfl) (by simp) (AllReadyH.cons rfl (fun K hK => ?_) AllReadyH.nil)
  go_simp
  refine (chk_any (x := b.k) (hk_b) _).mono ?_
  rintro e w2 ⟨rfl, hb⟩
  have HB := bl_below (bl_drew (bl0 _)) hb
  refine hK.out _ _ (skeep KC HB) (fun hHeld => ?_)
  clear hK K
  clear hb
  try simp only [Act.put, pw]
  refine wtk 3 16 (.bool false) rfl (by kernel_rfl) (fun _ _ _ h => h) (by rfl) (fun x hSw => by obtain ⟨⟨d0, d1, d2, d3, d4, d5, d6, d7⟩, _⟩ := id hSw; (go_simp) <;> first | decide | exact IntWalk.i64_in _ (by omega) | simp [hq_b.out] | (simp; omega)) (by assumption) ?_
  try simp only [Act.put, pw]
  refine wtk 4 17 (.bool false) rfl (by kernel_rfl) (fun _ _ _ h => h) (by rfl) (fun x hSw => by obtain ⟨⟨d0, d1, d2, d3, d4, d5, d6, d7⟩, _⟩ := id hSw; (go_simp) <;> first | decide | exact IntWalk.i64_in _ (by omega) | simp [hq_b.out] | (simp; omega)) (by assumption) ?_
  try simp only [Act.put, pw]
  refine wtk 5 18 (.pointer (some ⟨w1.heap.size, 5, none⟩)) rfl (by kernel_rfl) (fun _ _ _ h => h) (by rfl) (fun x hSw => by obtain ⟨⟨d0, d1, d2, d3, d4, d5, d6, d7⟩, _⟩ := id hSw; (go_simp) <;> first | decide | exact IntWalk.i64_in _ (by omega) | simp [hq_b.out] | (simp; omega)) (by assumption) ?_
  try simp only [Act.put, pw]
  refine wtk 6 19 (.bool true) rfl (by kernel_rfl) (fun _ _ _ h => h) (by rfl) (fun x hSw => by obtain ⟨⟨d0, d1, d2, d3, d4, d5, d6, d7⟩, _⟩ := id hSw; (go_simp) <;> first | decide | exact IntWalk.i64_in _ (by omega) | simp [hq_b.out] | (simp; omega)) (by assumption) ?_
  try simp only [Act.put, pw]
  refine wtk 7 20 (.bool true) rfl (by kernel_rfl) (fun _ _ _ h => h) (by rfl) (fun x hSw => by obtain ⟨⟨d0, d1, d2, d3, d4, d5, d6, d7⟩, _⟩ := id hSw; (go_simp) <;> first | decide | exact IntWalk.i64_in _ (by omega) | simp [hq_b.out] | (simp; omega)) (by assumption) ?_
  try simp only [Act.put, pw]
  refine wtk 8 21 (.pointer (some ⟨w1.heap.size, 0, none⟩)) rfl (by kernel_rfl) (fun _ _ _ h => h) (by rfl) (fun x hSw => by obtain ⟨⟨d0, d1, d2, d3, d4, d5, d6, d7⟩, _⟩ := id hSw; (go_simp) <;> first | decide | exact IntWalk.i64_in _ (by omega) | simp [hq_b.out] | (simp; omega)) (by assumption) ?_
  try simp only [Act.put, pw]
  refine wtk 9 22 (.pointer (some ⟨w1.heap.size, 2, none⟩)) rfl (by kernel_rfl) (fun _ _ _ h => h) (by rfl) (fun x hSw => by obtain ⟨⟨d0, d1, d2, d3, d4, d5, d6, d7⟩, _⟩ := id hSw; (go_simp) <;> first | decide | exact IntWalk.i64_in _ (by omega) | simp [hq_b.out] | (simp; omega)) (by assumption) ?_
  try simp only [Act.put, pw]
  refine wtk 10 23 (.int .i64 b.k.d) rfl (by kernel_rfl) (fun _ _ _ h => h) (by rfl) (fun x hSw => by obtain ⟨⟨d0, d1, d2, d3, d4, d5, d6, d7⟩, _⟩ := id hSw; (go_simp) <;> first | decide | exact IntWalk.i64_in _ (by omega) | simp [hq_b.out] | (simp; omega)) (by assumption) ?_
  try simp only [Act.put, pw]
  refine wtk 11 24 (.pointer (some ⟨w1.heap.size, 0, none⟩)) rfl (by kernel_rfl) (fun _ _ _ h => h) (by rfl) (fun x hSw => by obtain ⟨⟨d0, d1, d2, d3, d4, d5, d6, d7⟩, _⟩ := id hSw; (go_simp) <;> first | decide | exact IntWalk.i64_in _ (by omega) | simp [hq_b.out] | (simp; omega)) (by assumption) ?_
  try simp only [Act.put, pw]
  refine wtk 12 25 (.pointer (some ⟨w1.heap.size, 3, none⟩)) rfl (by kernel_rfl) (fun _ _ _ h => h) (by rfl) (fun x hSw => by obtain ⟨⟨d0, d1, d2, d3, d4, d5, d6, d7⟩, _⟩ := id hSw; (go_simp) <;> first | decide | exact IntWalk.i64_in _ (by omega) | simp [hq_b.out] | (simp; omega)) (by assumption) ?_
  try simp only [Act.put, pw]
  refine wtk 13 26 (.int .i64 b.k.t) rfl (by kernel_rfl) (fun _ _ _ h => h) (by rfl) (fun x hSw => by obtain ⟨⟨d0, d1, d2, d3, d4, d5, d6, d7⟩, _⟩ := id hSw; (go_simp) <;> first | decide | exact IntWalk.i64_in _ (by omega) | simp [hq_b.out] | (simp; omega)) (by assumption) ?_
  try simp only [Act.put, pw]
  refine wtk 14 27 (.bool false) rfl (by kernel_rfl) (fun _ _ _ h => h) (by rfl) (fun x hSw => by obtain ⟨⟨d0, d1, d2, d3, d4, d5, d6, d7⟩, _⟩ := id hSw; (go_simp) <;> first | decide | exact IntWalk.i64_in _ (by omega) | simp [hq_b.out] | (simp; omega)) (by assumption) ?_
  try simp only [Act.put, pw]
  refine wtk 15 28 (.bool false) rfl (by kernel_rfl) (fun _ _ _ h => h) (by rfl) (fun x hSw => by obtain ⟨⟨d0, d1, d2, d3, d4, d5, d6, d7⟩, _⟩ := id hSw; (go_simp) <;> first | decide | exact IntWalk.i64_in _ (by omega) | simp [hq_b.out] | (simp; omega)) (by assumption) ?_
  try simp only [Act.put, pw]
  refine wtk 16 29 (.bool false) rfl (by kernel_rfl) (fun _ _ _ h => h) (by rfl) (fun x hSw => by obtain ⟨⟨d0, d1, d2, d3, d4, d5, d6, d7⟩, _⟩ := id hSw; (go_simp) <;> first | decide | exact IntWalk.i64_in _ (by omega) | simp [hq_b.out] | (simp; omega)) (by assumption) ?_
  try simp only [Act.put, pw]
  refine wtk 17 30 (.bool false) rfl (by kernel_rfl) (fun _ _ _ h => h) (by rfl) (fun x hSw => by obtain ⟨⟨d0, d1, d2, d3, d4, d5, d6, d7⟩, _⟩ := id hSw; (go_simp) <;> first | decide | exact IntWalk.i64_in _ (by omega) | simp [hq_b.out] | (simp; omega)) (by assumption) ?_
  try simp only [Act.put, pw]
  refine wtk 18 31 (.int .i64 1) rfl (by kernel_rfl) (fun _ _ _ h => h) (by rfl) (fun x hSw => by obtain ⟨⟨d0, d1, d2, d3, d4, d5, d6, d7⟩, _⟩ := id hSw; (go_simp) <;> first | decide | exact IntWalk.i64_in _ (by omega) | simp [hq_b.out] | (simp; omega)) (by assumption) ?_
  try simp only [Act.put, pw]
  refine wtk 19 32 (.bool true) rfl (by kernel_rfl) (fun _ _ _ h => h) (by rfl) (fun x hSw => by obtain ⟨⟨d0, d1, d2, d3, d4, d5, d6, d7⟩, _⟩ := id hSw; (go_simp) <;> first | decide | exact IntWalk.i64_in _ (by omega) | simp [hq_b.out] | (simp; omega)) (by assumption) ?_
  try simp only [Act.put, pw]
  refine wtk 20 33 (.bool true) rfl (by kernel_rfl) (fun _ _ _ h => h) (by rfl) (fun x hSw => by obtain ⟨⟨d0, d1, d2, d3, d4, d5, d6, d7⟩, _⟩ := id hSw; (go_simp) <;> first | decide | exact IntWalk.i64_in _ (by omega) | simp [hq_b.out] | (simp; omega)) (by assumption) ?_
  try simp only [Act.put, pw]
  refine wtk 21 34 (.pointer (some ⟨w.heap.size, 0, none⟩)) rfl (by kernel_rfl) (fun _ _ _ h => h) (by rfl) (fun x hSw => by obtain ⟨⟨d0, d1, d2, d3, d4, d5, d6, d7⟩, _⟩ := id hSw; (go_simp) <;> first | decide | exact IntWalk.i64_in _ (by omega) | simp [hq_b.out] | (simp; omega)) (by assumption) ?_
  try simp only [Act.put, pw]
  refine wtk 22 35 (.slice (some ⟨g, 0, none⟩) 2 cap) rfl (by kernel_rfl) (fun _ _ _ h => h) (by rfl) (fun x hSw => by obtain ⟨⟨d0, d1, d2, d3, d4, d5, d6, d7⟩, _⟩ := id hSw; (go_simp) <;> first | decide | exact IntWalk.i64_in _ (by omega) | simp [hq_b.out] | (simp; omega)) (by assumption) ?_
  try simp only [Act.put, pw]
  refine wtk 23 36 (.int .i64 1) rfl (by kernel_rfl) (fun _ _ _ h => h) (by rfl) (fun x hSw => by obtain ⟨⟨d0, d1, d2, d3, d4, d5, d6, d7⟩, _⟩ := id hSw; (go_simp) <;> first | decide | exact IntWalk.i64_in _ (by omega) | simp [hq_b.out] | (simp; omega)) (by assumption) ?_
  try simp only [Act.put, pw]
  refine wtk 24 37 (.int .i64 0) rfl (by kernel_rfl) (fun _ _ _ h => h) (by rfl) (fun x hSw => by obtain ⟨⟨d0, d1, d2, d3, d4, d5, d6, d7⟩, _⟩ := id hSw; (go_simp) <;> first | decide | exact IntWalk.i64_in _ (by omega) | simp [hq_b.out] | (simp; omega)) (by assumption) ?_
  try simp only [Act.put, pw]
  refine wtk 25 38 (.pointer (some ⟨g, 0, none⟩)) rfl (by kernel_rfl) (fun _ _ _ h => h) (by rfl) (fun x hSw => by obtain ⟨⟨d0, d1, d2, d3, d4, d5, d6, d7⟩, _⟩ := id hSw; (go_simp) <;> first | decide | exact IntWalk.i64_in _ (by omega) | simp [hq_b.out] | (simp; omega)) (by assumption) ?_
  try simp only [Act.put, pw]
  refine wtk 26 39 (.pointer (some ⟨g, 0, none⟩)) rfl (by kernel_rfl) (fun _ _ _ h => h) (by rfl) (fun x hSw => by obtain ⟨⟨d0, d1, d2, d3, d4, d5, d6, d7⟩, _⟩ := id hSw; (go_simp) <;> first | decide | exact IntWalk.i64_in _ (by omega) | simp [hq_b.out] | (simp; omega)) (by assumption) ?_
  try simp only [Act.put, pw]
  refine wtk 27 40 (.pointer (some ⟨g, 0, none⟩)) rfl (by kernel_rfl) (fun _ _ _ h => h) (by rfl) (fun x hSw => by obtain ⟨⟨d0, d1, d2, d3, d4, d5, d6, d7⟩, _⟩ := id hSw; (go_simp) <;> first | decide | exact IntWalk.i64_in _ (by omega) | simp [hq_b.out] | (simp; omega)) (by assumption) ?_
  try simp only [Act.put, pw]
  refine wtk 28 41 (.int .i64 a.k.id) rfl (by kernel_rfl) (fun _ _ _ h => h) (by rfl) (fun x hSw => by obtain ⟨⟨d0, d1, d2, d3, d4, d5, d6, d7⟩, _⟩ := id hSw; (go_simp) <;> first | decide | exact IntWalk.i64_in _ (by omega) | simp [hq_b.out] | (simp; omega)) (by assumption) ?_
  try simp only [Act.put, pw]
  refine wtk 29 42 (.pointer (some ⟨w1.heap.size, 0, none⟩)) rfl (by kernel_rfl) (fun _ _ _ h => h) (by rfl) (fun x hSw => by obtain ⟨⟨d0, d1, d2, d3, d4, d5, d6, d7⟩, _⟩ := id hSw; (go_simp) <;> first | decide | exact IntWalk.i64_in _ (by omega) | simp [hq_b.out] | (simp; omega)) (by assumption) ?_
  try simp only [Act.put, pw]
  refine wtk 30 43 (.pointer (some ⟨w1.heap.size, 0, none⟩)) rfl (by kernel_rfl) (fun _ _ _ h => h) (by rfl) (fun x hSw => by obtain ⟨⟨d0, d1, d2, d3, d4, d5, d6, d7⟩, _⟩ := id hSw; (go_simp) <;> first | decide | exact IntWalk.i64_in _ (by omega) | simp [hq_b.out] | (simp; omega)) (by assumption) ?_
  try simp only [Act.put, pw]
  refine wtk 31 44 (.int .i64 b.k.id) rfl (by kernel_rfl) (fun _ _ _ h => h) (by rfl) (fun x hSw => by obtain ⟨⟨d0, d1, d2, d3, d4, d5, d6, d7⟩, _⟩ := id hSw; (go_simp) <;> first | decide | exact IntWalk.i64_in _ (by omega) | simp [hq_b.out] | (simp; omega)) (by assumption) ?_
  try simp only [Act.put, pw]
  refine wtk 32 45 (.bool false) rfl (by kernel_rfl) (fun _ _ _ h => h) (by rfl) (fun x hSw => by obtain ⟨⟨d0, d1, d2, d3, d4, d5, d6, d7⟩, _⟩ := id hSw; (go_simp) <;> first | decide | exact IntWalk.i64_in _ (by omega) | simp [hq_b.out] | (simp; omega)) (by assumption) ?_
  try simp only [Act.put, pw]
  refine wtk 33 46 (.bool false) rfl (by kernel_rfl) (fun _ _ _ h => h) (by rfl) (fun x hSw => by obtain ⟨⟨d0, d1, d2, d3, d4, d5, d6, d7⟩, _⟩ := id hSw; (go_simp) <;> first | decide | exact IntWalk.i64_in _ (by omega) | simp [hq_b.out] | (simp; omega)) (by assumption) ?_
  try simp only [Act.put, pw]
  refine wtk 34 47 (.bool false) rfl (by kernel_rfl) (fun _ _ _ h => h) (by rfl) (fun x hSw => by obtain ⟨⟨d0, d1, d2, d3, d4, d5, d6, d7⟩, _⟩ := id hSw; (go_simp) <;> first | decide | exact IntWalk.i64_in _ (by omega) | simp [hq_b.out] | (simp; omega)) (by assumption) ?_
  try simp only [Act.put, pw]
  refine wpAnyH_done (by kernel_rfl) ?_ _
  clear hHeld KC
  have hb := HB.out
  have B2 := Lib.hid (BA1.out.trans (hb.mono BA1.out.size))
  have T2 := Lib.hid (TA1.out.below hb)
  have R2 := Lib.hid (rangeAt_block RA1.out (hb.block g hgA1))
  have hg2 := Nat.lt_of_lt_of_le hgA1 hb.size
  clear hb BA1 TA1 RA1 A1 HB
  go_wp2_with fail
  rw [rounds_succ]
  have t0 := T2.out.cell 0 rfl
  have t1 := T2.out.cell 1 rfl
  go_wp2_with fail
  go_ret
  exact ⟨rfl, B2.out⟩
end Go.Proofs.YtoichcickcgbgaaGreatDoor
