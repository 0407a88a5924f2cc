/-
  judge.Gone: where a row has come nothing is gone.
  judge.Gone: nothing, where a row has come.
-/
import Derived.Test.YtoichcickcgbgaaGreatDoorGRtFi
namespace Go.Proofs.YtoichcickcgbgaaGreatDoor
open Go.RowKit
attribute [local go_sem] Oper.semAt_some
set_option maxRecDepth 100000 in
set_option maxHeartbeats 2000000 in
theorem stays_any {w : World} {A B : Nat} {va vb : Value} {a x : Rk} (hA : Bx w A 79 [va, .int .i64 0]) (hB : Bx w B 79 [vb, .int .i64 0]) (ha : Sx rc w va [a]) (hb : Sx rc w vb [a, x]) (hk : Rws [a, x]) :
    Calls Tryz.prog 132 #[.agg #[.int .i64 a.k.id, .int .i64 a.k.c, .int .i64 a.k.d, .int .i64 a.k.t, .int .i64 a.k.m], .pointer (some ⟨A, 0, none⟩), .pointer (some ⟨B, 0, none⟩)] w fun e w' => e = .returned (.tuple #[.agg #[.int .i64 a.k.id, .int .i64 a.k.c, .int .i64 a.k.d, .int .i64 a.k.t, .int .i64 a.k.m], .bool true]) ∧ Below w.heap.size w w' := by
  have hb0 := ((Below.refl w.heap.size w).alloc (Nat.le_refl _) (.cells #[.int .i64 a.k.id, .int .i64 a.k.c, .int .i64 a.k.d, .int .i64 a.k.t, .int .i64 a.k.m] 32)).alloc (by simp) (.cells #[.int .i64 0, .int .i64 0, .int .i64 0, .int .i64 0, .int .i64 0] 32)
  have hT := (Bx.new w [.int .i64 a.k.id, .int .i64 a.k.c, .int .i64 a.k.d, .int .i64 a.k.t, .int .i64 a.k.m] 32).more (.cells #[.int .i64 0, .int .i64 0, .int .i64 0, .int .i64 0, .int .i64 0] 32)
  have hZ := Bx.new (w.alloc (.cells #[.int .i64 a.k.id, .int .i64 a.k.c, .int .i64 a.k.d, .int .i64 a.k.t, .int .i64 a.k.m] 32)) [.int .i64 0, .int .i64 0, .int .i64 0, .int .i64 0, .int .i64 0] 32
  simp only [World.size_alloc] at hZ
  have hAu := hA.below hb0
  have hBu := hB.below hb0
  have HA := Lib.hid hAu
  have HB := Lib.hid hBu
  have HT := Lib.hid hT
  have HZ := Lib.hid hZ
  have HXa := Lib.hid (ha.below hb0)
  have HXb := Lib.hid (hb.below hb0)
  have HW := Lib.hid hb0
  have cA0 := hAu.cell 0 rfl
  have cA1 := hAu.cell 1 rfl
  obtain ⟨ga, capa, rfl, -⟩ := ha.one
  obtain ⟨gb, capb, rfl, -⟩ := hb.two
  clear ha hb
  have hsz : w.heap.size + 1 < ((w.alloc (.cells #[.int .i64 a.k.id, .int .i64 a.k.c, .int .i64 a.k.d, .int .i64 a.k.t, .int .i64 a.k.m] 32)).alloc (.cells #[.int .i64 0, .int .i64 0, .int .i64 0, .int .i64 0, .int .i64 0] 32)).heap.size := hZ.lt
  have hAl := hA.lt
  have hBl := hB.lt
  clear hb0 hT hZ hAu hBu hA hB
  go_enter Tryz.func132, Tryz.ntmps132
  go_wp2_with fail
  generalize (w.alloc (.cells #[.int .i64 a.k.id, .int .i64 a.k.c, .int .i64 a.k.d, .int .i64 a.k.t, .int .i64 a.k.m] 32)).alloc (.cells #[.int .i64 0, .int .i64 0, .int .i64 0, .int .i64 0, .int .i64 0] 32) = u0 at *
  refine (find_0 (r := a) (i := a.k.id) HXa.out (by simp) (by simp [Lib.idxBy, Lib.idxByFrom]) rfl).mono ?_
  rintro e w1 ⟨rfl, b1⟩
  have hA1 := HA.out.below b1
  have hB1 := HB.out.below b1
  have hT1 := HT.out.below b1
  have HA1 := Lib.hid hA1
  have HB1 := Lib.hid hB1
  have HT1 := Lib.hid hT1
  have HZ1 := Lib.hid (HZ.out.below b1)
  have HXb1 := Lib.hid (HXb.out.below b1)
  have HW1 := Lib.hid (HW.out.trans (b1.mono HW.out.size))
  have hs1 : w.heap.size + 1 < w1.heap.size := HZ1.out.lt
  clear b1 HA HB HT HZ HXa HXb HW cA0 cA1
  have bX := (Below.refl w1.heap.size w1).alloc (Nat.le_refl _) (.cells #[.int .i64 a.k.id, .int .i64 a.k.c, .int .i64 a.k.d, .int .i64 a.k.t, .int .i64 a.k.m, .bool a.s] 37)
  have HA2 := Lib.hid (HA1.out.below bX)
  have hB2 := HB1.out.below bX
  have HB2 := Lib.hid hB2
  have hT2 := HT1.out.below bX
  have HT2 := Lib.hid hT2
  have HZ2 := Lib.hid (HZ1.out.below bX)
  have HXb2 := Lib.hid (HXb1.out.below bX)
  have HW2 := Lib.hid (HW1.out.trans (bX.mono HW1.out.size))
  have HX2 := Lib.hid (Bx.new w1 [.int .i64 a.k.id, .int .i64 a.k.c, .int .i64 a.k.d, .int .i64 a.k.t, .int .i64 a.k.m, .bool a.s] 37)
  have cB0 := hB1.cell 0 rfl
  have cB1 := hB1.cell 1 rfl
  have cT0 := hT1.cell 0 rfl
  have hne1 : B < w1.heap.size := by omega
  have hne2 : w.heap.size < w1.heap.size := by omega
  clear hA1 hB1 hT1 HA1 HB1 HT1 HZ1 HXb1 HW1 hB2 hT2 bX
  go_wp2_with fail
  generalize w1.alloc (.cells #[.int .i64 a.k.id, .int .i64 a.k.c, .int .i64 a.k.d, .int .i64 a.k.t, .int .i64 a.k.m, .bool a.s] 37) = u1 at *
  refine (find_0 (r := a) (i := a.k.id) HXb2.out (by simp) (by simp [Lib.idxBy, Lib.idxByFrom]) rfl).mono ?_
  rintro e w2 ⟨rfl, b2⟩
  clear cB0 cB1 cT0 hne1 hne2
  have bY := b2.alloc b2.size (.cells #[.int .i64 a.k.id, .int .i64 a.k.c, .int .i64 a.k.d, .int .i64 a.k.t, .int .i64 a.k.m, .bool a.s] 37)
  have HB3 := Lib.hid (HB2.out.below bY)
  have HT3 := Lib.hid (HT2.out.below bY)
  have HZ3 := Lib.hid (HZ2.out.below bY)
  have HX3 := Lib.hid (HX2.out.below bY)
  have HXb3 := Lib.hid (HXb2.out.below bY)
  have HW3 := Lib.hid (HW2.out.trans (bY.mono HW2.out.size))
  have HY3 := Lib.hid (Bx.new w2 [.int .i64 a.k.id, .int .i64 a.k.c, .int .i64 a.k.d, .int .i64 a.k.t, .int .i64 a.k.m, .bool a.s] 37)
  have hs2 : w.heap.size + 1 < w1.heap.size := hs1
  have hs3 : w1.heap.size < w2.heap.size := Nat.lt_of_lt_of_le HX2.out.lt b2.size
  clear b2 bY HA2 HB2 HT2 HZ2 HX2 HXb2 HW2
  go_wp2_with fail
  generalize w2.alloc (.cells #[.int .i64 a.k.id, .int .i64 a.k.c, .int .i64 a.k.d, .int .i64 a.k.t, .int .i64 a.k.m, .bool a.s] 37) = u2 at *
  have hs4 : w2.heap.size < u2.heap.size := HY3.out.lt
  have KC : Hid (∀ y, Hid (Turn (fun b => b = w.heap.size + 1) u2 y) → (y.cell? ⟨B, 0, none⟩ = some (.slice (some ⟨gb, 0, none⟩) 2 capb) ∧ y.cell? ⟨B, 1, none⟩ = some (.int .i64 0) ∧ y.cell? ⟨w2.heap.size, 0, none⟩ = some (.int .i64 a.k.id) ∧ y.cell? ⟨w2.heap.size, 1, none⟩ = some (.int .i64 a.k.c) ∧ y.cell? ⟨w2.heap.size, 2, none⟩ = some (.int .i64 a.k.d) ∧ y.cell? ⟨w2.heap.size, 3, none⟩ = some (.int .i64 a.k.t) ∧ y.cell? ⟨w2.heap.size, 4, none⟩ = some (.int .i64 a.k.m) ∧ y.cell? ⟨w2.heap.size, 5, none⟩ = some (.bool a.s) ∧ y.cell? ⟨w1.heap.size, 0, none⟩ = some (.int .i64 a.k.id) ∧ y.cell? ⟨w1.heap.size, 1, none⟩ = some (.int .i64 a.k.c) ∧ y.cell? ⟨w1.heap.size, 2, none⟩ = some (.int .i64 a.k.d) ∧ y.cell? ⟨w1.heap.size, 3, none⟩ = some (.int .i64 a.k.t) ∧ y.cell? ⟨w1.heap.size, 4, none⟩ = some (.int .i64 a.k.m) ∧ y.cell? ⟨w1.heap.size, 5, none⟩ = some (.bool a.s) ∧ y.cell? ⟨w.heap.size, 0, none⟩ = some (.int .i64 a.k.id) ∧ y.cell? ⟨w.heap.size, 1, none⟩ = some (.int .i64 a.k.c) ∧ y.cell? ⟨w.heap.size, 2, none⟩ = some (.int .i64 a.k.d) ∧ y.cell? ⟨w.heap.size, 3, none⟩ = some (.int .i64 a.k.t) ∧ y.cell? ⟨w.heap.size, 4, none⟩ = some (.int .i64 a.k.m))) := fun y h => ⟨(HB3.out.turn h.out (by omega)).cell 0 rfl, (HB3.out.turn h.out (by omega)).cell 1 rfl, (HY3.out.turn h.out (by omega)).cell 0 rfl, (HY3.out.turn h.out (by omega)).cell 1 rfl, (HY3.out.turn h.out (by omega)).cell 2 rfl, (HY3.out.turn h.out (by omega)).cell 3 rfl, (HY3.out.turn h.out (by omega)).cell 4 rfl, (HY3.out.turn h.out (by omega)).cell 5 rfl, (HX3.out.turn h.out (by omega)).cell 0 rfl, (HX3.out.turn h.out (by omega)).cell 1 rfl, (HX3.out.turn h.out (by omega)).cell 2 rfl, (HX3.out.turn h.out (by omega)).cell 3 rfl, (HX3.out.turn h.out (by omega)).cell 4 rfl, (HX3.out.turn h.out (by omega)).cell 5 rfl, (HT3.out.turn h.out (by omega)).cell 0 rfl, (HT3.out.turn h.out (by omega)).cell 1 rfl, (HT3.out.turn h.out (by omega)).cell 2 rfl, (HT3.out.turn h.out (by omega)).cell 3 rfl, (HT3.out.turn h.out (by omega)).cell 4 rfl⟩
  have B1 : Hid (Below u2.heap.size u2 u2.drew) := bl_drew (bl0 _)
  refine wp_region_held_drew (S := fun y => (y.cell? ⟨B, 0, none⟩ = some (.slice (some ⟨gb, 0, none⟩) 2 capb) ∧ y.cell? ⟨B, 1, none⟩ = some (.int .i64 0) ∧ y.cell? ⟨w2.heap.size, 0, none⟩ = some (.int .i64 a.k.id) ∧ y.cell? ⟨w2.heap.size, 1, none⟩ = some (.int .i64 a.k.c) ∧ y.cell? ⟨w2.heap.size, 2, none⟩ = some (.int .i64 a.k.d) ∧ y.cell? ⟨w2.heap.size, 3, none⟩ = some (.int .i64 a.k.t) ∧ y.cell? ⟨w2.heap.size, 4, none⟩ = some (.int .i64 a.k.m) ∧ y.cell? ⟨w2.heap.size, 5, none⟩ = some (.bool a.s) ∧ y.cell? ⟨w1.heap.size, 0, none⟩ = some (.int .i64 a.k.id) ∧ y.cell? ⟨w1.heap.size, 1, none⟩ = some (.int .i64 a.k.c) ∧ y.cell? ⟨w1.heap.size, 2, none⟩ = some (.int .i64 a.k.d) ∧ y.cell? ⟨w1.heap.size, 3, none⟩ = some (.int .i64 a.k.t) ∧ y.cell? ⟨w1.heap.size, 4, none⟩ = some (.int .i64 a.k.m) ∧ y.cell? ⟨w1.heap.size, 5, none⟩ = some (.bool a.s) ∧ y.cell? ⟨w.heap.size, 0, none⟩ = some (.int .i64 a.k.id) ∧ y.cell? ⟨w.heap.size, 1, none⟩ = some (.int .i64 a.k.c) ∧ y.cell? ⟨w.heap.size, 2, none⟩ = some (.int .i64 a.k.d) ∧ y.cell? ⟨w.heap.size, 3, none⟩ = some (.int .i64 a.k.t) ∧ y.cell? ⟨w.heap.size, 4, none⟩ = some (.int .i64 a.k.m)) ∧ Hid (Turn (fun b => b = w.heap.size + 1) u2 y)) (by kernel_rfl) (tkp KC (Turn.below B1.out)) (fun hHeld => ?_)
  refine wtk 0 25 (.agg #[.slice (some ⟨gb, 0, none⟩) 2 capb, .int .i64 0]) rfl (by kernel_rfl) (fun _ _ _ h => h) (by rfl) (fun x hSw => by obtain ⟨⟨d0, d1, d2, d3, d4, d5, d6, d7, d8, d9, d10, d11, d12, d13, d14, d15, d16, d17, d18⟩, _⟩ := id hSw; (go_simp) <;> first | decide | exact IntWalk.i64_in _ (by omega)) (by assumption) ?_
  try simp only [Act.put, pw]
  refine wtk 1 26 (.pointer (some ⟨B, 1, none⟩)) rfl (by kernel_rfl) (fun _ _ _ h => h) (by rfl) (fun x hSw => by obtain ⟨⟨d0, d1, d2, d3, d4, d5, d6, d7, d8, d9, d10, d11, d12, d13, d14, d15, d16, d17, d18⟩, _⟩ := id hSw; (go_simp) <;> first | decide | exact IntWalk.i64_in _ (by omega)) (by assumption) ?_
  try simp only [Act.put, pw]
  refine wtk 2 27 (.int .i64 0) rfl (by kernel_rfl) (fun _ _ _ h => h) (by rfl) (fun x hSw => by obtain ⟨⟨d0, d1, d2, d3, d4, d5, d6, d7, d8, d9, d10, d11, d12, d13, d14, d15, d16, d17, d18⟩, _⟩ := id hSw; (go_simp) <;> first | decide | exact IntWalk.i64_in _ (by omega)) (by assumption) ?_
  try simp only [Act.put, pw]
  refine wtk 4 29 (.pointer (some ⟨w2.heap.size, 0, none⟩)) rfl (by kernel_rfl) (fun _ _ _ h => h) (by rfl) (fun x hSw => by obtain ⟨⟨d0, d1, d2, d3, d4, d5, d6, d7, d8, d9, d10, d11, d12, d13, d14, d15, d16, d17, d18⟩, _⟩ := id hSw; (go_simp) <;> first | decide | exact IntWalk.i64_in _ (by omega)) (by assumption) ?_
  try simp only [Act.put, pw]
  refine wtk 5 30 (.agg #[.int .i64 a.k.id, .int .i64 a.k.c, .int .i64 a.k.d, .int .i64 a.k.t, .int .i64 a.k.m]) rfl (by kernel_rfl) (fun _ _ _ h => h) (by rfl) (fun x hSw => by obtain ⟨⟨d0, d1, d2, d3, d4, d5, d6, d7, d8, d9, d10, d11, d12, d13, d14, d15, d16, d17, d18⟩, _⟩ := id hSw; (go_simp) <;> first | decide | exact IntWalk.i64_in _ (by omega)) (by assumption) ?_
  try simp only [Act.put, pw]
  refine wpAnyH_ready (rs := [3]) (by kernel_rfl) (by simp) (AllReadyH.cons rfl (fun K hK => ?_) AllReadyH.nil)
  go_simp
  refine (in_any (HXb3.out.below B1.out) hk).mono ?_
  rintro e w3 ⟨v3, rfl, hX3, ho3, b3⟩
  have B3 := bl_below B1 b3
  obtain ⟨g3, cap3, hv3, -⟩ := Sx.two (a := a.k) (b := x.k) hX3
  subst hv3
  refine hK.out _ _ (tkp KC (Turn.below B3.out)) (fun hHeld => ?_)
  clear hK K
  have HXI := Lib.hid hX3
  clear b3 hX3 ho3 B1
  try simp only [Act.put, pw]
  refine wpAnyH_ready (rs := [6]) (by kernel_rfl) (by simp) (AllReadyH.cons rfl (fun K hK => ?_) AllReadyH.nil)
  go_simp
  refine (has_task HXI.out (by simp) (by simp) a.k).mono ?_
  rintro e w4 ⟨rfl, b4⟩
  have hany : ([a, x].map (·.k)).any (fun y => eqT a.k y) = true := by simp [eqT_self]
  rw [hany]
  have B4 := bl_below B3 b4
  refine hK.out _ _ (tkp KC (Turn.below B4.out)) (fun hHeld => ?_)
  clear hK K
  clear b4 B3 HXI hany
  try simp only [Act.put, pw]
  refine wtk 7 10 (.bool true) rfl (by kernel_rfl) (fun _ _ _ h => h) (by rfl) (fun x hSw => by obtain ⟨⟨d0, d1, d2, d3, d4, d5, d6, d7, d8, d9, d10, d11, d12, d13, d14, d15, d16, d17, d18⟩, _⟩ := id hSw; (go_simp) <;> first | decide | exact IntWalk.i64_in _ (by omega)) (by assumption) ?_
  try simp only [Act.put, pw]
  refine wpAnyH_done (by kernel_rfl) ?_ _
  go_wp2_with fail
  have B5 : Hid (Turn (fun b => b = w.heap.size + 1) u2 w4.drew) := (Turn.below B4.out).drew
  have hZ5 := HZ3.out.below B4.out
  have z0 := hZ5.cell 0 rfl
  have f0 := hZ5.free 0
  have z1 := hZ5.cell 1 rfl
  have f1 := hZ5.free 1
  have z2 := hZ5.cell 2 rfl
  have f2 := hZ5.free 2
  have z3 := hZ5.cell 3 rfl
  have f3 := hZ5.free 3
  have z4 := hZ5.cell 4 rfl
  have f4 := hZ5.free 4
  refine wp_region_held_drew (S := fun y => (y.cell? ⟨B, 0, none⟩ = some (.slice (some ⟨gb, 0, none⟩) 2 capb) ∧ y.cell? ⟨B, 1, none⟩ = some (.int .i64 0) ∧ y.cell? ⟨w2.heap.size, 0, none⟩ = some (.int .i64 a.k.id) ∧ y.cell? ⟨w2.heap.size, 1, none⟩ = some (.int .i64 a.k.c) ∧ y.cell? ⟨w2.heap.size, 2, none⟩ = some (.int .i64 a.k.d) ∧ y.cell? ⟨w2.heap.size, 3, none⟩ = some (.int .i64 a.k.t) ∧ y.cell? ⟨w2.heap.size, 4, none⟩ = some (.int .i64 a.k.m) ∧ y.cell? ⟨w2.heap.size, 5, none⟩ = some (.bool a.s) ∧ y.cell? ⟨w1.heap.size, 0, none⟩ = some (.int .i64 a.k.id) ∧ y.cell? ⟨w1.heap.size, 1, none⟩ = some (.int .i64 a.k.c) ∧ y.cell? ⟨w1.heap.size, 2, none⟩ = some (.int .i64 a.k.d) ∧ y.cell? ⟨w1.heap.size, 3, none⟩ = some (.int .i64 a.k.t) ∧ y.cell? ⟨w1.heap.size, 4, none⟩ = some (.int .i64 a.k.m) ∧ y.cell? ⟨w1.heap.size, 5, none⟩ = some (.bool a.s) ∧ y.cell? ⟨w.heap.size, 0, none⟩ = some (.int .i64 a.k.id) ∧ y.cell? ⟨w.heap.size, 1, none⟩ = some (.int .i64 a.k.c) ∧ y.cell? ⟨w.heap.size, 2, none⟩ = some (.int .i64 a.k.d) ∧ y.cell? ⟨w.heap.size, 3, none⟩ = some (.int .i64 a.k.t) ∧ y.cell? ⟨w.heap.size, 4, none⟩ = some (.int .i64 a.k.m)) ∧ Hid (Turn (fun b => b = w.heap.size + 1) u2 y)) (by kernel_rfl) (tkp KC B5) (fun hHeld => ?_)
  refine wtk 0 32 (.pointer (some ⟨w2.heap.size, 0, none⟩)) rfl (by kernel_rfl) (fun _ _ _ h => h) (by rfl) (fun x hSw => by obtain ⟨⟨d0, d1, d2, d3, d4, d5, d6, d7, d8, d9, d10, d11, d12, d13, d14, d15, d16, d17, d18⟩, _⟩ := id hSw; (go_simp) <;> first | decide | rfl | exact IntWalk.i64_in _ (by omega)) (by assumption) ?_
  try simp only [Act.put, pw]
  refine wtk 1 33 (.agg #[.int .i64 a.k.id, .int .i64 a.k.c, .int .i64 a.k.d, .int .i64 a.k.t, .int .i64 a.k.m]) rfl (by kernel_rfl) (fun _ _ _ h => h) (by rfl) (fun x hSw => by obtain ⟨⟨d0, d1, d2, d3, d4, d5, d6, d7, d8, d9, d10, d11, d12, d13, d14, d15, d16, d17, d18⟩, _⟩ := id hSw; (go_simp) <;> first | decide | rfl | exact IntWalk.i64_in _ (by omega)) (by assumption) ?_
  try simp only [Act.put, pw]
  refine wtk 2 34 (.bool true) rfl (by kernel_rfl) (fun _ _ _ h => h) (by rfl) (fun x hSw => by obtain ⟨⟨d0, d1, d2, d3, d4, d5, d6, d7, d8, d9, d10, d11, d12, d13, d14, d15, d16, d17, d18⟩, _⟩ := id hSw; (go_simp) <;> first | decide | rfl | exact IntWalk.i64_in _ (by omega)) (by assumption) ?_
  try simp only [Act.put, pw]
  refine wtk 3 35 (.bool true) rfl (by kernel_rfl) (fun _ _ _ h => h) (by rfl) (fun x hSw => by obtain ⟨⟨d0, d1, d2, d3, d4, d5, d6, d7, d8, d9, d10, d11, d12, d13, d14, d15, d16, d17, d18⟩, _⟩ := id hSw; (go_simp) <;> first | decide | rfl | exact IntWalk.i64_in _ (by omega)) (by assumption) ?_
  try simp only [Act.put, pw]
  refine wtk 4 36 (.bool true) rfl (by kernel_rfl) (fun _ _ _ h => h) (by rfl) (fun x hSw => by obtain ⟨⟨d0, d1, d2, d3, d4, d5, d6, d7, d8, d9, d10, d11, d12, d13, d14, d15, d16, d17, d18⟩, _⟩ := id hSw; (go_simp) <;> first | decide | rfl | exact IntWalk.i64_in _ (by omega)) (by assumption) ?_
  try simp only [Act.put, pw]
  refine wtk 5 37 (.bool true) rfl (by kernel_rfl) (fun _ _ _ h => h) (by rfl) (fun x hSw => by obtain ⟨⟨d0, d1, d2, d3, d4, d5, d6, d7, d8, d9, d10, d11, d12, d13, d14, d15, d16, d17, d18⟩, _⟩ := id hSw; (go_simp) <;> first | decide | rfl | exact IntWalk.i64_in _ (by omega)) (by assumption) ?_
  try simp only [Act.put, pw]
  refine wtk 6 38 (.bool true) rfl (by kernel_rfl) (fun _ _ _ h => h) (by rfl) (fun x hSw => by obtain ⟨⟨d0, d1, d2, d3, d4, d5, d6, d7, d8, d9, d10, d11, d12, d13, d14, d15, d16, d17, d18⟩, _⟩ := id hSw; (go_simp) <;> first | decide | rfl | exact IntWalk.i64_in _ (by omega)) (by assumption) ?_
  try simp only [Act.put, pw]
  refine wtk 7 39 (.pointer (some ⟨w1.heap.size, 5, none⟩)) rfl (by kernel_rfl) (fun _ _ _ h => h) (by rfl) (fun x hSw => by obtain ⟨⟨d0, d1, d2, d3, d4, d5, d6, d7, d8, d9, d10, d11, d12, d13, d14, d15, d16, d17, d18⟩, _⟩ := id hSw; (go_simp) <;> first | decide | rfl | exact IntWalk.i64_in _ (by omega)) (by assumption) ?_
  try simp only [Act.put, pw]
  refine wtk 8 40 (.bool a.s) rfl (by kernel_rfl) (fun _ _ _ h => h) (by rfl) (fun x hSw => by obtain ⟨⟨d0, d1, d2, d3, d4, d5, d6, d7, d8, d9, d10, d11, d12, d13, d14, d15, d16, d17, d18⟩, _⟩ := id hSw; (go_simp) <;> first | decide | rfl | exact IntWalk.i64_in _ (by omega)) (by assumption) ?_
  try simp only [Act.put, pw]
  refine wtk 9 41 (.pointer (some ⟨w2.heap.size, 5, none⟩)) rfl (by kernel_rfl) (fun _ _ _ h => h) (by rfl) (fun x hSw => by obtain ⟨⟨d0, d1, d2, d3, d4, d5, d6, d7, d8, d9, d10, d11, d12, d13, d14, d15, d16, d17, d18⟩, _⟩ := id hSw; (go_simp) <;> first | decide | rfl | exact IntWalk.i64_in _ (by omega)) (by assumption) ?_
  try simp only [Act.put, pw]
  refine wtk 10 42 (.bool a.s) rfl (by kernel_rfl) (fun _ _ _ h => h) (by rfl) (fun x hSw => by obtain ⟨⟨d0, d1, d2, d3, d4, d5, d6, d7, d8, d9, d10, d11, d12, d13, d14, d15, d16, d17, d18⟩, _⟩ := id hSw; (go_simp) <;> first | decide | rfl | exact IntWalk.i64_in _ (by omega)) (by assumption) ?_
  try simp only [Act.put, pw]
  refine wtk 11 43 (.bool true) rfl (by kernel_rfl) (fun _ _ _ h => h) (by rfl) (fun x hSw => by obtain ⟨⟨d0, d1, d2, d3, d4, d5, d6, d7, d8, d9, d10, d11, d12, d13, d14, d15, d16, d17, d18⟩, _⟩ := id hSw; (go_simp) <;> first | decide | rfl | exact IntWalk.i64_in _ (by omega)) (by assumption) ?_
  try simp only [Act.put, pw]
  refine wtk 12 44 (.bool true) rfl (by kernel_rfl) (fun _ _ _ h => h) (by rfl) (fun x hSw => by obtain ⟨⟨d0, d1, d2, d3, d4, d5, d6, d7, d8, d9, d10, d11, d12, d13, d14, d15, d16, d17, d18⟩, _⟩ := id hSw; (go_simp) <;> first | decide | rfl | exact IntWalk.i64_in _ (by omega)) (by assumption) ?_
  try simp only [Act.put, pw]
  refine wtk 13 45 (.bool true) rfl (by kernel_rfl) (fun _ _ _ h => h) (by rfl) (fun x hSw => by obtain ⟨⟨d0, d1, d2, d3, d4, d5, d6, d7, d8, d9, d10, d11, d12, d13, d14, d15, d16, d17, d18⟩, _⟩ := id hSw; (go_simp) <;> first | decide | rfl | exact IntWalk.i64_in _ (by omega)) (by assumption) ?_
  try simp only [Act.put, pw]
  refine wtk 14 46 (.pointer (some ⟨w2.heap.size, 0, none⟩)) rfl (by kernel_rfl) (fun _ _ _ h => h) (by rfl) (fun x hSw => by obtain ⟨⟨d0, d1, d2, d3, d4, d5, d6, d7, d8, d9, d10, d11, d12, d13, d14, d15, d16, d17, d18⟩, _⟩ := id hSw; (go_simp) <;> first | decide | rfl | exact IntWalk.i64_in _ (by omega)) (by assumption) ?_
  try simp only [Act.put, pw]
  refine wtk 15 47 (.pointer (some ⟨w2.heap.size, 2, none⟩)) rfl (by kernel_rfl) (fun _ _ _ h => h) (by rfl) (fun x hSw => by obtain ⟨⟨d0, d1, d2, d3, d4, d5, d6, d7, d8, d9, d10, d11, d12, d13, d14, d15, d16, d17, d18⟩, _⟩ := id hSw; (go_simp) <;> first | decide | rfl | exact IntWalk.i64_in _ (by omega)) (by assumption) ?_
  try simp only [Act.put, pw]
  refine wtk 16 48 (.int .i64 a.k.d) rfl (by kernel_rfl) (fun _ _ _ h => h) (by rfl) (fun x hSw => by obtain ⟨⟨d0, d1, d2, d3, d4, d5, d6, d7, d8, d9, d10, d11, d12, d13, d14, d15, d16, d17, d18⟩, _⟩ := id hSw; (go_simp) <;> first | decide | rfl | exact IntWalk.i64_in _ (by omega)) (by assumption) ?_
  try simp only [Act.put, pw]
  refine wtk 17 49 (.pointer (some ⟨w.heap.size, 2, none⟩)) rfl (by kernel_rfl) (fun _ _ _ h => h) (by rfl) (fun x hSw => by obtain ⟨⟨d0, d1, d2, d3, d4, d5, d6, d7, d8, d9, d10, d11, d12, d13, d14, d15, d16, d17, d18⟩, _⟩ := id hSw; (go_simp) <;> first | decide | rfl | exact IntWalk.i64_in _ (by omega)) (by assumption) ?_
  try simp only [Act.put, pw]
  refine wtk 18 50 (.int .i64 a.k.d) rfl (by kernel_rfl) (fun _ _ _ h => h) (by rfl) (fun x hSw => by obtain ⟨⟨d0, d1, d2, d3, d4, d5, d6, d7, d8, d9, d10, d11, d12, d13, d14, d15, d16, d17, d18⟩, _⟩ := id hSw; (go_simp) <;> first | decide | rfl | exact IntWalk.i64_in _ (by omega)) (by assumption) ?_
  try simp only [Act.put, pw]
  refine wtk 19 51 (.bool true) rfl (by kernel_rfl) (fun _ _ _ h => h) (by rfl) (fun x hSw => by obtain ⟨⟨d0, d1, d2, d3, d4, d5, d6, d7, d8, d9, d10, d11, d12, d13, d14, d15, d16, d17, d18⟩, _⟩ := id hSw; (go_simp) <;> first | decide | rfl | exact IntWalk.i64_in _ (by omega)) (by assumption) ?_
  try simp only [Act.put, pw]
  refine wtk 20 52 (.bool true) rfl (by kernel_rfl) (fun _ _ _ h => h) (by rfl) (fun x hSw => by obtain ⟨⟨d0, d1, d2, d3, d4, d5, d6, d7, d8, d9, d10, d11, d12, d13, d14, d15, d16, d17, d18⟩, _⟩ := id hSw; (go_simp) <;> first | decide | rfl | exact IntWalk.i64_in _ (by omega)) (by assumption) ?_
  try simp only [Act.put, pw]
  refine wtk 21 53 (.bool true) rfl (by kernel_rfl) (fun _ _ _ h => h) (by rfl) (fun x hSw => by obtain ⟨⟨d0, d1, d2, d3, d4, d5, d6, d7, d8, d9, d10, d11, d12, d13, d14, d15, d16, d17, d18⟩, _⟩ := id hSw; (go_simp) <;> first | decide | rfl | exact IntWalk.i64_in _ (by omega)) (by assumption) ?_
  try simp only [Act.put, pw]
  refine wtk 22 54 (.pointer (some ⟨w2.heap.size, 0, none⟩)) rfl (by kernel_rfl) (fun _ _ _ h => h) (by rfl) (fun x hSw => by obtain ⟨⟨d0, d1, d2, d3, d4, d5, d6, d7, d8, d9, d10, d11, d12, d13, d14, d15, d16, d17, d18⟩, _⟩ := id hSw; (go_simp) <;> first | decide | rfl | exact IntWalk.i64_in _ (by omega)) (by assumption) ?_
  try simp only [Act.put, pw]
  refine wtk 23 55 (.pointer (some ⟨w2.heap.size, 3, none⟩)) rfl (by kernel_rfl) (fun _ _ _ h => h) (by rfl) (fun x hSw => by obtain ⟨⟨d0, d1, d2, d3, d4, d5, d6, d7, d8, d9, d10, d11, d12, d13, d14, d15, d16, d17, d18⟩, _⟩ := id hSw; (go_simp) <;> first | decide | rfl | exact IntWalk.i64_in _ (by omega)) (by assumption) ?_
  try simp only [Act.put, pw]
  refine wtk 24 56 (.int .i64 a.k.t) rfl (by kernel_rfl) (fun _ _ _ h => h) (by rfl) (fun x hSw => by obtain ⟨⟨d0, d1, d2, d3, d4, d5, d6, d7, d8, d9, d10, d11, d12, d13, d14, d15, d16, d17, d18⟩, _⟩ := id hSw; (go_simp) <;> first | decide | rfl | exact IntWalk.i64_in _ (by omega)) (by assumption) ?_
  try simp only [Act.put, pw]
  refine wtk 25 57 (.pointer (some ⟨w.heap.size, 3, none⟩)) rfl (by kernel_rfl) (fun _ _ _ h => h) (by rfl) (fun x hSw => by obtain ⟨⟨d0, d1, d2, d3, d4, d5, d6, d7, d8, d9, d10, d11, d12, d13, d14, d15, d16, d17, d18⟩, _⟩ := id hSw; (go_simp) <;> first | decide | rfl | exact IntWalk.i64_in _ (by omega)) (by assumption) ?_
  try simp only [Act.put, pw]
  refine wtk 26 58 (.int .i64 a.k.t) rfl (by kernel_rfl) (fun _ _ _ h => h) (by rfl) (fun x hSw => by obtain ⟨⟨d0, d1, d2, d3, d4, d5, d6, d7, d8, d9, d10, d11, d12, d13, d14, d15, d16, d17, d18⟩, _⟩ := id hSw; (go_simp) <;> first | decide | rfl | exact IntWalk.i64_in _ (by omega)) (by assumption) ?_
  try simp only [Act.put, pw]
  refine wtk 27 59 (.bool true) rfl (by kernel_rfl) (fun _ _ _ h => h) (by rfl) (fun x hSw => by obtain ⟨⟨d0, d1, d2, d3, d4, d5, d6, d7, d8, d9, d10, d11, d12, d13, d14, d15, d16, d17, d18⟩, _⟩ := id hSw; (go_simp) <;> first | decide | rfl | exact IntWalk.i64_in _ (by omega)) (by assumption) ?_
  try simp only [Act.put, pw]
  refine wtk 28 60 (.bool true) rfl (by kernel_rfl) (fun _ _ _ h => h) (by rfl) (fun x hSw => by obtain ⟨⟨d0, d1, d2, d3, d4, d5, d6, d7, d8, d9, d10, d11, d12, d13, d14, d15, d16, d17, d18⟩, _⟩ := id hSw; (go_simp) <;> first | decide | rfl | exact IntWalk.i64_in _ (by omega)) (by assumption) ?_
  try simp only [Act.put, pw]
  refine wpAnyH_ready (rs := [29]) (by kernel_rfl) (by simp) (AllReadyH.cons rfl (fun K hK => ?_) AllReadyH.nil)
  go_simp
  refine hK.out _ _ (tkp KC (B5.out.trans (((((Turn.set (S := fun b => b = w.heap.size + 1) _ _ _ _ rfl).trans (Turn.set _ _ _ _ rfl)).trans (Turn.set _ _ _ _ rfl)).trans (Turn.set _ _ _ _ rfl)).trans (Turn.set _ _ _ _ rfl)))) (fun hHeld => ?_)
  clear hK K
  clear z0 z1 z2 z3 z4 f0 f1 f2 f3 f4
  try simp only [Act.put, pw]
  refine wtk 30 5 (.bool true) rfl (by kernel_rfl) (fun _ _ _ h => h) (by rfl) (fun x hSw => by obtain ⟨⟨d0, d1, d2, d3, d4, d5, d6, d7, d8, d9, d10, d11, d12, d13, d14, d15, d16, d17, d18⟩, _⟩ := id hSw; (go_simp) <;> first | decide | rfl | exact IntWalk.i64_in _ (by omega)) (by assumption) ?_
  try simp only [Act.put, pw]
  refine wpAnyH_done (by kernel_rfl) ?_ _
  go_wp2_with fail
  have s0 := Bx.set (w := w4) hZ5 0 (.int .i64 a.k.id) _ rfl
  have s1 := Bx.set (w := _) s0 1 (.int .i64 a.k.c) _ rfl
  have s2 := Bx.set (w := _) s1 2 (.int .i64 a.k.d) _ rfl
  have s3 := Bx.set (w := _) s2 3 (.int .i64 a.k.t) _ rfl
  have s4 := Bx.set (w := _) s3 4 (.int .i64 a.k.m) _ rfl
  have e0 := s4.cell 0 rfl
  have e1 := s4.cell 1 rfl
  have e2 := s4.cell 2 rfl
  have e3 := s4.cell 3 rfl
  have e4 := s4.cell 4 rfl
  have hW4 : Below w.heap.size w w4 := HW3.out.trans (B4.out.mono HW3.out.size)
  refine bodyPost_ret (v := .tuple #[.agg #[.int .i64 a.k.id, .int .i64 a.k.c, .int .i64 a.k.d, .int .i64 a.k.t, .int .i64 a.k.m], .bool true]) (by simp [results, Tryz.results132, go_sem, e0, e1, e2, e3, e4]) rfl ?_
  exact ⟨rfl, (bset (bset (bset (bset (bset hW4 hW4.size (w.heap.size + 1) 0 (.int .i64 a.k.id) (by omega)) (by simp only [World.size_setCell]; exact hW4.size) (w.heap.size + 1) 1 (.int .i64 a.k.c) (by omega)) (by simp only [World.size_setCell]; exact hW4.size) (w.heap.size + 1) 2 (.int .i64 a.k.d) (by omega)) (by simp only [World.size_setCell]; exact hW4.size) (w.heap.size + 1) 3 (.int .i64 a.k.t) (by omega)) (by simp only [World.size_setCell]; exact hW4.size) (w.heap.size + 1) 4 (.int .i64 a.k.m) (by omega)).drew⟩
end Go.Proofs.YtoichcickcgbgaaGreatDoor
namespace Go.Proofs.YtoichcickcgbgaaGreatDoor
open Go.RowKit
attribute [local go_sem] Oper.semAt_some
theorem Rws.one {a x : Rk} (h : Rws [a, x]) : Rws [a] := ⟨⟨by simp, fun t ht => h.tks.ok t (by simp at ht; subst ht; simp)⟩, fun r hr => h.srv r (by simp at hr; subst hr; simp), fun _ _ e => by simp at e, by
  rcases h.modes with hm | ⟨_, e, _⟩
  · exact .inl fun r hr => hm r (by simp at hr; subst hr; simp)
  · simp at e⟩
theorem Rws.zero : Rws [] := ⟨⟨by simp, by simp⟩, by simp, fun _ _ e => by simp at e, .inl (by simp)⟩
set_option maxRecDepth 100000 in
set_option maxHeartbeats 1000000 in
theorem gone_0 {w : World} {vb : Value} {x : Rk} (hb : Sx rc w vb [x]) (hk : Rws [x]) :
    Calls Tryz.prog 89 #[.agg #[.slice none 0 0, .int .i64 0], .agg #[vb, .int .i64 0]] w fun e w' => e = .returned (.slice none 0 0) ∧ Below w.heap.size w w' := by
  have hb0 := ((Below.refl w.heap.size w).alloc (Nat.le_refl _) (.cells #[.slice none 0 0, .int .i64 0] 79)).alloc (by simp) (.cells #[vb, .int .i64 0] 79)
  have hA := (Bx.new w [.slice none 0 0, .int .i64 0] 79).more (.cells #[vb, .int .i64 0] 79)
  have hV := Bx.new (w.alloc (.cells #[.slice none 0 0, .int .i64 0] 79)) [vb, .int .i64 0] 79
  simp only [World.size_alloc] at hV
  have HA := Lib.hid hA
  have HV := Lib.hid hV
  have HW := Lib.hid hb0
  have HXb := Lib.hid (hb.below hb0)
  obtain ⟨gb, capb, rfl, -⟩ := hb.one
  clear hb hb0 hA hV
  go_enter Tryz.func89, Tryz.ntmps89
  go_wp2_with fail
  go_step3
  go_wp2_with fail
  generalize (w.alloc (.cells #[.slice none 0 0, .int .i64 0] 79)).alloc (.cells #[.slice (some ⟨gb, 0, none⟩) 1 capb, .int .i64 0] 79) = u0 at *
  refine (tchk_any (rs := []) Sx.nil Rws.zero).mono ?_
  rintro e w1 ⟨rfl, b1⟩
  have hA1 := HA.out.below b1
  have hV1 := HV.out.below b1
  have cB0 := hV1.cell 0 rfl
  have cB1 := hV1.cell 1 rfl
  have HA1 := Lib.hid hA1
  have HV1 := Lib.hid hV1
  have HXb1 := Lib.hid (HXb.out.below b1)
  have HW1 := Lib.hid (HW.out.trans (b1.mono HW.out.size))
  clear b1 hA1 hV1 HA HV HXb HW
  go_wp2_with fail
  refine (tchk_any HXb1.out hk).mono ?_
  rintro e w2 ⟨rfl, b2⟩
  have hA2 := HA1.out.below b2
  have cA0 := hA2.cell 0 rfl
  have cA1 := hA2.cell 1 rfl
  have HW2 := Lib.hid (HW1.out.trans (b2.mono HW1.out.size))
  clear b2 hA2 HA1 HV1 HXb1 HW1 cB0 cB1
  go_wp2_with fail
  go_step3
  go_wp2_with fail
  refine (in_any (rs := []) Sx.nil Rws.zero).mono ?_
  rintro e w3 ⟨v3, rfl, hx3, -, b3⟩
  have HW3 := Lib.hid (HW2.out.trans (b3.mono HW2.out.size))
  obtain ⟨o3, cap3, rfl, -, -⟩ := hx3
  clear b3 HW2 cA0 cA1
  simp only [List.map_nil, List.length_nil]
  go_wp2_with fail
  refine wp_loop_rounds 1 ?_
  rw [rounds_succ]
  go_wp2_with fail
  rw [Exit.noGoto_ret]
  go_ret
  exact ⟨rfl, HW3.out⟩
set_option maxRecDepth 100000 in
set_option maxHeartbeats 1000000 in
theorem gone_1 {w : World} {va vb : Value} {a x : Rk} (ha : Sx rc w va [a]) (hb : Sx rc w vb [a, x]) (hk : Rws [a, x]) :
    Calls Tryz.prog 89 #[.agg #[va, .int .i64 0], .agg #[vb, .int .i64 0]] w fun e w' => e = .returned (.slice none 0 0) ∧ Below w.heap.size w w' := by
  have hb0 := ((Below.refl w.heap.size w).alloc (Nat.le_refl _) (.cells #[va, .int .i64 0] 79)).alloc (by simp) (.cells #[vb, .int .i64 0] 79)
  have hA := (Bx.new w [va, .int .i64 0] 79).more (.cells #[vb, .int .i64 0] 79)
  have hV := Bx.new (w.alloc (.cells #[va, .int .i64 0] 79)) [vb, .int .i64 0] 79
  simp only [World.size_alloc] at hV
  have HA := Lib.hid hA
  have HV := Lib.hid hV
  have HW := Lib.hid hb0
  have HXa := Lib.hid (ha.below hb0)
  have HXb := Lib.hid (hb.below hb0)
  obtain ⟨ga, capa, rfl, -⟩ := ha.one
  obtain ⟨gb, capb, rfl, -⟩ := hb.two
  clear ha hb hb0 hA hV
  go_enter Tryz.func89, Tryz.ntmps89
  go_wp2_with fail
  go_step3
  go_wp2_with fail
  generalize (w.alloc (.cells #[.slice (some ⟨ga, 0, none⟩) 1 capa, .int .i64 0] 79)).alloc (.cells #[.slice (some ⟨gb, 0, none⟩) 2 capb, .int .i64 0] 79) = u0 at *
  refine (tchk_any HXa.out hk.one).mono ?_
  rintro e w1 ⟨rfl, b1⟩
  have hA1 := HA.out.below b1
  have hV1 := HV.out.below b1
  have cB0 := hV1.cell 0 rfl
  have cB1 := hV1.cell 1 rfl
  have HA1 := Lib.hid hA1
  have HV1 := Lib.hid hV1
  have HXa1 := Lib.hid (HXa.out.below b1)
  have HXb1 := Lib.hid (HXb.out.below b1)
  have HW1 := Lib.hid (HW.out.trans (b1.mono HW.out.size))
  clear b1 hA1 hV1 HA HV HXa HXb HW
  go_wp2_with fail
  refine (tchk_any HXb1.out hk).mono ?_
  rintro e w2 ⟨rfl, b2⟩
  have hA2 := HA1.out.below b2
  have cA0 := hA2.cell 0 rfl
  have cA1 := hA2.cell 1 rfl
  have HA2 := Lib.hid hA2
  have HV2 := Lib.hid (HV1.out.below b2)
  have HXa2 := Lib.hid (HXa1.out.below b2)
  have HXb2 := Lib.hid (HXb1.out.below b2)
  have HW2 := Lib.hid (HW1.out.trans (b2.mono HW1.out.size))
  clear b2 hA2 HA1 HV1 HXa1 HXb1 HW1 cB0 cB1
  go_wp2_with fail
  go_step3
  go_wp2_with fail
  refine (in_any HXa2.out hk.one).mono ?_
  rintro e w3 ⟨v3, rfl, hx3, -, b3⟩
  have HA3 := Lib.hid (HA2.out.below b3)
  have HV3 := Lib.hid (HV2.out.below b3)
  have HXa3 := Lib.hid (HXa2.out.below b3)
  have HXb3 := Lib.hid (HXb2.out.below b3)
  have HW3 := Lib.hid (HW2.out.trans (b3.mono HW2.out.size))
  obtain ⟨g3, cap3, rfl, hg3, -, hr3⟩ := Sx.one (a := a.k) hx3
  have HR3 := Lib.hid hr3
  clear b3 hx3 hr3 HA2 HV2 HXa2 HXb2 HW2 cA0 cA1
  go_wp2_with fail
  refine wp_loop_rounds 2 ?_
  rw [rounds_succ]
  have q0 := HR3.out 0 _ rfl
  have q1 := HR3.out 1 _ rfl
  have q2 := HR3.out 2 _ rfl
  have q3 := HR3.out 3 _ rfl
  have q4 := HR3.out 4 _ rfl
  simp only [Nat.zero_add] at q0 q1 q2 q3 q4
  go_wp2_with fail
  have bT := (Below.refl w3.heap.size w3).alloc (Nat.le_refl _) (.cells #[.int .i64 a.k.id, .int .i64 a.k.c, .int .i64 a.k.d, .int .i64 a.k.t, .int .i64 a.k.m] 32)
  have HT := Lib.hid (Bx.new w3 [.int .i64 a.k.id, .int .i64 a.k.c, .int .i64 a.k.d, .int .i64 a.k.t, .int .i64 a.k.m] 32)
  have HST := Lib.hid (stays_any (HA3.out.below bT) (HV3.out.below bT) (HXa3.out.below bT) (HXb3.out.below bT) hk)
  have HW4 := Lib.hid (HW3.out.trans (bT.mono HW3.out.size))
  have hsz : w3.heap.size < (w3.alloc (.cells #[.int .i64 a.k.id, .int .i64 a.k.c, .int .i64 a.k.d, .int .i64 a.k.t, .int .i64 a.k.m] 32)).heap.size := HT.out.lt
  clear bT q0 q1 q2 q3 q4 HA3 HV3 HXa3 HXb3 HW3 HR3
  generalize w3.alloc (.cells #[.int .i64 a.k.id, .int .i64 a.k.c, .int .i64 a.k.d, .int .i64 a.k.t, .int .i64 a.k.m] 32) = u3 at *
  refine HST.out.mono ?_
  rintro e w4 ⟨rfl, b4⟩
  have hT4 := HT.out.below b4
  have cT1 := hT4.cell 1 rfl
  have hlt : w3.heap.size < w4.heap.size := Nat.lt_of_lt_of_le hsz b4.size
  have hge : decide (a.k.c ≥ a.k.c) = true := by simp
  have HW5 := Lib.hid ((HW4.out.trans (b4.mono HW4.out.size)).alloc (Nat.le_trans HW4.out.size b4.size) (.cells #[.int .i64 a.k.id, .int .i64 a.k.c, .int .i64 a.k.d, .int .i64 a.k.t, .int .i64 a.k.m] 32))
  clear b4 hT4 HT HW4 HST hsz
  go_wp2_with fail
  rw [rounds_succ]
  go_wp2_with fail
  rw [Exit.noGoto_ret]
  go_ret
  exact ⟨rfl, HW5.out⟩
theorem gone_any {w : World} {va vb : Value} {rs : List Rk} {x : Rk} (ha : Vr w va rs) (hb : Vr w vb (rs ++ [x])) (hk : Rws (rs ++ [x])) :
    Calls Tryz.prog 89 #[.agg #[va, .int .i64 0], .agg #[vb, .int .i64 0]] w fun e w' => e = .returned (.slice none 0 0) ∧ Below w.heap.size w w' := by
  rcases hk.ahead with rfl | ⟨a, rfl, _, _⟩
  · rw [ha.2 rfl]
    exact gone_0 hb.1 hk
  · exact gone_1 ha.1 hb.1 hk
end Go.Proofs.YtoichcickcgbgaaGreatDoor
