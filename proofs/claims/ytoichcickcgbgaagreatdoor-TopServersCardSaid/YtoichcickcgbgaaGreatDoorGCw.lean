/-
  The control's release of a task.
-/
import Derived.Test.YtoichcickcgbgaaGreatDoorGCgCq
namespace Go.Proofs.YtoichcickcgbgaaGreatDoor
open Go.RowKit
attribute [local go_sem] Oper.semAt_some
attribute [local go_sem] run_store_func
section
variable {w : World} {col : Nat → Nat} {K : Ck} {n0 : Int} {rs : List Rk} {gm : Int → Option (Int × Int)} {u : Nat}
set_option linter.unusedSimpArgs false in
set_option maxRecDepth 100000 in
set_option maxHeartbeats 4000000 in
theorem crelease_any (H : Ctl w col K n0 0 rs gm [] u) (hl : rs.length ≤ 2) (hf : Fnd rs 1 ⟨⟨1, 1, 2, 2, 1⟩, false⟩) (hnx : Grd.nx gm 1 = 0) (hu : u < 100000) :
    Calls Tryz.prog 28 #[.pointer (some ⟨K.c, 0, none⟩), .agg #[.int .i64 2, .int .i64 0, .int .i64 0, .int .i64 0, .int .i64 0, .int .i64 0, .int .i64 0, .bool false, .int .i64 0, .int .i64 0, .int .i64 0, .int .i64 1, .int .i64 1, .int .i64 0, .slice none 0 0]] w fun e w' => e = .returned (.agg #[.int .i64 0, .slice none 0 0, .int .i64 0, .int .i64 0, .int .i64 0, .int .i64 0, .int .i64 0, .bool false, .int .i64 0, .int .i64 0, .slice none 0 0]) ∧ (∃ gm' js', Ctl w' col K n0 0 rs gm' js' (u + 2) ∧ js' = [⟨1, 0, 2, 1⟩]) ∧ Turn (Own col) w w' := by
  have b0 := ((Below.refl w.heap.size w).alloc (Nat.le_refl _) (.cells #[.int .i64 2, .int .i64 0, .int .i64 0, .int .i64 0, .int .i64 0, .int .i64 0, .int .i64 0, .bool false, .int .i64 0, .int .i64 0, .int .i64 0, .int .i64 1, .int .i64 1, .int .i64 0, .slice none 0 0] 46)).alloc (by simp) (.cells #[.int .i64 0, .slice none 0 0, .int .i64 0, .int .i64 0, .int .i64 0, .int .i64 0, .int .i64 0, .bool false, .int .i64 0, .int .i64 0, .slice none 0 0] 40)
  have hm := (Bx.new w [.int .i64 2, .int .i64 0, .int .i64 0, .int .i64 0, .int .i64 0, .int .i64 0, .int .i64 0, .bool false, .int .i64 0, .int .i64 0, .int .i64 0, .int .i64 1, .int .i64 1, .int .i64 0, .slice none 0 0] 46).more (.cells #[.int .i64 0, .slice none 0 0, .int .i64 0, .int .i64 0, .int .i64 0, .int .i64 0, .int .i64 0, .bool false, .int .i64 0, .int .i64 0, .slice none 0 0] 40)
  have hz := Bx.new (w.alloc (.cells #[.int .i64 2, .int .i64 0, .int .i64 0, .int .i64 0, .int .i64 0, .int .i64 0, .int .i64 0, .bool false, .int .i64 0, .int .i64 0, .int .i64 0, .int .i64 1, .int .i64 1, .int .i64 0, .slice none 0 0] 46)) [.int .i64 0, .slice none 0 0, .int .i64 0, .int .i64 0, .int .i64 0, .int .i64 0, .int .i64 0, .bool false, .int .i64 0, .int .i64 0, .slice none 0 0] 40
  simp only [World.size_alloc] at hz
  have HZ := Lib.hid hz
  have HM := Lib.hid hm
  have HH := Lib.hid (H.below b0)
  have HT := Lib.hid (Turn.below (S := Own col) b0)
  have hnew0 := H.new
  have hnew1 := H.fresh (w.heap.size + 1) (by omega)
  have HF := Lib.hid hf
  have m0 := hm.cell 0 rfl
  have m1 := hm.cell 1 rfl
  have m2 := hm.cell 2 rfl
  have m3 := hm.cell 3 rfl
  have m4 := hm.cell 4 rfl
  have m5 := hm.cell 5 rfl
  have m6 := hm.cell 6 rfl
  have m7 := hm.cell 7 rfl
  have m8 := hm.cell 8 rfl
  have m9 := hm.cell 9 rfl
  have m10 := hm.cell 10 rfl
  have m11 := hm.cell 11 rfl
  have m12 := hm.cell 12 rfl
  have m13 := hm.cell 13 rfl
  have m14 := hm.cell 14 rfl
  clear b0 H hz hf hm
  go_enter Tryz.func28, Tryz.ntmps28
  go_wp2_with fail
  generalize (w.alloc (.cells #[.int .i64 2, .int .i64 0, .int .i64 0, .int .i64 0, .int .i64 0, .int .i64 0, .int .i64 0, .bool false, .int .i64 0, .int .i64 0, .int .i64 0, .int .i64 1, .int .i64 1, .int .i64 0, .slice none 0 0] 46)).alloc (.cells #[.int .i64 0, .slice none 0 0, .int .i64 0, .int .i64 0, .int .i64 0, .int .i64 0, .int .i64 0, .bool false, .int .i64 0, .int .i64 0, .slice none 0 0] 40) = u0 at *
  refine (cright_any HH.out hl HF.out (by decide) (by decide)).mono ?_
  rintro e w1 ⟨rfl, b1⟩
  have bA := b1.alloc b1.size (.cells #[.int .i64 1, .int .i64 1, .int .i64 2, .int .i64 2, .int .i64 1, .bool false] 37)
  have hr := Bx.new w1 [.int .i64 1, .int .i64 1, .int .i64 2, .int .i64 2, .int .i64 1, .bool false] 37
  have hm1 := HM.out.below bA
  have HM1 := Lib.hid hm1
  have HZ1 := Lib.hid (HZ.out.below bA)
  have HH1 := Lib.hid (HH.out.below bA)
  have HT1 := Lib.hid (HT.out.trans (Turn.below bA))
  have hnew2 : col w1.heap.size = 0 := (HH.out.below b1).new
  clear m0 m1 m2 m3 m4 m5 m6 m7 m8 m9 m10 m11 m12 m13 m14
  have m11 := hm1.cell 11 rfl
  have m12 := hm1.cell 12 rfl
  have r0 := hr.cell 0 rfl
  have r1 := hr.cell 1 rfl
  have r2 := hr.cell 2 rfl
  have r3 := hr.cell 3 rfl
  have r4 := hr.cell 4 rfl
  have r5 := hr.cell 5 rfl
  have HR1 := Lib.hid hr
  clear b1 bA HM HZ HH HT hr hm1
  go_wp2_with fail
  generalize w1.alloc (.cells #[.int .i64 1, .int .i64 1, .int .i64 2, .int .i64 2, .int .i64 1, .bool false] 37) = u1 at *
  refine (cin_any HH1.out hl ⟨⟨1, 1, 2, 2, 1⟩, false⟩ (.inl rfl)).mono ?_
  rintro e w2 ⟨rfl, b2⟩
  have HM2 := Lib.hid (HM1.out.below b2)
  have HZ2 := Lib.hid (HZ1.out.below b2)
  have HR2 := Lib.hid (HR1.out.below b2)
  have HH2 := Lib.hid (HH1.out.below b2)
  have HT2 := Lib.hid (HT1.out.trans (Turn.below b2))
  clear b2 HM1 HZ1 HR1 HH1 HT1 m11 m12 r0 r1 r2 r3 r4 r5
  go_wp2_with fail
  have S1 : w2.drew.cell? ⟨K.c, 5, none⟩ = some (.int .i64 0) ∧ w2.drew.cell? ⟨K.c, 6, none⟩ = some (.int .i64 0) := ⟨Bx.cell HH2.out.box 5 rfl, Bx.cell HH2.out.box 6 rfl⟩
  refine wp_region_held_drew (S := fun y => y.cell? ⟨K.c, 5, none⟩ = some (.int .i64 0) ∧ y.cell? ⟨K.c, 6, none⟩ = some (.int .i64 0)) (by kernel_rfl) (S1) (fun hHeld => ?_)
  refine wtk 0 25 (.pointer (some ⟨K.c, 0, none⟩)) rfl (by kernel_rfl) (fun _ _ _ h => h) (by rfl) (fun x hSw => by obtain ⟨d0, d1⟩ := id hSw; (go_simp) <;> first | decide | exact IntWalk.i64_in _ (by omega)) (by assumption) ?_
  try simp only [Act.put, pw]
  refine wtk 1 26 (.pointer (some ⟨K.c, 0, none⟩)) rfl (by kernel_rfl) (fun _ _ _ h => h) (by rfl) (fun x hSw => by obtain ⟨d0, d1⟩ := id hSw; (go_simp) <;> first | decide | exact IntWalk.i64_in _ (by omega)) (by assumption) ?_
  try simp only [Act.put, pw]
  refine wtk 2 27 (.pointer (some ⟨K.c, 5, none⟩)) rfl (by kernel_rfl) (fun _ _ _ h => h) (by rfl) (fun x hSw => by obtain ⟨d0, d1⟩ := id hSw; (go_simp) <;> first | decide | exact IntWalk.i64_in _ (by omega)) (by assumption) ?_
  try simp only [Act.put, pw]
  refine wtk 3 28 (.int .i64 0) rfl (by kernel_rfl) (fun _ _ _ h => h) (by rfl) (fun x hSw => by obtain ⟨d0, d1⟩ := id hSw; (go_simp) <;> first | decide | exact IntWalk.i64_in _ (by omega)) (by assumption) ?_
  try simp only [Act.put, pw]
  refine wtk 4 29 (.pointer (some ⟨K.c, 0, none⟩)) rfl (by kernel_rfl) (fun _ _ _ h => h) (by rfl) (fun x hSw => by obtain ⟨d0, d1⟩ := id hSw; (go_simp) <;> first | decide | exact IntWalk.i64_in _ (by omega)) (by assumption) ?_
  try simp only [Act.put, pw]
  refine wtk 5 30 (.pointer (some ⟨K.c, 0, none⟩)) rfl (by kernel_rfl) (fun _ _ _ h => h) (by rfl) (fun x hSw => by obtain ⟨d0, d1⟩ := id hSw; (go_simp) <;> first | decide | exact IntWalk.i64_in _ (by omega)) (by assumption) ?_
  try simp only [Act.put, pw]
  refine wtk 6 31 (.pointer (some ⟨K.c, 6, none⟩)) rfl (by kernel_rfl) (fun _ _ _ h => h) (by rfl) (fun x hSw => by obtain ⟨d0, d1⟩ := id hSw; (go_simp) <;> first | decide | exact IntWalk.i64_in _ (by omega)) (by assumption) ?_
  try simp only [Act.put, pw]
  refine wtk 7 32 (.int .i64 0) rfl (by kernel_rfl) (fun _ _ _ h => h) (by rfl) (fun x hSw => by obtain ⟨d0, d1⟩ := id hSw; (go_simp) <;> first | decide | exact IntWalk.i64_in _ (by omega)) (by assumption) ?_
  try simp only [Act.put, pw]
  refine wtk 8 33 (.bool false) rfl (by kernel_rfl) (fun _ _ _ h => h) (by rfl) (fun x hSw => by obtain ⟨d0, d1⟩ := id hSw; (go_simp) <;> first | decide | exact IntWalk.i64_in _ (by omega)) (by assumption) ?_
  try simp only [Act.put, pw]
  refine wtk 9 24 (.bool false) rfl (by kernel_rfl) (fun _ _ _ h => h) (by rfl) (fun x hSw => by obtain ⟨d0, d1⟩ := id hSw; (go_simp) <;> first | decide | exact IntWalk.i64_in _ (by omega)) (by assumption) ?_
  try simp only [Act.put, pw]
  refine wpAnyH_done (by kernel_rfl) ?_ _
  clear S1 hHeld
  go_wp2_with fail
  have HM2 := Lib.hid (HM2.out.below (bl_drew (bl0 _)).out)
  have HZ2 := Lib.hid (HZ2.out.below (bl_drew (bl0 _)).out)
  have HR2 := Lib.hid (HR2.out.below (bl_drew (bl0 _)).out)
  have HH2 := Lib.hid (HH2.out.below (bl_drew (bl0 _)).out)
  have HT2 := Lib.hid (HT2.out.drew)
  generalize w2.drew = w2 at *
  have n1 : ¬ K.c = K.bm := Cols.ne HH2.out.cols.c HH2.out.cols.bm (by decide)
  have n2 : ¬ w.heap.size = K.bm := Cols.ne hnew0 HH2.out.cols.bm (by decide)
  have n3 : ¬ w1.heap.size = K.bm := Cols.ne hnew2 HH2.out.cols.bm (by decide)
  have n4 : ¬ w.heap.size + 1 = K.bm := Cols.ne hnew1 HH2.out.cols.bm (by decide)
  have KC : Hid (∀ y, Hid (Turn (fun i => i = K.bm) w2 y) → (y.cell? ⟨K.c, 5, none⟩ = some (.int .i64 0) ∧ y.cell? ⟨K.c, 7, none⟩ = some (.pointer (some ⟨K.g, 0, none⟩)) ∧ y.cell? ⟨w.heap.size, 11, none⟩ = some (.int .i64 1) ∧ y.cell? ⟨w1.heap.size, 3, none⟩ = some (.int .i64 2))) := fun y b => ⟨(Bx.turn HH2.out.box b.out n1).cell 5 rfl, (Bx.turn HH2.out.box b.out n1).cell 7 rfl, (HM2.out.turn b.out n2).cell 11 rfl, (HR2.out.turn b.out n3).cell 3 rfl⟩
  have T1 : Hid (Turn (fun i => i = K.bm) w2 w2.drew) := (Turn.refl _ _).drew
  refine wp_region_held_drew (S := fun y => (y.cell? ⟨K.c, 5, none⟩ = some (.int .i64 0) ∧ y.cell? ⟨K.c, 7, none⟩ = some (.pointer (some ⟨K.g, 0, none⟩)) ∧ y.cell? ⟨w.heap.size, 11, none⟩ = some (.int .i64 1) ∧ y.cell? ⟨w1.heap.size, 3, none⟩ = some (.int .i64 2)) ∧ Hid (Turn (fun i => i = K.bm) w2 y)) (by kernel_rfl) (tkp KC T1) (fun hHeld => ?_)
  refine wtk 0 35 (.pointer (some ⟨K.c, 0, none⟩)) rfl (by kernel_rfl) (fun _ _ _ h => h) (by rfl) (fun x hSw => by obtain ⟨⟨d0, d1, d2, d3⟩, _⟩ := id hSw; (go_simp) <;> first | decide | exact IntWalk.i64_in _ (by omega)) (by assumption) ?_
  try simp only [Act.put, pw]
  refine wtk 1 36 (.pointer (some ⟨K.c, 0, none⟩)) rfl (by kernel_rfl) (fun _ _ _ h => h) (by rfl) (fun x hSw => by obtain ⟨⟨d0, d1, d2, d3⟩, _⟩ := id hSw; (go_simp) <;> first | decide | exact IntWalk.i64_in _ (by omega)) (by assumption) ?_
  try simp only [Act.put, pw]
  refine wtk 2 37 (.pointer (some ⟨K.c, 7, none⟩)) rfl (by kernel_rfl) (fun _ _ _ h => h) (by rfl) (fun x hSw => by obtain ⟨⟨d0, d1, d2, d3⟩, _⟩ := id hSw; (go_simp) <;> first | decide | exact IntWalk.i64_in _ (by omega)) (by assumption) ?_
  try simp only [Act.put, pw]
  refine wtk 3 38 (.pointer (some ⟨K.g, 0, none⟩)) rfl (by kernel_rfl) (fun _ _ _ h => h) (by rfl) (fun x hSw => by obtain ⟨⟨d0, d1, d2, d3⟩, _⟩ := id hSw; (go_simp) <;> first | decide | exact IntWalk.i64_in _ (by omega)) (by assumption) ?_
  try simp only [Act.put, pw]
  refine wtk 4 39 (.pointer (some ⟨w.heap.size, 11, none⟩)) rfl (by kernel_rfl) (fun _ _ _ h => h) (by rfl) (fun x hSw => by obtain ⟨⟨d0, d1, d2, d3⟩, _⟩ := id hSw; (go_simp) <;> first | decide | exact IntWalk.i64_in _ (by omega)) (by assumption) ?_
  try simp only [Act.put, pw]
  refine wtk 5 40 (.int .i64 1) rfl (by kernel_rfl) (fun _ _ _ h => h) (by rfl) (fun x hSw => by obtain ⟨⟨d0, d1, d2, d3⟩, _⟩ := id hSw; (go_simp) <;> first | decide | exact IntWalk.i64_in _ (by omega)) (by assumption) ?_
  try simp only [Act.put, pw]
  refine wtk 6 41 (.pointer (some ⟨w1.heap.size, 0, none⟩)) rfl (by kernel_rfl) (fun _ _ _ h => h) (by rfl) (fun x hSw => by obtain ⟨⟨d0, d1, d2, d3⟩, _⟩ := id hSw; (go_simp) <;> first | decide | exact IntWalk.i64_in _ (by omega)) (by assumption) ?_
  try simp only [Act.put, pw]
  refine wtk 7 42 (.pointer (some ⟨w1.heap.size, 3, none⟩)) rfl (by kernel_rfl) (fun _ _ _ h => h) (by rfl) (fun x hSw => by obtain ⟨⟨d0, d1, d2, d3⟩, _⟩ := id hSw; (go_simp) <;> first | decide | exact IntWalk.i64_in _ (by omega)) (by assumption) ?_
  try simp only [Act.put, pw]
  refine wtk 8 43 (.int .i64 2) rfl (by kernel_rfl) (fun _ _ _ h => h) (by rfl) (fun x hSw => by obtain ⟨⟨d0, d1, d2, d3⟩, _⟩ := id hSw; (go_simp) <;> first | decide | exact IntWalk.i64_in _ (by omega)) (by assumption) ?_
  try simp only [Act.put, pw]
  refine wtk 9 44 (.pointer (some ⟨K.c, 0, none⟩)) rfl (by kernel_rfl) (fun _ _ _ h => h) (by rfl) (fun x hSw => by obtain ⟨⟨d0, d1, d2, d3⟩, _⟩ := id hSw; (go_simp) <;> first | decide | exact IntWalk.i64_in _ (by omega)) (by assumption) ?_
  try simp only [Act.put, pw]
  refine wtk 10 45 (.pointer (some ⟨K.c, 0, none⟩)) rfl (by kernel_rfl) (fun _ _ _ h => h) (by rfl) (fun x hSw => by obtain ⟨⟨d0, d1, d2, d3⟩, _⟩ := id hSw; (go_simp) <;> first | decide | exact IntWalk.i64_in _ (by omega)) (by assumption) ?_
  try simp only [Act.put, pw]
  refine wtk 11 46 (.pointer (some ⟨K.c, 5, none⟩)) rfl (by kernel_rfl) (fun _ _ _ h => h) (by rfl) (fun x hSw => by obtain ⟨⟨d0, d1, d2, d3⟩, _⟩ := id hSw; (go_simp) <;> first | decide | exact IntWalk.i64_in _ (by omega)) (by assumption) ?_
  try simp only [Act.put, pw]
  refine wtk 12 47 (.int .i64 0) rfl (by kernel_rfl) (fun _ _ _ h => h) (by rfl) (fun x hSw => by obtain ⟨⟨d0, d1, d2, d3⟩, _⟩ := id hSw; (go_simp) <;> first | decide | exact IntWalk.i64_in _ (by omega)) (by assumption) ?_
  try simp only [Act.put, pw]
  refine wpAnyH_ready (rs := [13]) (by kernel_rfl) (by simp) (AllReadyH.cons rfl (fun KK hK => ?_) AllReadyH.nil)
  go_simp
  obtain ⟨gn, hgn, hG⟩ := HH2.out.grd
  refine (Grd.relO (gv_turn hG (Turn.below (S := fun _ => False) (bl_drew (bl0 _)).out) (fun h => h) (fun h => h)) (by omega) 1 2 0 (by decide) ⟨by decide, by decide, by decide, by decide⟩ (by rw [hnx]; decide)).mono ?_
  rintro e w3 ⟨rfl, hG3, hg3⟩
  have T3 : Hid (Turn (fun i => i = K.bm) w2 w3) := T1.out.trans (Turn.grown hg3 (fun j hj _ => (Option.some.inj hj).symm))
  have HG3 : Hid (PGrd w3 K (Grd.upd gm 1 (some (0, 0 + 2))) (u + 1)) := ⟨gn + 1, by omega, hG3⟩
  refine hK.out _ _ (tkp KC T3) (fun hHeld => ?_)
  clear hK KK
  clear hG hG3 hg3 T1
  try simp only [Act.put, pw]
  refine wtk 14 6 (.int .i64 0) rfl (by kernel_rfl) (fun _ _ _ h => h) (by rfl) (fun x hSw => by obtain ⟨⟨d0, d1, d2, d3⟩, _⟩ := id hSw; (go_simp) <;> first | decide | exact IntWalk.i64_in _ (by omega)) (by assumption) ?_
  try simp only [Act.put, pw]
  refine wpAnyH_done (by kernel_rfl) ?_ _
  have hm3 := HM2.out.turn T3.out n2
  have hr3 := HR2.out.turn T3.out n3
  have HM3 := Lib.hid hm3
  have HR3 := Lib.hid hr3
  have HZ3 := Lib.hid (HZ2.out.turn T3.out n4)
  have HT3 := Lib.hid (HT2.out.trans (Ctl.own T3.out HH2.out.cols.bm (by decide)))
  have HH3 := Lib.hid ((HH2.out.more (Nat.le_succ u)).setGrd T3.out HG3.out)
  have m12 := hm3.cell 12 rfl
  have r0 := hr3.cell 0 rfl
  have r1 := hr3.cell 1 rfl
  have r2 := hr3.cell 2 rfl
  have r3 := hr3.cell 3 rfl
  have r4 := hr3.cell 4 rfl
  have r5 := hr3.cell 5 rfl
  clear KC hHeld T3 HG3 HH2 HM2 HR2 HZ2 HT2 n1 n2 n3 n4 hm3 hr3
  go_wp2_with fail
  refine (creleases_any HH3.out ⟨1, 1, 2, 2, 1⟩ 1 (by simp) ⟨by decide, by decide, by decide, by decide, by decide, by decide⟩ (by simp) (by omega) (by decide)).mono ?_
  rintro e w4 ⟨rfl, ⟨js', h4, ha⟩, t4⟩
  have HZ4 := HZ3.out.turn t4 (fun h => h hnew1)
  have y0 := HZ4.cell 0 rfl
  have f0 := HZ4.free 0
  have y1 := HZ4.cell 1 rfl
  have f1 := HZ4.free 1
  have y2 := HZ4.cell 2 rfl
  have f2 := HZ4.free 2
  have y3 := HZ4.cell 3 rfl
  have f3 := HZ4.free 3
  have y4 := HZ4.cell 4 rfl
  have f4 := HZ4.free 4
  have y5 := HZ4.cell 5 rfl
  have f5 := HZ4.free 5
  have y6 := HZ4.cell 6 rfl
  have f6 := HZ4.free 6
  have y7 := HZ4.cell 7 rfl
  have f7 := HZ4.free 7
  have y8 := HZ4.cell 8 rfl
  have f8 := HZ4.free 8
  have y9 := HZ4.cell 9 rfl
  have f9 := HZ4.free 9
  have y10 := HZ4.cell 10 rfl
  have f10 := HZ4.free 10
  have HZ4 := Lib.hid HZ4
  have HT4 := Lib.hid (HT3.out.trans t4)
  have HC4 := Lib.hid h4
  have hjs : js' = [⟨1, 0, 2, 1⟩] := by
    rcases ha with ⟨h, _⟩ | ⟨_, rfl | rfl⟩
    · simp at h
    · rfl
    · rfl
  clear t4 h4 ha HZ3 HT3 m12
  go_wp2_with fail
  have s0 := Bx.set (w := w4) HZ4.out 0 (.int .i64 0) _ rfl
  have s1 := Bx.set (w := _) s0 1 (.slice none 0 0) _ rfl
  have s2 := Bx.set (w := _) s1 2 (.int .i64 0) _ rfl
  have s3 := Bx.set (w := _) s2 3 (.int .i64 0) _ rfl
  have s4 := Bx.set (w := _) s3 4 (.int .i64 0) _ rfl
  have s5 := Bx.set (w := _) s4 5 (.int .i64 0) _ rfl
  have s6 := Bx.set (w := _) s5 6 (.int .i64 0) _ rfl
  have s7 := Bx.set (w := _) s6 7 (.bool false) _ rfl
  have s8 := Bx.set (w := _) s7 8 (.int .i64 0) _ rfl
  have s9 := Bx.set (w := _) s8 9 (.int .i64 0) _ rfl
  have s10 := Bx.set (w := _) s9 10 (.slice none 0 0) _ rfl
  have e0 := s10.cell 0 rfl
  have e1 := s10.cell 1 rfl
  have e2 := s10.cell 2 rfl
  have e3 := s10.cell 3 rfl
  have e4 := s10.cell 4 rfl
  have e5 := s10.cell 5 rfl
  have e6 := s10.cell 6 rfl
  have e7 := s10.cell 7 rfl
  have e8 := s10.cell 8 rfl
  have e9 := s10.cell 9 rfl
  have e10 := s10.cell 10 rfl
  have ts : Turn (fun i => i = w.heap.size + 1) w4 (((((((((((w4.setCell ⟨w.heap.size + 1, 0, none⟩ (.int .i64 0)).setCell ⟨w.heap.size + 1, 1, none⟩ (.slice none 0 0)).setCell ⟨w.heap.size + 1, 2, none⟩ (.int .i64 0)).setCell ⟨w.heap.size + 1, 3, none⟩ (.int .i64 0)).setCell ⟨w.heap.size + 1, 4, none⟩ (.int .i64 0)).setCell ⟨w.heap.size + 1, 5, none⟩ (.int .i64 0)).setCell ⟨w.heap.size + 1, 6, none⟩ (.int .i64 0)).setCell ⟨w.heap.size + 1, 7, none⟩ (.bool false)).setCell ⟨w.heap.size + 1, 8, none⟩ (.int .i64 0)).setCell ⟨w.heap.size + 1, 9, none⟩ (.int .i64 0)).setCell ⟨w.heap.size + 1, 10, none⟩ (.slice none 0 0)) := (((((((((((Turn.set (S := fun i => i = w.heap.size + 1) _ _ _ _ rfl).trans (Turn.set _ _ _ _ rfl)).trans (Turn.set _ _ _ _ rfl)).trans (Turn.set _ _ _ _ rfl)).trans (Turn.set _ _ _ _ rfl)).trans (Turn.set _ _ _ _ rfl)).trans (Turn.set _ _ _ _ rfl)).trans (Turn.set _ _ _ _ rfl)).trans (Turn.set _ _ _ _ rfl)).trans (Turn.set _ _ _ _ rfl)).trans (Turn.set _ _ _ _ rfl))
  refine bodyPost_ret (v := .agg #[.int .i64 0, .slice none 0 0, .int .i64 0, .int .i64 0, .int .i64 0, .int .i64 0, .int .i64 0, .bool false, .int .i64 0, .int .i64 0, .slice none 0 0]) (by simp [results, Tryz.results28, go_sem, e0, e1, e2, e3, e4, e5, e6, e7, e8, e9, e10]) rfl ?_
  exact ⟨rfl, ⟨_, js', HC4.out.away ts hnew1 (fun l h => Bx.ne h HZ4.out (by decide) rfl), hjs⟩, HT4.out.then ts (fun i hi e => by omega)⟩
end
end Go.Proofs.YtoichcickcgbgaaGreatDoor
