/-
  The control's goes: an admission takes nothing away.
  The control, where its registry has turned: the new blocks are coloured.
-/
import Derived.Test.YtoichcickcgbgaaGreatDoorGCrCp
namespace Go.Proofs.YtoichcickcgbgaaGreatDoor
open Go.RowKit
attribute [local go_sem] Oper.semAt_some
attribute [local go_sem] run_store_func
section
variable {w : World} {col : Nat → Nat} {K : Ck} {n0 t : Int} {rs : List Rk} {gm : Int → Option (Int × Int)} {js : List Jb} {u : Nat}
set_option linter.unusedSimpArgs false in
set_option maxRecDepth 100000 in
set_option maxHeartbeats 4000000 in
theorem cgoes_any (H : Ctl w col K n0 t rs gm js u) {x : Rk} (hk : Rws (rs ++ [x])) :
    Calls Tryz.prog 51 #[.pointer (some ⟨K.c, 0, none⟩), .agg #[.int .i64 1, .int .i64 x.k.id, .int .i64 x.k.c, .int .i64 x.k.d, .int .i64 x.k.t, .int .i64 x.k.m, .bool x.s, .int .i64 0, .int .i64 0, .int .i64 0]] w fun e w' => e = .returned (.slice none 0 0) ∧ Below w.heap.size w w' := by
  have hl : rs.length ≤ 2 := by have := hk.len; simp at this; omega
  have b0 := (Below.refl w.heap.size w).alloc (Nat.le_refl _) (.cells #[.int .i64 1, .int .i64 x.k.id, .int .i64 x.k.c, .int .i64 x.k.d, .int .i64 x.k.t, .int .i64 x.k.m, .bool x.s, .int .i64 0, .int .i64 0, .int .i64 0] 43)
  have HM := Lib.hid (Bx.new w [.int .i64 1, .int .i64 x.k.id, .int .i64 x.k.c, .int .i64 x.k.d, .int .i64 x.k.t, .int .i64 x.k.m, .bool x.s, .int .i64 0, .int .i64 0, .int .i64 0] 43)
  have HH := Lib.hid (H.below b0)
  have HB := Lib.hid b0
  have HA := Lib.hid (fun (y : World) (v : Value) (h : Vr y v rs) => apply_any (w := y) h hk)
  have hv : av x = .agg #[.int .i64 1, .int .i64 x.k.id, .int .i64 x.k.c, .int .i64 x.k.d, .int .i64 x.k.t, .int .i64 x.k.m, .bool x.s, .int .i64 0, .int .i64 0, .int .i64 0] := rfl
  rw [hv] at HA
  have HNE := Lib.hid (show rs ++ [x] ≠ [] by simp)
  clear b0 H hv
  go_enter Tryz.func51, Tryz.ntmps51
  go_wp2_with fail
  generalize w.alloc (.cells #[.int .i64 1, .int .i64 x.k.id, .int .i64 x.k.c, .int .i64 x.k.d, .int .i64 x.k.t, .int .i64 x.k.m, .bool x.s, .int .i64 0, .int .i64 0, .int .i64 0] 43) = u0 at *
  have hs0 : w.heap.size < u0.heap.size := HM.out.lt
  go_step3
  go_upto_region 1 with fail
  go_cut [5, 6] (fun s5 s6 wx => ∃ (p : Nat) (ob : Option Addr) (mm cc : Nat), s5 = .pointer (some ⟨p, 0, none⟩) ∧ s6 = .int .i64 0 ∧ Hid (Bx wx p 79 [.slice ob mm cc, .int .i64 0]) ∧ Hid (Vr wx (.slice ob mm cc) (rs ++ [x])) ∧ Hid (Below u0.heap.size u0 wx))
  case first =>
    go_wp2_with fail
    have KC : Hid (∀ y, Hid (Below u0.heap.size u0 y) → (y.cell? ⟨w.heap.size, 0, none⟩ = some (.int .i64 1) ∧ y.cell? ⟨w.heap.size, 1, none⟩ = some (.int .i64 x.k.id) ∧ y.cell? ⟨w.heap.size, 2, none⟩ = some (.int .i64 x.k.c) ∧ y.cell? ⟨w.heap.size, 3, none⟩ = some (.int .i64 x.k.d) ∧ y.cell? ⟨w.heap.size, 4, none⟩ = some (.int .i64 x.k.t) ∧ y.cell? ⟨w.heap.size, 5, none⟩ = some (.int .i64 x.k.m) ∧ y.cell? ⟨w.heap.size, 6, none⟩ = some (.bool x.s) ∧ y.cell? ⟨w.heap.size, 7, none⟩ = some (.int .i64 0) ∧ y.cell? ⟨w.heap.size, 8, none⟩ = some (.int .i64 0) ∧ y.cell? ⟨w.heap.size, 9, none⟩ = some (.int .i64 0))) := fun y h => ⟨(HM.out.below h.out).cell 0 rfl, (HM.out.below h.out).cell 1 rfl, (HM.out.below h.out).cell 2 rfl, (HM.out.below h.out).cell 3 rfl, (HM.out.below h.out).cell 4 rfl, (HM.out.below h.out).cell 5 rfl, (HM.out.below h.out).cell 6 rfl, (HM.out.below h.out).cell 7 rfl, (HM.out.below h.out).cell 8 rfl, (HM.out.below h.out).cell 9 rfl⟩
    have B1 : Hid (Below u0.heap.size u0 u0.drew) := bl_drew (bl0 _)
    refine wp_region_held_drew (S := fun y => (y.cell? ⟨w.heap.size, 0, none⟩ = some (.int .i64 1) ∧ y.cell? ⟨w.heap.size, 1, none⟩ = some (.int .i64 x.k.id) ∧ y.cell? ⟨w.heap.size, 2, none⟩ = some (.int .i64 x.k.c) ∧ y.cell? ⟨w.heap.size, 3, none⟩ = some (.int .i64 x.k.d) ∧ y.cell? ⟨w.heap.size, 4, none⟩ = some (.int .i64 x.k.t) ∧ y.cell? ⟨w.heap.size, 5, none⟩ = some (.int .i64 x.k.m) ∧ y.cell? ⟨w.heap.size, 6, none⟩ = some (.bool x.s) ∧ y.cell? ⟨w.heap.size, 7, none⟩ = some (.int .i64 0) ∧ y.cell? ⟨w.heap.size, 8, none⟩ = some (.int .i64 0) ∧ y.cell? ⟨w.heap.size, 9, none⟩ = some (.int .i64 0)) ∧ Hid (Below u0.heap.size u0 y)) (by kernel_rfl) (skeep KC B1) (fun hHeld => ?_)
    refine wtk 0 13 (.pointer (some ⟨K.c, 0, none⟩)) rfl (by kernel_rfl) (fun _ _ _ h => h) (by rfl) (fun x hSw => by obtain ⟨⟨d0, d1, d2, d3, d4, d5, d6, d7, d8, d9⟩, _⟩ := id hSw; (go_simp) <;> first | decide | exact IntWalk.i64_in _ (by omega)) (by assumption) ?_
    try simp only [Act.put, pw]
    refine wtk 2 15 (.agg #[.int .i64 1, .int .i64 x.k.id, .int .i64 x.k.c, .int .i64 x.k.d, .int .i64 x.k.t, .int .i64 x.k.m, .bool x.s, .int .i64 0, .int .i64 0, .int .i64 0]) rfl (by kernel_rfl) (fun _ _ _ h => h) (by rfl) (fun x hSw => by obtain ⟨⟨d0, d1, d2, d3, d4, d5, d6, d7, d8, d9⟩, _⟩ := id hSw; (go_simp) <;> first | decide | exact IntWalk.i64_in _ (by omega)) (by assumption) ?_
    try simp only [Act.put, pw]
    refine wpAnyH_ready (rs := [1, 7]) (by kernel_rfl) (by simp) (AllReadyH.cons rfl (fun KK hK => ?_) (AllReadyH.cons rfl (fun KK hK => ?_) AllReadyH.nil))
    · go_simp
      refine (ctable_any (HH.out.below B1.out) hl).mono ?_
      rintro e w2 ⟨oa, nn, cap, rfl, hv, -, b2⟩
      have B2 := bl_below B1 b2
      have HV := Lib.hid hv
      refine hK.out _ _ (skeep KC B2) (fun hHeld => ?_)
      clear hK KK
      clear b2 hv
      try simp only [Act.put, pw]
      refine wpAnyH_ready (rs := [3, 7]) (by kernel_rfl) (by simp) (AllReadyH.cons rfl (fun KK hK => ?_) (AllReadyH.cons rfl (fun KK hK => ?_) AllReadyH.nil))
      · go_simp
        refine (HA.out _ _ HV.out).mono ?_
        rintro e w3 ⟨v3, rfl, hv3, hf3, b3⟩
        obtain ⟨ob, cc, hvv, -, -⟩ := hv3.1
        subst hvv
        generalize (rs ++ [x]).length = mm at *
        have B3 := bl_below B2 b3
        have HV3 := Lib.hid hv3
        have HF3 := Lib.hid hf3
        refine hK.out _ _ (skeep KC B3) (fun hHeld => ?_)
        clear hK KK
        clear b3 hv3 hf3
        try simp only [Act.put, pw]
        refine wtk 4 12 (.tuple #[.agg #[.slice ob mm cc, .int .i64 0], .int .i64 0]) rfl (by kernel_rfl) (fun _ _ _ h => h) (by rfl) (fun x hSw => by obtain ⟨⟨d0, d1, d2, d3, d4, d5, d6, d7, d8, d9⟩, _⟩ := id hSw; (go_simp) <;> first | decide | exact IntWalk.i64_in _ (by omega)) (by assumption) ?_
        try simp only [Act.put, pw]
        refine wtk 5 17 (.agg #[.slice ob mm cc, .int .i64 0]) rfl (by kernel_rfl) (fun _ _ _ h => h) (by rfl) (fun x hSw => by obtain ⟨⟨d0, d1, d2, d3, d4, d5, d6, d7, d8, d9⟩, _⟩ := id hSw; (go_simp) <;> first | decide | exact IntWalk.i64_in _ (by omega)) (by assumption) ?_
        try simp only [Act.put, pw]
        refine wtk 6 18 (.int .i64 0) rfl (by kernel_rfl) (fun _ _ _ h => h) (by rfl) (fun x hSw => by obtain ⟨⟨d0, d1, d2, d3, d4, d5, d6, d7, d8, d9⟩, _⟩ := id hSw; (go_simp) <;> first | decide | exact IntWalk.i64_in _ (by omega)) (by assumption) ?_
        try simp only [Act.put, pw]
        refine wpAnyH_ready (rs := [7]) (by kernel_rfl) (by simp) (AllReadyH.cons rfl (fun KK hK => ?_) AllReadyH.nil)
        go_simp
        have B5 := bl_alloc (.cells #[.slice none 0 0, .int .i64 0] 79) B3
        refine hK.out _ _ (skeep KC B5) (fun hHeld => ?_)
        clear hK KK
        have hZ := Bx.new w3 [.slice none 0 0, .int .i64 0] 79
        have f0 := hZ.free 0
        have z0 := hZ.cell 0 rfl
        have f1 := hZ.free 1
        have z1 := hZ.cell 1 rfl
        clear hZ B5
        try simp only [Act.put, pw]
        refine wpAnyH_ready (rs := [8]) (by kernel_rfl) (by simp) (AllReadyH.cons rfl (fun KK hK => ?_) AllReadyH.nil)
        go_simp
        have B6 := bl_alloc (.cells #[.slice ob mm cc, .int .i64 0] 79) B3
        refine hK.out _ _ (skeep KC B6) (fun hHeld => ?_)
        clear hK KK
        try simp only [Act.put, pw]
        refine wtk 9 6 (.int .i64 0) rfl (by kernel_rfl) (fun _ _ _ h => h) (by rfl) (fun x hSw => by obtain ⟨⟨d0, d1, d2, d3, d4, d5, d6, d7, d8, d9⟩, _⟩ := id hSw; (go_simp) <;> first | decide | exact IntWalk.i64_in _ (by omega)) (by assumption) ?_
        try simp only [Act.put, pw]
        refine wpAnyH_done (by kernel_rfl) ?_ _
        go_wp2_with fail
        go_meet
        exact ⟨_, _, _, _, rfl, rfl, Bx.new w3 [.slice ob mm cc, .int .i64 0] 79, HV3.out.below ((Below.refl _ _).alloc (Nat.le_refl _) _), B6⟩
      · go_simp
        have B4 := bl_alloc (.cells #[.slice none 0 0, .int .i64 0] 79) B2
        have hZ := Bx.new w2 [.slice none 0 0, .int .i64 0] 79
        have hPs : u0.heap.size ≤ w2.heap.size := B2.out.size
        refine hK.out _ _ (skeep KC B4) (fun hHeld => ?_)
        clear hK KK
        try simp only [Act.put, pw]
        refine wpAnyH_ready (rs := [3]) (by kernel_rfl) (by simp) (AllReadyH.cons rfl (fun KK hK => ?_) AllReadyH.nil)
        go_simp
        refine (HA.out _ _ (HV.out.below ((Below.refl _ _).alloc (Nat.le_refl _) _))).mono ?_
        rintro e w3 ⟨v3, rfl, hv3, hf3, b3⟩
        obtain ⟨ob, cc, hvv, -, -⟩ := hv3.1
        subst hvv
        generalize (rs ++ [x]).length = mm at *
        have B3 := bl_below B4 b3
        have HV3 := Lib.hid hv3
        have HF3 := Lib.hid hf3
        refine hK.out _ _ (skeep KC B3) (fun hHeld => ?_)
        clear hK KK
        have HP := Lib.hid (hZ.below b3)
        clear b3 hv3 hf3
        try simp only [Act.put, pw]
        refine wtk 4 12 (.tuple #[.agg #[.slice ob mm cc, .int .i64 0], .int .i64 0]) rfl (by kernel_rfl) (fun _ _ _ h => h) (by rfl) (fun x hSw => by obtain ⟨⟨d0, d1, d2, d3, d4, d5, d6, d7, d8, d9⟩, _⟩ := id hSw; (go_simp) <;> first | decide | exact IntWalk.i64_in _ (by omega)) (by assumption) ?_
        try simp only [Act.put, pw]
        refine wtk 5 17 (.agg #[.slice ob mm cc, .int .i64 0]) rfl (by kernel_rfl) (fun _ _ _ h => h) (by rfl) (fun x hSw => by obtain ⟨⟨d0, d1, d2, d3, d4, d5, d6, d7, d8, d9⟩, _⟩ := id hSw; (go_simp) <;> first | decide | exact IntWalk.i64_in _ (by omega)) (by assumption) ?_
        try simp only [Act.put, pw]
        refine wtk 6 18 (.int .i64 0) rfl (by kernel_rfl) (fun _ _ _ h => h) (by rfl) (fun x hSw => by obtain ⟨⟨d0, d1, d2, d3, d4, d5, d6, d7, d8, d9⟩, _⟩ := id hSw; (go_simp) <;> first | decide | exact IntWalk.i64_in _ (by omega)) (by assumption) ?_
        try simp only [Act.put, pw]
        refine wpAnyH_ready (rs := [8]) (by kernel_rfl) (by simp) (AllReadyH.cons rfl (fun KK hK => ?_) AllReadyH.nil)
        go_simp
        have f0 := HP.out.free 0
        have z0 := HP.out.cell 0 rfl
        have f1 := HP.out.free 1
        have z1 := HP.out.cell 1 rfl
        go_simp
        have s0 := Bx.set (w := w3) HP.out 0 (.slice ob mm cc) _ rfl
        have s1 := Bx.set (w := _) s0 1 (.int .i64 0) _ rfl
        have e0 := s1.cell 0 rfl
        have e1 := s1.cell 1 rfl
        have ts : Turn (fun i => i = w2.heap.size) w3 ((w3.setCell ⟨w2.heap.size, 0, none⟩ (.slice ob mm cc)).setCell ⟨w2.heap.size, 1, none⟩ (.int .i64 0)) := ((Turn.set (S := fun i => i = w2.heap.size) _ _ _ _ rfl).trans (Turn.set _ _ _ _ rfl))
        have B6 : Hid (Below u0.heap.size u0 ((w3.setCell ⟨w2.heap.size, 0, none⟩ (.slice ob mm cc)).setCell ⟨w2.heap.size, 1, none⟩ (.int .i64 0))) := ((Turn.below B3.out).then (S := fun i => i = w2.heap.size) ts (fun i _ h => h)).fresh (fun i hi e => by omega)
        refine hK.out _ _ (skeep KC B6) (fun hHeld => ?_)
        clear hK KK
        try simp only [Act.put, pw]
        refine wtk 9 6 (.int .i64 0) rfl (by kernel_rfl) (fun _ _ _ h => h) (by rfl) (fun x hSw => by obtain ⟨⟨d0, d1, d2, d3, d4, d5, d6, d7, d8, d9⟩, _⟩ := id hSw; (go_simp) <;> first | decide | exact IntWalk.i64_in _ (by omega)) (by assumption) ?_
        try simp only [Act.put, pw]
        refine wpAnyH_done (by kernel_rfl) ?_ _
        go_wp2_with fail
        go_meet
        exact ⟨_, _, _, _, rfl, rfl, s1, HV3.out.turn ts (fun hne g hg e => by have := HF3.out g hg; have := hZ.lt; omega), B6⟩
    · go_simp
      have B4 := bl_alloc (.cells #[.slice none 0 0, .int .i64 0] 79) B1
      have hZ : Bx (u0.drew.alloc (.cells #[.slice none 0 0, .int .i64 0] 79)) u0.heap.size 79 [.slice none 0 0, .int .i64 0] := Bx.new u0.drew [.slice none 0 0, .int .i64 0] 79
      refine hK.out _ _ (skeep KC B4) (fun hHeld => ?_)
      clear hK KK
      try simp only [Act.put, pw]
      refine wpAnyH_ready (rs := [1]) (by kernel_rfl) (by simp) (AllReadyH.cons rfl (fun KK hK => ?_) AllReadyH.nil)
      go_simp
      refine (ctable_any (HH.out.below B4.out) hl).mono ?_
      rintro e w2 ⟨oa, nn, cap, rfl, hv, -, b2⟩
      have B2 := bl_below B4 b2
      have HV := Lib.hid hv
      refine hK.out _ _ (skeep KC B2) (fun hHeld => ?_)
      clear hK KK
      have HP := Lib.hid (hZ.below b2)
      clear b2 hv
      try simp only [Act.put, pw]
      refine wpAnyH_ready (rs := [3]) (by kernel_rfl) (by simp) (AllReadyH.cons rfl (fun KK hK => ?_) AllReadyH.nil)
      go_simp
      refine (HA.out _ _ HV.out).mono ?_
      rintro e w3 ⟨v3, rfl, hv3, hf3, b3⟩
      obtain ⟨ob, cc, hvv, -, -⟩ := hv3.1
      subst hvv
      generalize (rs ++ [x]).length = mm at *
      have B3 := bl_below B2 b3
      have HV3 := Lib.hid hv3
      have HF3 := Lib.hid hf3
      refine hK.out _ _ (skeep KC B3) (fun hHeld => ?_)
      clear hK KK
      have HP3 := Lib.hid (HP.out.below b3)
      clear b3 hv3 hf3
      try simp only [Act.put, pw]
      refine wtk 4 12 (.tuple #[.agg #[.slice ob mm cc, .int .i64 0], .int .i64 0]) rfl (by kernel_rfl) (fun _ _ _ h => h) (by rfl) (fun x hSw => by obtain ⟨⟨d0, d1, d2, d3, d4, d5, d6, d7, d8, d9⟩, _⟩ := id hSw; (go_simp) <;> first | decide | exact IntWalk.i64_in _ (by omega)) (by assumption) ?_
      try simp only [Act.put, pw]
      refine wtk 5 17 (.agg #[.slice ob mm cc, .int .i64 0]) rfl (by kernel_rfl) (fun _ _ _ h => h) (by rfl) (fun x hSw => by obtain ⟨⟨d0, d1, d2, d3, d4, d5, d6, d7, d8, d9⟩, _⟩ := id hSw; (go_simp) <;> first | decide | exact IntWalk.i64_in _ (by omega)) (by assumption) ?_
      try simp only [Act.put, pw]
      refine wtk 6 18 (.int .i64 0) rfl (by kernel_rfl) (fun _ _ _ h => h) (by rfl) (fun x hSw => by obtain ⟨⟨d0, d1, d2, d3, d4, d5, d6, d7, d8, d9⟩, _⟩ := id hSw; (go_simp) <;> first | decide | exact IntWalk.i64_in _ (by omega)) (by assumption) ?_
      try simp only [Act.put, pw]
      refine wpAnyH_ready (rs := [8]) (by kernel_rfl) (by simp) (AllReadyH.cons rfl (fun KK hK => ?_) AllReadyH.nil)
      go_simp
      have f0 := HP3.out.free 0
      have z0 := HP3.out.cell 0 rfl
      have f1 := HP3.out.free 1
      have z1 := HP3.out.cell 1 rfl
      go_simp
      have s0 := Bx.set (w := w3) HP3.out 0 (.slice ob mm cc) _ rfl
      have s1 := Bx.set (w := _) s0 1 (.int .i64 0) _ rfl
      have e0 := s1.cell 0 rfl
      have e1 := s1.cell 1 rfl
      have ts : Turn (fun i => i = u0.heap.size) w3 ((w3.setCell ⟨u0.heap.size, 0, none⟩ (.slice ob mm cc)).setCell ⟨u0.heap.size, 1, none⟩ (.int .i64 0)) := ((Turn.set (S := fun i => i = u0.heap.size) _ _ _ _ rfl).trans (Turn.set _ _ _ _ rfl))
      have B6 : Hid (Below u0.heap.size u0 ((w3.setCell ⟨u0.heap.size, 0, none⟩ (.slice ob mm cc)).setCell ⟨u0.heap.size, 1, none⟩ (.int .i64 0))) := ((Turn.below B3.out).then (S := fun i => i = u0.heap.size) ts (fun i _ h => h)).fresh (fun i hi e => by omega)
      refine hK.out _ _ (skeep KC B6) (fun hHeld => ?_)
      clear hK KK
      try simp only [Act.put, pw]
      refine wtk 9 6 (.int .i64 0) rfl (by kernel_rfl) (fun _ _ _ h => h) (by rfl) (fun x hSw => by obtain ⟨⟨d0, d1, d2, d3, d4, d5, d6, d7, d8, d9⟩, _⟩ := id hSw; (go_simp) <;> first | decide | exact IntWalk.i64_in _ (by omega)) (by assumption) ?_
      try simp only [Act.put, pw]
      refine wpAnyH_done (by kernel_rfl) ?_ _
      go_wp2_with fail
      go_meet
      exact ⟨_, _, _, _, rfl, rfl, s1, HV3.out.turn ts (fun hne g hg e => by have := HF3.out g hg; have := HP.out.lt; omega), B6⟩
  case rest =>
    obtain ⟨p, ob, mm, cc, rfl, rfl, HX, HVX, HBX⟩ := hcut
    have HHX := Lib.hid (HH.out.below HBX.out)
    clear HM HH hs0
    go_wp2_with fail
    go_step3
    go_wp2_with fail
    have KC : Hid (∀ y, Hid (Below wc.heap.size wc y) → (y.cell? ⟨p, 0, none⟩ = some (.slice ob mm cc) ∧ y.cell? ⟨p, 1, none⟩ = some (.int .i64 0))) := fun y h => ⟨(HX.out.below h.out).cell 0 rfl, (HX.out.below h.out).cell 1 rfl⟩
    have B1 : Hid (Below wc.heap.size wc wc.drew) := bl_drew (bl0 _)
    refine wp_region_held_drew (S := fun y => (y.cell? ⟨p, 0, none⟩ = some (.slice ob mm cc) ∧ y.cell? ⟨p, 1, none⟩ = some (.int .i64 0)) ∧ Hid (Below wc.heap.size wc y)) (by kernel_rfl) (skeep KC B1) (fun hHeld => ?_)
    refine wtk 0 21 (.pointer (some ⟨K.c, 0, none⟩)) rfl (by kernel_rfl) (fun _ _ _ h => h) (by rfl) (fun x hSw => by obtain ⟨⟨d0, d1⟩, _⟩ := id hSw; (go_simp) <;> first | decide | exact IntWalk.i64_in _ (by omega)) (by assumption) ?_
    try simp only [Act.put, pw]
    refine wtk 2 23 (.agg #[.slice ob mm cc, .int .i64 0]) rfl (by kernel_rfl) (fun _ _ _ h => h) (by rfl) (fun x hSw => by obtain ⟨⟨d0, d1⟩, _⟩ := id hSw; (go_simp) <;> first | decide | exact IntWalk.i64_in _ (by omega)) (by assumption) ?_
    try simp only [Act.put, pw]
    refine wtk 5 26 (.int .i64 0) rfl (by kernel_rfl) (fun _ _ _ h => h) (by rfl) (fun x hSw => by obtain ⟨⟨d0, d1⟩, _⟩ := id hSw; (go_simp) <;> first | decide | exact IntWalk.i64_in _ (by omega)) (by assumption) ?_
    try simp only [Act.put, pw]
    refine wpAnyH_ready (rs := [1]) (by kernel_rfl) (by simp) (AllReadyH.cons rfl (fun KK hK => ?_) AllReadyH.nil)
    go_simp
    refine (ctable_any (HHX.out.below B1.out) hl).mono ?_
    rintro e w2 ⟨oa, nn, cap, rfl, hv, -, b2⟩
    have B2 := bl_below B1 b2
    have HV := Lib.hid hv
    refine hK.out _ _ (skeep KC B2) (fun hHeld => ?_)
    clear hK KK
    clear b2 hv
    try simp only [Act.put, pw]
    refine wpAnyH_ready (rs := [3]) (by kernel_rfl) (by simp) (AllReadyH.cons rfl (fun KK hK => ?_) AllReadyH.nil)
    go_simp
    refine (gone_any HV.out (HVX.out.below B2.out) hk).mono ?_
    rintro e w3 ⟨rfl, b3⟩
    have B3 := bl_below B2 b3
    refine hK.out _ _ (skeep KC B3) (fun hHeld => ?_)
    clear hK KK
    clear b3
    try simp only [Act.put, pw]
    refine wtk 4 25 (.int .i64 0) rfl (by kernel_rfl) (fun _ _ _ h => h) (by rfl) (fun x hSw => by obtain ⟨⟨d0, d1⟩, _⟩ := id hSw; (go_simp) <;> first | decide | exact IntWalk.i64_in _ (by omega)) (by assumption) ?_
    try simp only [Act.put, pw]
    refine wpAnyH_done (by kernel_rfl) ?_ _
    go_wp2_with fail
    refine wp_loop_rounds 1 ?_
    rw [rounds_succ]
    go_wp2_with fail
    rw [Exit.noGoto_ret]
    go_ret
    exact ⟨rfl, HB.out.trans ((HBX.out.trans (B3.out.mono HBX.out.size)).mono HB.out.size)⟩
end
end Go.Proofs.YtoichcickcgbgaaGreatDoor
namespace Go.Proofs.YtoichcickcgbgaaGreatDoor
open Go.RowKit
theorem Ctl.lt {w : World} {col : Nat → Nat} {K : Ck} {n0 t : Int} {rs : List Rk} {gm : Int → Option (Int × Int)} {js : List Jb} {u b k : Nat} (H : Ctl w col K n0 t rs gm js u) (hb : col b = k) (hk : k ≠ 0) : b < w.heap.size := by
  by_cases h : b < w.heap.size
  · exact h
  · exact (hk (hb.symm.trans (H.fresh b (by omega)))).elim
/-- The colours behind the registry's turn: a and b are the memory's sizes. -/
def newCol (col : Nat → Nat) (a b : Nat) (o : Option Nat) : Nat → Nat := fun i => if i < a then col i else if b ≤ i then 0 else if o = some i then 11 else 1
theorem newCol_old (col : Nat → Nat) {a b i : Nat} (o : Option Nat) (h : i < a) : newCol col a b o i = col i := by
  unfold newCol
  rw [if_pos h]
section
variable {w w' : World} {col : Nat → Nat} {K : Ck} {n0 t : Int} {rs rs' : List Rk} {gm : Int → Option (Int × Int)} {u : Nat} {S : Nat → Prop}
theorem Ctl.setReg (H : Ctl w col K n0 t rs gm [] u) (T : Turn S w w') (hS : ∀ i, i < w.heap.size → S i → col i = 1) {G : Nat → Prop} {r : Int} {v : Value} (hne : rs' ≠ [])
    (R : Rgs w' G K.q K.j K.n rs'.length r v rs') (hG : ∀ i, G i → i < w.heap.size → col i = 1) (hv : ∀ g, v.ownBlock = some g → w.heap.size ≤ g) : Ctl w' (newCol col w.heap.size w'.heap.size v.ownBlock) K n0 t rs' gm [] u := by
  have C := H.cols
  have o := fun b k (hb : col b = k) (hk : k ≠ 0) => (newCol_old col (b := w'.heap.size) v.ownBlock (H.lt hb hk)).trans hb
  have F : ∀ b k, col b = k → k ≠ 0 → k ≠ 1 → ¬ S b := fun b k hb h0 h1 hs => h1 (hb.symm.trans (hS b (H.lt hb h0) hs))
  refine ⟨⟨o _ _ C.c (by decide), o _ _ C.q (by decide), o _ _ C.g (by decide), o _ _ C.bm (by decide), o _ _ C.x (by decide), o _ _ C.h (by decide), o _ _ C.p (by decide), o _ _ C.bw (by decide), o _ _ C.bt (by decide), o _ _ C.mb (by decide), o _ _ C.cb (by decide), C.n1, C.n2⟩,
    fun i hi => ?_, Bx.turn H.box T (F _ _ C.c (by decide) (by decide)), ⟨G, r, v, R, fun i hi => ?_, fun _ g hg => ?_⟩,
    H.grd.turn T (F _ _ C.g (by decide) (by decide)) (F _ _ C.bm (by decide) (by decide)),
    ⟨H.ex.1.turn T (F _ _ C.x (by decide) (by decide)), Bx.turn H.ex.2 T (F _ _ C.h (by decide) (by decide))⟩,
    H.pool.turn T (F _ _ C.p (by decide) (by decide)) (F _ _ C.bw (by decide) (by decide)) (F _ _ C.bt (by decide) (by decide)),
    H.mks.turn T (F _ _ C.mb (by decide) (by decide)), H.cnt.turn T (F _ _ C.cb (by decide) (by decide))⟩
  · have := T.size
    unfold newCol
    rw [if_neg (by omega), if_pos hi]
  · by_cases hlt : i < w.heap.size
    · exact (newCol_old col _ hlt).trans (hG i hi hlt)
    · have h1 := R.lt i hi
      unfold newCol
      rw [if_neg hlt, if_neg (by omega), if_neg (fun e => (R.own hne i e).1 hi)]
  · have h1 := hv g hg
    have h2 := Sx.lt R.vr.1 hne hg
    unfold newCol
    rw [if_neg (by omega), if_neg (by omega), if_pos hg]
theorem Ctl.keepReg (H : Ctl w col K n0 t rs gm [] u) (T : Turn S w w') (hS : ∀ i, i < w.heap.size → S i → col i = 1) (R : PReg w' col K rs) : Ctl w' col K n0 t rs gm [] u := by
  have C := H.cols
  have F : ∀ b k, col b = k → k ≠ 0 → k ≠ 1 → ¬ S b := fun b k hb h0 h1 hs => h1 (hb.symm.trans (hS b (H.lt hb h0) hs))
  exact ⟨C, fun i hi => H.fresh i (Nat.le_trans T.size hi), Bx.turn H.box T (F _ _ C.c (by decide) (by decide)), R,
    H.grd.turn T (F _ _ C.g (by decide) (by decide)) (F _ _ C.bm (by decide) (by decide)),
    ⟨H.ex.1.turn T (F _ _ C.x (by decide) (by decide)), Bx.turn H.ex.2 T (F _ _ C.h (by decide) (by decide))⟩,
    H.pool.turn T (F _ _ C.p (by decide) (by decide)) (F _ _ C.bw (by decide) (by decide)) (F _ _ C.bt (by decide) (by decide)),
    H.mks.turn T (F _ _ C.mb (by decide) (by decide)), H.cnt.turn T (F _ _ C.cb (by decide) (by decide))⟩
end
end Go.Proofs.YtoichcickcgbgaaGreatDoor
