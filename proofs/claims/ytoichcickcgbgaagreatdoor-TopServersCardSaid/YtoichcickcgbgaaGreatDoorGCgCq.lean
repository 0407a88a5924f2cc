/-
  The control's right: a row of the table, where it may be met.
  The control's ask: work of a server.
-/
import Derived.Test.YtoichcickcgbgaaGreatDoorGCt
namespace Go.Proofs.YtoichcickcgbgaaGreatDoor
open Go.RowKit
attribute [local go_sem] Oper.semAt_some
attribute [local go_sem] run_store_func
/-- Row x is the first of number i. -/
def Fnd (rs : List Rk) (i : Int) (x : Rk) : Prop := (Lib.idxBy (fun _ y => y.k.id == i) rs default = 0 ∧ rs[0]? = some x) ∨ (Lib.idxBy (fun _ y => y.k.id == i) rs default = 1 ∧ rs[1]? = some x)
theorem find_any {w : World} {v : Value} {rs : List Rk} {i : Int} {x : Rk} (h : Vr w v rs) (hn : rs.length ≤ 2) (hf : Fnd rs i x) :
    Calls Tryz.prog 61 #[.agg #[v, .int .i64 0], .int .i64 i] w fun e w' => e = .returned (.tuple #[.agg #[.int .i64 x.k.id, .int .i64 x.k.c, .int .i64 x.k.d, .int .i64 x.k.t, .int .i64 x.k.m, .bool x.s], .bool true]) ∧ Below w.heap.size w w' := by
  rcases hf with ⟨h1, h2⟩ | ⟨h1, h2⟩
  · exact find_0 h.1 (by omega) h1 h2
  · exact find_1 h.1 (by omega) h1 h2
section
variable {w : World} {col : Nat → Nat} {K : Ck} {n0 t : Int} {rs : List Rk} {gm : Int → Option (Int × Int)} {js : List Jb} {u : Nat}
set_option linter.unusedSimpArgs false in
set_option maxRecDepth 100000 in
set_option maxHeartbeats 4000000 in
theorem cright_any (H : Ctl w col K n0 t rs gm js u) (hl : rs.length ≤ 2) {kk : Tk} {s : Bool} {i v kd : Int} (hf : Fnd rs i ⟨kk, s⟩) (hv0 : 1 ≤ v) (hv1 : v ≤ 2147483648) :
    Calls Tryz.prog 55 #[.pointer (some ⟨K.c, 0, none⟩), .agg #[.int .i64 kd, .int .i64 0, .int .i64 0, .int .i64 0, .int .i64 0, .int .i64 0, .int .i64 0, .bool false, .int .i64 0, .int .i64 0, .int .i64 0, .int .i64 i, .int .i64 v, .int .i64 0, .slice none 0 0], .bool s] w fun e w' => e = .returned (.tuple #[.agg #[.int .i64 kk.id, .int .i64 kk.c, .int .i64 kk.d, .int .i64 kk.t, .int .i64 kk.m, .bool s], .int .i64 0]) ∧ Below w.heap.size w w' := by
  have b0 := ((Below.refl w.heap.size w).alloc (Nat.le_refl _) (.cells #[.int .i64 kd, .int .i64 0, .int .i64 0, .int .i64 0, .int .i64 0, .int .i64 0, .int .i64 0, .bool false, .int .i64 0, .int .i64 0, .int .i64 0, .int .i64 i, .int .i64 v, .int .i64 0, .slice none 0 0] 46)).alloc (by simp) (.cells #[.int .i64 0, .int .i64 0, .int .i64 0, .int .i64 0, .int .i64 0, .bool false] 37)
  have HM := Lib.hid ((Bx.new w [.int .i64 kd, .int .i64 0, .int .i64 0, .int .i64 0, .int .i64 0, .int .i64 0, .int .i64 0, .bool false, .int .i64 0, .int .i64 0, .int .i64 0, .int .i64 i, .int .i64 v, .int .i64 0, .slice none 0 0] 46).more (.cells #[.int .i64 0, .int .i64 0, .int .i64 0, .int .i64 0, .int .i64 0, .bool false] 37))
  have hz := Bx.new (w.alloc (.cells #[.int .i64 kd, .int .i64 0, .int .i64 0, .int .i64 0, .int .i64 0, .int .i64 0, .int .i64 0, .bool false, .int .i64 0, .int .i64 0, .int .i64 0, .int .i64 i, .int .i64 v, .int .i64 0, .slice none 0 0] 46)) [.int .i64 0, .int .i64 0, .int .i64 0, .int .i64 0, .int .i64 0, .bool false] 37
  simp only [World.size_alloc] at hz
  have HZ := Lib.hid hz
  have HH := Lib.hid (H.below b0)
  have HB := Lib.hid b0
  have hd1 : decide (v < 1) = false := by simp; omega
  have hd2 : decide (v > 2147483648) = false := by simp; omega
  have HF := Lib.hid hf
  clear b0 H hz hf
  go_enter Tryz.func55, Tryz.ntmps55
  go_wp2_with fail
  generalize (w.alloc (.cells #[.int .i64 kd, .int .i64 0, .int .i64 0, .int .i64 0, .int .i64 0, .int .i64 0, .int .i64 0, .bool false, .int .i64 0, .int .i64 0, .int .i64 0, .int .i64 i, .int .i64 v, .int .i64 0, .slice none 0 0] 46)).alloc (.cells #[.int .i64 0, .int .i64 0, .int .i64 0, .int .i64 0, .int .i64 0, .bool false] 37) = u0 at *
  have hs0 : w.heap.size + 1 < u0.heap.size := HZ.out.lt
  go_upto_region 1 with fail
  go_cut [8, 9] (fun s8 s9 wx => ∃ p : Nat, s8 = .pointer (some ⟨p, 0, none⟩) ∧ s9 = .bool true ∧ u0.heap.size ≤ p ∧ Hid (Bx wx p 37 [.int .i64 kk.id, .int .i64 kk.c, .int .i64 kk.d, .int .i64 kk.t, .int .i64 kk.m, .bool s]) ∧ Hid (Below u0.heap.size u0 wx))
  case first =>
    go_wp2_with fail
    have KC : Hid (∀ y, Hid (Below u0.heap.size u0 y) → (y.cell? ⟨w.heap.size, 11, none⟩ = some (.int .i64 i))) := fun y h => (HM.out.below h.out).cell 11 rfl
    have B1 : Hid (Below u0.heap.size u0 u0.drew) := bl_drew (bl0 _)
    refine wp_region_held_drew (S := fun y => (y.cell? ⟨w.heap.size, 11, none⟩ = some (.int .i64 i)) ∧ Hid (Below u0.heap.size u0 y)) (by kernel_rfl) (skeep KC B1) (fun hHeld => ?_)
    refine wtk 0 11 (.pointer (some ⟨K.c, 0, none⟩)) rfl (by kernel_rfl) (fun _ _ _ h => h) (by rfl) (fun x hSw => by obtain ⟨d0, _⟩ := id hSw; (go_simp) <;> first | decide | exact IntWalk.i64_in _ (by omega)) (by assumption) ?_
    try simp only [Act.put, pw]
    refine wtk 2 13 (.pointer (some ⟨w.heap.size, 11, none⟩)) rfl (by kernel_rfl) (fun _ _ _ h => h) (by rfl) (fun x hSw => by obtain ⟨d0, _⟩ := id hSw; (go_simp) <;> first | decide | exact IntWalk.i64_in _ (by omega)) (by assumption) ?_
    try simp only [Act.put, pw]
    refine wtk 3 14 (.int .i64 i) rfl (by kernel_rfl) (fun _ _ _ h => h) (by rfl) (fun x hSw => by obtain ⟨d0, _⟩ := id hSw; (go_simp) <;> first | decide | exact IntWalk.i64_in _ (by omega)) (by assumption) ?_
    try simp only [Act.put, pw]
    refine wpAnyH_ready (rs := [1, 8]) (by kernel_rfl) (by simp) (AllReadyH.cons rfl (fun KK hK => ?_) (AllReadyH.cons rfl (fun KK hK => ?_) AllReadyH.nil))
    · go_simp
      refine (ctable_any (HH.out.below B1.out) hl).mono ?_
      rintro e w2 ⟨oa, nn, cap, rfl, hv, -, b2⟩
      have B2 := bl_below B1 b2
      have HV := Lib.hid hv
      refine hK.out _ _ (skeep KC B2) (fun hHeld => ?_)
      clear hK KK
      clear b2 hv
      try simp only [Act.put, pw]
      refine wpAnyH_ready (rs := [4, 8]) (by kernel_rfl) (by simp) (AllReadyH.cons rfl (fun KK hK => ?_) (AllReadyH.cons rfl (fun KK hK => ?_) AllReadyH.nil))
      · go_simp
        refine (find_any HV.out hl HF.out).mono ?_
        rintro e w3 ⟨rfl, b3⟩
        have B3 := bl_below B2 b3
        refine hK.out _ _ (skeep KC B3) (fun hHeld => ?_)
        clear hK KK
        clear b3
        try simp only [Act.put, pw]
        refine wtk 5 10 (.tuple #[.agg #[.int .i64 kk.id, .int .i64 kk.c, .int .i64 kk.d, .int .i64 kk.t, .int .i64 kk.m, .bool s], .bool true]) rfl (by kernel_rfl) (fun _ _ _ h => h) (by rfl) (fun x hSw => by obtain ⟨d0, _⟩ := id hSw; (go_simp) <;> first | decide | exact IntWalk.i64_in _ (by omega)) (by assumption) ?_
        try simp only [Act.put, pw]
        refine wtk 6 16 (.agg #[.int .i64 kk.id, .int .i64 kk.c, .int .i64 kk.d, .int .i64 kk.t, .int .i64 kk.m, .bool s]) rfl (by kernel_rfl) (fun _ _ _ h => h) (by rfl) (fun x hSw => by obtain ⟨d0, _⟩ := id hSw; (go_simp) <;> first | decide | exact IntWalk.i64_in _ (by omega)) (by assumption) ?_
        try simp only [Act.put, pw]
        refine wtk 7 17 (.bool true) rfl (by kernel_rfl) (fun _ _ _ h => h) (by rfl) (fun x hSw => by obtain ⟨d0, _⟩ := id hSw; (go_simp) <;> first | decide | exact IntWalk.i64_in _ (by omega)) (by assumption) ?_
        try simp only [Act.put, pw]
        refine wpAnyH_ready (rs := [8]) (by kernel_rfl) (by simp) (AllReadyH.cons rfl (fun KK hK => ?_) AllReadyH.nil)
        go_simp
        have B5 := bl_alloc (.cells #[.int .i64 0, .int .i64 0, .int .i64 0, .int .i64 0, .int .i64 0, .bool false] 37) B3
        refine hK.out _ _ (skeep KC B5) (fun hHeld => ?_)
        clear hK KK
        have hZ := Bx.new w3 [.int .i64 0, .int .i64 0, .int .i64 0, .int .i64 0, .int .i64 0, .bool false] 37
        have f0 := hZ.free 0
        have z0 := hZ.cell 0 rfl
        have f1 := hZ.free 1
        have z1 := hZ.cell 1 rfl
        have f2 := hZ.free 2
        have z2 := hZ.cell 2 rfl
        have f3 := hZ.free 3
        have z3 := hZ.cell 3 rfl
        have f4 := hZ.free 4
        have z4 := hZ.cell 4 rfl
        have f5 := hZ.free 5
        have z5 := hZ.cell 5 rfl
        clear hZ B5
        try simp only [Act.put, pw]
        refine wpAnyH_ready (rs := [9]) (by kernel_rfl) (by simp) (AllReadyH.cons rfl (fun KK hK => ?_) AllReadyH.nil)
        go_simp
        have B6 := bl_alloc (.cells #[.int .i64 kk.id, .int .i64 kk.c, .int .i64 kk.d, .int .i64 kk.t, .int .i64 kk.m, .bool s] 37) B3
        refine hK.out _ _ (skeep KC B6) (fun hHeld => ?_)
        clear hK KK
        try simp only [Act.put, pw]
        refine wtk 10 9 (.bool true) rfl (by kernel_rfl) (fun _ _ _ h => h) (by rfl) (fun x hSw => by obtain ⟨d0, _⟩ := id hSw; (go_simp) <;> first | decide | exact IntWalk.i64_in _ (by omega)) (by assumption) ?_
        try simp only [Act.put, pw]
        refine wpAnyH_done (by kernel_rfl) ?_ _
        go_wp2_with fail
        go_meet
        exact ⟨_, rfl, rfl, B3.out.size, Bx.new w3 [.int .i64 kk.id, .int .i64 kk.c, .int .i64 kk.d, .int .i64 kk.t, .int .i64 kk.m, .bool s] 37, B6⟩
      · go_simp
        have B4 := bl_alloc (.cells #[.int .i64 0, .int .i64 0, .int .i64 0, .int .i64 0, .int .i64 0, .bool false] 37) B2
        have hZ := Bx.new w2 [.int .i64 0, .int .i64 0, .int .i64 0, .int .i64 0, .int .i64 0, .bool false] 37
        have hPs : u0.heap.size ≤ w2.heap.size := B2.out.size
        refine hK.out _ _ (skeep KC B4) (fun hHeld => ?_)
        clear hK KK
        try simp only [Act.put, pw]
        refine wpAnyH_ready (rs := [4]) (by kernel_rfl) (by simp) (AllReadyH.cons rfl (fun KK hK => ?_) AllReadyH.nil)
        go_simp
        refine (find_any (HV.out.below ((Below.refl _ _).alloc (Nat.le_refl _) _)) hl HF.out).mono ?_
        rintro e w3 ⟨rfl, b3⟩
        have B3 := bl_below B4 b3
        refine hK.out _ _ (skeep KC B3) (fun hHeld => ?_)
        clear hK KK
        have HP := Lib.hid (hZ.below b3)
        clear b3
        try simp only [Act.put, pw]
        refine wtk 5 10 (.tuple #[.agg #[.int .i64 kk.id, .int .i64 kk.c, .int .i64 kk.d, .int .i64 kk.t, .int .i64 kk.m, .bool s], .bool true]) rfl (by kernel_rfl) (fun _ _ _ h => h) (by rfl) (fun x hSw => by obtain ⟨d0, _⟩ := id hSw; (go_simp) <;> first | decide | exact IntWalk.i64_in _ (by omega)) (by assumption) ?_
        try simp only [Act.put, pw]
        refine wtk 6 16 (.agg #[.int .i64 kk.id, .int .i64 kk.c, .int .i64 kk.d, .int .i64 kk.t, .int .i64 kk.m, .bool s]) rfl (by kernel_rfl) (fun _ _ _ h => h) (by rfl) (fun x hSw => by obtain ⟨d0, _⟩ := id hSw; (go_simp) <;> first | decide | exact IntWalk.i64_in _ (by omega)) (by assumption) ?_
        try simp only [Act.put, pw]
        refine wtk 7 17 (.bool true) rfl (by kernel_rfl) (fun _ _ _ h => h) (by rfl) (fun x hSw => by obtain ⟨d0, _⟩ := id hSw; (go_simp) <;> first | decide | exact IntWalk.i64_in _ (by omega)) (by assumption) ?_
        try simp only [Act.put, pw]
        refine wpAnyH_ready (rs := [9]) (by kernel_rfl) (by simp) (AllReadyH.cons rfl (fun KK hK => ?_) AllReadyH.nil)
        go_simp
        have f0 := HP.out.free 0
        have z0 := HP.out.cell 0 rfl
        have f1 := HP.out.free 1
        have z1 := HP.out.cell 1 rfl
        have f2 := HP.out.free 2
        have z2 := HP.out.cell 2 rfl
        have f3 := HP.out.free 3
        have z3 := HP.out.cell 3 rfl
        have f4 := HP.out.free 4
        have z4 := HP.out.cell 4 rfl
        have f5 := HP.out.free 5
        have z5 := HP.out.cell 5 rfl
        go_simp
        have s0 := Bx.set (w := w3) HP.out 0 (.int .i64 kk.id) _ rfl
        have s1 := Bx.set (w := _) s0 1 (.int .i64 kk.c) _ rfl
        have s2 := Bx.set (w := _) s1 2 (.int .i64 kk.d) _ rfl
        have s3 := Bx.set (w := _) s2 3 (.int .i64 kk.t) _ rfl
        have s4 := Bx.set (w := _) s3 4 (.int .i64 kk.m) _ rfl
        have s5 := Bx.set (w := _) s4 5 (.bool s) _ rfl
        have e0 := s5.cell 0 rfl
        have e1 := s5.cell 1 rfl
        have e2 := s5.cell 2 rfl
        have e3 := s5.cell 3 rfl
        have e4 := s5.cell 4 rfl
        have e5 := s5.cell 5 rfl
        have ts : Turn (fun i => i = w2.heap.size) w3 ((((((w3.setCell ⟨w2.heap.size, 0, none⟩ (.int .i64 kk.id)).setCell ⟨w2.heap.size, 1, none⟩ (.int .i64 kk.c)).setCell ⟨w2.heap.size, 2, none⟩ (.int .i64 kk.d)).setCell ⟨w2.heap.size, 3, none⟩ (.int .i64 kk.t)).setCell ⟨w2.heap.size, 4, none⟩ (.int .i64 kk.m)).setCell ⟨w2.heap.size, 5, none⟩ (.bool s)) := ((((((Turn.set (S := fun i => i = w2.heap.size) _ _ _ _ rfl).trans (Turn.set _ _ _ _ rfl)).trans (Turn.set _ _ _ _ rfl)).trans (Turn.set _ _ _ _ rfl)).trans (Turn.set _ _ _ _ rfl)).trans (Turn.set _ _ _ _ rfl))
        have B6 : Hid (Below u0.heap.size u0 ((((((w3.setCell ⟨w2.heap.size, 0, none⟩ (.int .i64 kk.id)).setCell ⟨w2.heap.size, 1, none⟩ (.int .i64 kk.c)).setCell ⟨w2.heap.size, 2, none⟩ (.int .i64 kk.d)).setCell ⟨w2.heap.size, 3, none⟩ (.int .i64 kk.t)).setCell ⟨w2.heap.size, 4, none⟩ (.int .i64 kk.m)).setCell ⟨w2.heap.size, 5, none⟩ (.bool s))) := ((Turn.below B3.out).then (S := fun i => i = w2.heap.size) ts (fun i _ h => h)).fresh (fun i hi e => by omega)
        refine hK.out _ _ (skeep KC B6) (fun hHeld => ?_)
        clear hK KK
        try simp only [Act.put, pw]
        refine wtk 10 9 (.bool true) rfl (by kernel_rfl) (fun _ _ _ h => h) (by rfl) (fun x hSw => by obtain ⟨d0, _⟩ := id hSw; (go_simp) <;> first | decide | exact IntWalk.i64_in _ (by omega)) (by assumption) ?_
        try simp only [Act.put, pw]
        refine wpAnyH_done (by kernel_rfl) ?_ _
        go_wp2_with fail
        go_meet
        exact ⟨_, rfl, rfl, by omega, s5, B6⟩
    · go_simp
      have B4 := bl_alloc (.cells #[.int .i64 0, .int .i64 0, .int .i64 0, .int .i64 0, .int .i64 0, .bool false] 37) B1
      have hZ : Bx (u0.drew.alloc (.cells #[.int .i64 0, .int .i64 0, .int .i64 0, .int .i64 0, .int .i64 0, .bool false] 37)) u0.heap.size 37 [.int .i64 0, .int .i64 0, .int .i64 0, .int .i64 0, .int .i64 0, .bool false] := Bx.new u0.drew [.int .i64 0, .int .i64 0, .int .i64 0, .int .i64 0, .int .i64 0, .bool false] 37
      refine hK.out _ _ (skeep KC B4) (fun hHeld => ?_)
      clear hK KK
      try simp only [Act.put, pw]
      refine wpAnyH_ready (rs := [1]) (by kernel_rfl) (by simp) (AllReadyH.cons rfl (fun KK hK => ?_) AllReadyH.nil)
      go_simp
      refine (ctable_any (HH.out.below B4.out) hl).mono ?_
      rintro e w2 ⟨oa, nn, cap, rfl, hv, -, b2⟩
      have B2 := bl_below B4 b2
      have HV := Lib.hid hv
      refine hK.out _ _ (skeep KC B2) (fun hHeld => ?_)
      clear hK KK
      have HP := Lib.hid (hZ.below b2)
      clear b2 hv
      try simp only [Act.put, pw]
      refine wpAnyH_ready (rs := [4]) (by kernel_rfl) (by simp) (AllReadyH.cons rfl (fun KK hK => ?_) AllReadyH.nil)
      go_simp
      refine (find_any HV.out hl HF.out).mono ?_
      rintro e w3 ⟨rfl, b3⟩
      have B3 := bl_below B2 b3
      refine hK.out _ _ (skeep KC B3) (fun hHeld => ?_)
      clear hK KK
      have HP3 := Lib.hid (HP.out.below b3)
      clear b3
      try simp only [Act.put, pw]
      refine wtk 5 10 (.tuple #[.agg #[.int .i64 kk.id, .int .i64 kk.c, .int .i64 kk.d, .int .i64 kk.t, .int .i64 kk.m, .bool s], .bool true]) rfl (by kernel_rfl) (fun _ _ _ h => h) (by rfl) (fun x hSw => by obtain ⟨d0, _⟩ := id hSw; (go_simp) <;> first | decide | exact IntWalk.i64_in _ (by omega)) (by assumption) ?_
      try simp only [Act.put, pw]
      refine wtk 6 16 (.agg #[.int .i64 kk.id, .int .i64 kk.c, .int .i64 kk.d, .int .i64 kk.t, .int .i64 kk.m, .bool s]) rfl (by kernel_rfl) (fun _ _ _ h => h) (by rfl) (fun x hSw => by obtain ⟨d0, _⟩ := id hSw; (go_simp) <;> first | decide | exact IntWalk.i64_in _ (by omega)) (by assumption) ?_
      try simp only [Act.put, pw]
      refine wtk 7 17 (.bool true) rfl (by kernel_rfl) (fun _ _ _ h => h) (by rfl) (fun x hSw => by obtain ⟨d0, _⟩ := id hSw; (go_simp) <;> first | decide | exact IntWalk.i64_in _ (by omega)) (by assumption) ?_
      try simp only [Act.put, pw]
      refine wpAnyH_ready (rs := [9]) (by kernel_rfl) (by simp) (AllReadyH.cons rfl (fun KK hK => ?_) AllReadyH.nil)
      go_simp
      have f0 := HP3.out.free 0
      have z0 := HP3.out.cell 0 rfl
      have f1 := HP3.out.free 1
      have z1 := HP3.out.cell 1 rfl
      have f2 := HP3.out.free 2
      have z2 := HP3.out.cell 2 rfl
      have f3 := HP3.out.free 3
      have z3 := HP3.out.cell 3 rfl
      have f4 := HP3.out.free 4
      have z4 := HP3.out.cell 4 rfl
      have f5 := HP3.out.free 5
      have z5 := HP3.out.cell 5 rfl
      go_simp
      have s0 := Bx.set (w := w3) HP3.out 0 (.int .i64 kk.id) _ rfl
      have s1 := Bx.set (w := _) s0 1 (.int .i64 kk.c) _ rfl
      have s2 := Bx.set (w := _) s1 2 (.int .i64 kk.d) _ rfl
      have s3 := Bx.set (w := _) s2 3 (.int .i64 kk.t) _ rfl
      have s4 := Bx.set (w := _) s3 4 (.int .i64 kk.m) _ rfl
      have s5 := Bx.set (w := _) s4 5 (.bool s) _ rfl
      have e0 := s5.cell 0 rfl
      have e1 := s5.cell 1 rfl
      have e2 := s5.cell 2 rfl
      have e3 := s5.cell 3 rfl
      have e4 := s5.cell 4 rfl
      have e5 := s5.cell 5 rfl
      have ts : Turn (fun i => i = u0.heap.size) w3 ((((((w3.setCell ⟨u0.heap.size, 0, none⟩ (.int .i64 kk.id)).setCell ⟨u0.heap.size, 1, none⟩ (.int .i64 kk.c)).setCell ⟨u0.heap.size, 2, none⟩ (.int .i64 kk.d)).setCell ⟨u0.heap.size, 3, none⟩ (.int .i64 kk.t)).setCell ⟨u0.heap.size, 4, none⟩ (.int .i64 kk.m)).setCell ⟨u0.heap.size, 5, none⟩ (.bool s)) := ((((((Turn.set (S := fun i => i = u0.heap.size) _ _ _ _ rfl).trans (Turn.set _ _ _ _ rfl)).trans (Turn.set _ _ _ _ rfl)).trans (Turn.set _ _ _ _ rfl)).trans (Turn.set _ _ _ _ rfl)).trans (Turn.set _ _ _ _ rfl))
      have B6 : Hid (Below u0.heap.size u0 ((((((w3.setCell ⟨u0.heap.size, 0, none⟩ (.int .i64 kk.id)).setCell ⟨u0.heap.size, 1, none⟩ (.int .i64 kk.c)).setCell ⟨u0.heap.size, 2, none⟩ (.int .i64 kk.d)).setCell ⟨u0.heap.size, 3, none⟩ (.int .i64 kk.t)).setCell ⟨u0.heap.size, 4, none⟩ (.int .i64 kk.m)).setCell ⟨u0.heap.size, 5, none⟩ (.bool s))) := ((Turn.below B3.out).then (S := fun i => i = u0.heap.size) ts (fun i _ h => h)).fresh (fun i hi e => by omega)
      refine hK.out _ _ (skeep KC B6) (fun hHeld => ?_)
      clear hK KK
      try simp only [Act.put, pw]
      refine wtk 10 9 (.bool true) rfl (by kernel_rfl) (fun _ _ _ h => h) (by rfl) (fun x hSw => by obtain ⟨d0, _⟩ := id hSw; (go_simp) <;> first | decide | exact IntWalk.i64_in _ (by omega)) (by assumption) ?_
      try simp only [Act.put, pw]
      refine wpAnyH_done (by kernel_rfl) ?_ _
      go_wp2_with fail
      go_meet
      exact ⟨_, rfl, rfl, by omega, s5, B6⟩
  case rest =>
    obtain ⟨p, rfl, rfl, hp, HX, HBX⟩ := hcut
    have HMX := HM.out.below HBX.out
    have HZX := Lib.hid (HZ.out.below HBX.out)
    have m12 := HMX.cell 12 rfl
    have x0 := HX.out.cell 0 rfl
    have f0 := HZX.out.free 0
    have y0 := HZX.out.cell 0 rfl
    have x1 := HX.out.cell 1 rfl
    have f1 := HZX.out.free 1
    have y1 := HZX.out.cell 1 rfl
    have x2 := HX.out.cell 2 rfl
    have f2 := HZX.out.free 2
    have y2 := HZX.out.cell 2 rfl
    have x3 := HX.out.cell 3 rfl
    have f3 := HZX.out.free 3
    have y3 := HZX.out.cell 3 rfl
    have x4 := HX.out.cell 4 rfl
    have f4 := HZX.out.free 4
    have y4 := HZX.out.cell 4 rfl
    have x5 := HX.out.cell 5 rfl
    have f5 := HZX.out.free 5
    have y5 := HZX.out.cell 5 rfl
    clear HMX
    go_wp2_with fail
    have s0 := Bx.set (w := wc) HZX.out 0 (.int .i64 kk.id) _ rfl
    have s1 := Bx.set (w := _) s0 1 (.int .i64 kk.c) _ rfl
    have s2 := Bx.set (w := _) s1 2 (.int .i64 kk.d) _ rfl
    have s3 := Bx.set (w := _) s2 3 (.int .i64 kk.t) _ rfl
    have s4 := Bx.set (w := _) s3 4 (.int .i64 kk.m) _ rfl
    have s5 := Bx.set (w := _) s4 5 (.bool s) _ rfl
    have e0 := s5.cell 0 rfl
    have e1 := s5.cell 1 rfl
    have e2 := s5.cell 2 rfl
    have e3 := s5.cell 3 rfl
    have e4 := s5.cell 4 rfl
    have e5 := s5.cell 5 rfl
    have ts : Turn (fun i => i = w.heap.size + 1) wc ((((((wc.setCell ⟨w.heap.size + 1, 0, none⟩ (.int .i64 kk.id)).setCell ⟨w.heap.size + 1, 1, none⟩ (.int .i64 kk.c)).setCell ⟨w.heap.size + 1, 2, none⟩ (.int .i64 kk.d)).setCell ⟨w.heap.size + 1, 3, none⟩ (.int .i64 kk.t)).setCell ⟨w.heap.size + 1, 4, none⟩ (.int .i64 kk.m)).setCell ⟨w.heap.size + 1, 5, none⟩ (.bool s)) := ((((((Turn.set (S := fun i => i = w.heap.size + 1) _ _ _ _ rfl).trans (Turn.set _ _ _ _ rfl)).trans (Turn.set _ _ _ _ rfl)).trans (Turn.set _ _ _ _ rfl)).trans (Turn.set _ _ _ _ rfl)).trans (Turn.set _ _ _ _ rfl))
    refine bodyPost_ret (v := .tuple #[.agg #[.int .i64 kk.id, .int .i64 kk.c, .int .i64 kk.d, .int .i64 kk.t, .int .i64 kk.m, .bool s], .int .i64 0]) (by simp [results, Tryz.results55, go_sem, e0, e1, e2, e3, e4, e5]) rfl ?_
    have hb9 : Below w.heap.size w ((((((wc.setCell ⟨w.heap.size + 1, 0, none⟩ (.int .i64 kk.id)).setCell ⟨w.heap.size + 1, 1, none⟩ (.int .i64 kk.c)).setCell ⟨w.heap.size + 1, 2, none⟩ (.int .i64 kk.d)).setCell ⟨w.heap.size + 1, 3, none⟩ (.int .i64 kk.t)).setCell ⟨w.heap.size + 1, 4, none⟩ (.int .i64 kk.m)).setCell ⟨w.heap.size + 1, 5, none⟩ (.bool s)) := ((Turn.below (HB.out.trans (HBX.out.mono HB.out.size))).then (S := fun i => i = w.heap.size + 1) ts (fun i _ h => h)).fresh (fun i hi e => by omega)
    exact ⟨rfl, hb9⟩
end
end Go.Proofs.YtoichcickcgbgaaGreatDoor
namespace Go.Proofs.YtoichcickcgbgaaGreatDoor
open Go.RowKit
attribute [local go_sem] Oper.semAt_some
attribute [local go_sem] run_store_func
section
variable {w : World} {col : Nat → Nat} {K : Ck} {n0 t : Int} {rs : List Rk} {gm : Int → Option (Int × Int)} {js : List Jb} {u : Nat}
theorem pask_any (H : Ctl w col K n0 t rs gm js u) {i v : Int} (hi : i = 0 ∨ i = 1) (hv0 : 1 ≤ v) (hv1 : v ≤ 1024) (hu : u < 100000) :
    Calls Tryz.prog 59 #[.pointer (some ⟨K.p, 0, none⟩), .int .i64 i, .int .i64 v] w fun e w' => (∃ er : Int, e = .returned (.int .i64 er)) ∧ Ctl w' col K n0 t rs gm js (u + 1) ∧ Turn (Own col) w w' := by
  obtain ⟨pn, pf, pt, hpn, hP, hpb⟩ := H.pool
  have hb := hpb i
  refine (Pool.askV hP (by omega) i v (WalkArith.wf_i64 (by omega)) ⟨by omega, by omega, hv0, by omega⟩ hb.1 (by omega) _ rfl).mono ?_
  rintro e w1 ⟨rfl, hP1, t1⟩
  have T1 := ptw t1
  refine ⟨⟨_, rfl⟩, (H.more (Nat.le_succ u)).setPool T1 ⟨_, _, _, by omega, hP1, fun k => ?_⟩, T1.wide (S' := Own col) (fun k _ h => ?_)⟩
  · have hk := hpb k
    by_cases e : k = i
    · subst e
      rw [Pool.upd_same]
      omega
    · rw [Pool.upd_other _ _ e]
      omega
  · rcases h with rfl | rfl
    · show col K.bw ≠ 0
      rw [H.cols.bw]
      decide
    · show col K.bt ≠ 0
      rw [H.cols.bt]
      decide
set_option linter.unusedSimpArgs false in
set_option maxRecDepth 100000 in
set_option maxHeartbeats 4000000 in
theorem cask_any (H : Ctl w col K n0 t rs gm js u) (hl : rs.length ≤ 2) {kk : Tk} {i v kd : Int} (hf : Fnd rs i ⟨kk, true⟩) (hi : i = 0 ∨ i = 1) (hv0 : 1 ≤ v) (hv1 : v ≤ 1024) (hu : u < 100000) :
    Calls Tryz.prog 29 #[.pointer (some ⟨K.c, 0, none⟩), .agg #[.int .i64 kd, .int .i64 0, .int .i64 0, .int .i64 0, .int .i64 0, .int .i64 0, .int .i64 0, .bool false, .int .i64 0, .int .i64 0, .int .i64 0, .int .i64 i, .int .i64 v, .int .i64 0, .slice none 0 0]] w fun e w' => (∃ er : Int, e = .returned (.agg #[.int .i64 er, .slice none 0 0, .int .i64 0, .int .i64 0, .int .i64 0, .int .i64 0, .int .i64 0, .bool false, .int .i64 0, .int .i64 0, .slice none 0 0])) ∧ Ctl w' col K n0 t rs gm js (u + 1) ∧ Turn (Own col) w w' := by
  have b0 := ((Below.refl w.heap.size w).alloc (Nat.le_refl _) (.cells #[.int .i64 kd, .int .i64 0, .int .i64 0, .int .i64 0, .int .i64 0, .int .i64 0, .int .i64 0, .bool false, .int .i64 0, .int .i64 0, .int .i64 0, .int .i64 i, .int .i64 v, .int .i64 0, .slice none 0 0] 46)).alloc (by simp) (.cells #[.int .i64 0, .slice none 0 0, .int .i64 0, .int .i64 0, .int .i64 0, .int .i64 0, .int .i64 0, .bool false, .int .i64 0, .int .i64 0, .slice none 0 0] 40)
  have hm := (Bx.new w [.int .i64 kd, .int .i64 0, .int .i64 0, .int .i64 0, .int .i64 0, .int .i64 0, .int .i64 0, .bool false, .int .i64 0, .int .i64 0, .int .i64 0, .int .i64 i, .int .i64 v, .int .i64 0, .slice none 0 0] 46).more (.cells #[.int .i64 0, .slice none 0 0, .int .i64 0, .int .i64 0, .int .i64 0, .int .i64 0, .int .i64 0, .bool false, .int .i64 0, .int .i64 0, .slice none 0 0] 40)
  have hz := Bx.new (w.alloc (.cells #[.int .i64 kd, .int .i64 0, .int .i64 0, .int .i64 0, .int .i64 0, .int .i64 0, .int .i64 0, .bool false, .int .i64 0, .int .i64 0, .int .i64 0, .int .i64 i, .int .i64 v, .int .i64 0, .slice none 0 0] 46)) [.int .i64 0, .slice none 0 0, .int .i64 0, .int .i64 0, .int .i64 0, .int .i64 0, .int .i64 0, .bool false, .int .i64 0, .int .i64 0, .slice none 0 0] 40
  simp only [World.size_alloc] at hz
  have HZ := Lib.hid hz
  have HM := Lib.hid hm
  have HH := Lib.hid (H.below b0)
  have HT := Lib.hid (Turn.below (S := Own col) b0)
  have hnew0 := H.new
  have hnew1 := H.fresh (w.heap.size + 1) (by omega)
  have HF := Lib.hid hf
  have m0 := hm.cell 0 rfl
  have m1 := hm.cell 1 rfl
  have m2 := hm.cell 2 rfl
  have m3 := hm.cell 3 rfl
  have m4 := hm.cell 4 rfl
  have m5 := hm.cell 5 rfl
  have m6 := hm.cell 6 rfl
  have m7 := hm.cell 7 rfl
  have m8 := hm.cell 8 rfl
  have m9 := hm.cell 9 rfl
  have m10 := hm.cell 10 rfl
  have m11 := hm.cell 11 rfl
  have m12 := hm.cell 12 rfl
  have m13 := hm.cell 13 rfl
  have m14 := hm.cell 14 rfl
  clear b0 H hz hf hm
  go_enter Tryz.func29, Tryz.ntmps29
  go_wp2_with fail
  generalize (w.alloc (.cells #[.int .i64 kd, .int .i64 0, .int .i64 0, .int .i64 0, .int .i64 0, .int .i64 0, .int .i64 0, .bool false, .int .i64 0, .int .i64 0, .int .i64 0, .int .i64 i, .int .i64 v, .int .i64 0, .slice none 0 0] 46)).alloc (.cells #[.int .i64 0, .slice none 0 0, .int .i64 0, .int .i64 0, .int .i64 0, .int .i64 0, .int .i64 0, .bool false, .int .i64 0, .int .i64 0, .slice none 0 0] 40) = u0 at *
  refine (cright_any HH.out hl HF.out hv0 (by omega)).mono ?_
  rintro e w1 ⟨rfl, b1⟩
  have bA := b1.alloc b1.size (.cells #[.int .i64 kk.id, .int .i64 kk.c, .int .i64 kk.d, .int .i64 kk.t, .int .i64 kk.m, .bool true] 37)
  have HM1 := Lib.hid (HM.out.below bA)
  have HZ1 := Lib.hid (HZ.out.below bA)
  have HH1 := Lib.hid (HH.out.below bA)
  have HT1 := Lib.hid (HT.out.trans (Turn.below bA))
  clear b1 bA HM HZ HH HT m0 m1 m2 m3 m4 m5 m6 m7 m8 m9 m10 m11 m12 m13 m14
  go_wp2_with fail
  generalize w1.alloc (.cells #[.int .i64 kk.id, .int .i64 kk.c, .int .i64 kk.d, .int .i64 kk.t, .int .i64 kk.m, .bool true] 37) = u1 at *
  have n1 : ¬ Own col w.heap.size := fun h => h hnew0
  have S1 : u1.drew.cell? ⟨K.c, 9, none⟩ = some (.pointer (some ⟨K.p, 0, none⟩)) ∧ u1.drew.cell? ⟨w.heap.size, 11, none⟩ = some (.int .i64 i) ∧ u1.drew.cell? ⟨w.heap.size, 12, none⟩ = some (.int .i64 v) := ⟨Bx.cell HH1.out.box 9 rfl, HM1.out.cell 11 rfl, HM1.out.cell 12 rfl⟩
  refine wp_region_held_drew (S := fun y => y.cell? ⟨K.c, 9, none⟩ = some (.pointer (some ⟨K.p, 0, none⟩)) ∧ y.cell? ⟨w.heap.size, 11, none⟩ = some (.int .i64 i) ∧ y.cell? ⟨w.heap.size, 12, none⟩ = some (.int .i64 v)) (by kernel_rfl) (S1) (fun hHeld => ?_)
  refine wtk 0 15 (.pointer (some ⟨K.c, 0, none⟩)) rfl (by kernel_rfl) (fun _ _ _ h => h) (by rfl) (fun x hSw => by obtain ⟨d0, d1, d2⟩ := id hSw; (go_simp) <;> first | decide | exact IntWalk.i64_in _ (by omega)) (by assumption) ?_
  try simp only [Act.put, pw]
  refine wtk 1 16 (.pointer (some ⟨K.c, 0, none⟩)) rfl (by kernel_rfl) (fun _ _ _ h => h) (by rfl) (fun x hSw => by obtain ⟨d0, d1, d2⟩ := id hSw; (go_simp) <;> first | decide | exact IntWalk.i64_in _ (by omega)) (by assumption) ?_
  try simp only [Act.put, pw]
  refine wtk 2 17 (.pointer (some ⟨K.c, 9, none⟩)) rfl (by kernel_rfl) (fun _ _ _ h => h) (by rfl) (fun x hSw => by obtain ⟨d0, d1, d2⟩ := id hSw; (go_simp) <;> first | decide | exact IntWalk.i64_in _ (by omega)) (by assumption) ?_
  try simp only [Act.put, pw]
  refine wtk 3 18 (.pointer (some ⟨K.p, 0, none⟩)) rfl (by kernel_rfl) (fun _ _ _ h => h) (by rfl) (fun x hSw => by obtain ⟨d0, d1, d2⟩ := id hSw; (go_simp) <;> first | decide | exact IntWalk.i64_in _ (by omega)) (by assumption) ?_
  try simp only [Act.put, pw]
  refine wtk 4 19 (.pointer (some ⟨w.heap.size, 11, none⟩)) rfl (by kernel_rfl) (fun _ _ _ h => h) (by rfl) (fun x hSw => by obtain ⟨d0, d1, d2⟩ := id hSw; (go_simp) <;> first | decide | exact IntWalk.i64_in _ (by omega)) (by assumption) ?_
  try simp only [Act.put, pw]
  refine wtk 5 20 (.int .i64 i) rfl (by kernel_rfl) (fun _ _ _ h => h) (by rfl) (fun x hSw => by obtain ⟨d0, d1, d2⟩ := id hSw; (go_simp) <;> first | decide | exact IntWalk.i64_in _ (by omega)) (by assumption) ?_
  try simp only [Act.put, pw]
  refine wtk 6 21 (.pointer (some ⟨w.heap.size, 12, none⟩)) rfl (by kernel_rfl) (fun _ _ _ h => h) (by rfl) (fun x hSw => by obtain ⟨d0, d1, d2⟩ := id hSw; (go_simp) <;> first | decide | exact IntWalk.i64_in _ (by omega)) (by assumption) ?_
  try simp only [Act.put, pw]
  refine wtk 7 22 (.int .i64 v) rfl (by kernel_rfl) (fun _ _ _ h => h) (by rfl) (fun x hSw => by obtain ⟨d0, d1, d2⟩ := id hSw; (go_simp) <;> first | decide | exact IntWalk.i64_in _ (by omega)) (by assumption) ?_
  try simp only [Act.put, pw]
  refine wpAnyH_ready (rs := [8]) (by kernel_rfl) (by simp) (AllReadyH.cons rfl (fun KK hK => ?_) AllReadyH.nil)
  go_simp
  refine (pask_any (HH1.out.below (bl_drew (bl0 _)).out) hi hv0 hv1 hu).mono ?_
  rintro e w2 ⟨⟨er, rfl⟩, h2, t2d⟩
  have t2 : Turn (Own col) u1 w2 := ⟨t2d.os, t2d.tape, t2d.output, t2d.size, t2d.block⟩
  have hm2 := HM1.out.turn t2 n1
  refine hK.out _ _ (⟨Bx.cell h2.box 9 rfl, hm2.cell 11 rfl, hm2.cell 12 rfl⟩) (fun hHeld => ?_)
  clear hK KK
  clear t2d hm2
  try simp only [Act.put, pw]
  refine wtk 9 6 (.int .i64 er) rfl (by kernel_rfl) (fun _ _ _ h => h) (by rfl) (fun x hSw => by obtain ⟨d0, d1, d2⟩ := id hSw; (go_simp) <;> first | decide | exact IntWalk.i64_in _ (by omega)) (by assumption) ?_
  try simp only [Act.put, pw]
  refine wpAnyH_done (by kernel_rfl) ?_ _
  have HZ2 := HZ1.out.turn t2 (fun h => h hnew1)
  have HZ2 := Lib.hid HZ2
  have HT2 := Lib.hid (HT1.out.trans t2)
  have HC2 := Lib.hid h2
  clear t2 h2 S1 hHeld HH1 HM1 HZ1 HT1
  go_wp2_with fail
  refine (told_any er _).mono ?_
  rintro e w3 ⟨rfl, b3⟩
  have HZ3 := HZ2.out.below b3
  have y0 := HZ3.cell 0 rfl
  have f0 := HZ3.free 0
  have y1 := HZ3.cell 1 rfl
  have f1 := HZ3.free 1
  have y2 := HZ3.cell 2 rfl
  have f2 := HZ3.free 2
  have y3 := HZ3.cell 3 rfl
  have f3 := HZ3.free 3
  have y4 := HZ3.cell 4 rfl
  have f4 := HZ3.free 4
  have y5 := HZ3.cell 5 rfl
  have f5 := HZ3.free 5
  have y6 := HZ3.cell 6 rfl
  have f6 := HZ3.free 6
  have y7 := HZ3.cell 7 rfl
  have f7 := HZ3.free 7
  have y8 := HZ3.cell 8 rfl
  have f8 := HZ3.free 8
  have y9 := HZ3.cell 9 rfl
  have f9 := HZ3.free 9
  have y10 := HZ3.cell 10 rfl
  have f10 := HZ3.free 10
  have HZ3 := Lib.hid HZ3
  have HT3 := Lib.hid (HT2.out.trans (Turn.below b3))
  have HC3 := Lib.hid (HC2.out.below b3)
  clear b3 HZ2 HT2 HC2
  go_wp2_with fail
  have s0 := Bx.set (w := w3) HZ3.out 0 (.int .i64 er) _ rfl
  have s1 := Bx.set (w := _) s0 1 (.slice none 0 0) _ rfl
  have s2 := Bx.set (w := _) s1 2 (.int .i64 0) _ rfl
  have s3 := Bx.set (w := _) s2 3 (.int .i64 0) _ rfl
  have s4 := Bx.set (w := _) s3 4 (.int .i64 0) _ rfl
  have s5 := Bx.set (w := _) s4 5 (.int .i64 0) _ rfl
  have s6 := Bx.set (w := _) s5 6 (.int .i64 0) _ rfl
  have s7 := Bx.set (w := _) s6 7 (.bool false) _ rfl
  have s8 := Bx.set (w := _) s7 8 (.int .i64 0) _ rfl
  have s9 := Bx.set (w := _) s8 9 (.int .i64 0) _ rfl
  have s10 := Bx.set (w := _) s9 10 (.slice none 0 0) _ rfl
  have e0 := s10.cell 0 rfl
  have e1 := s10.cell 1 rfl
  have e2 := s10.cell 2 rfl
  have e3 := s10.cell 3 rfl
  have e4 := s10.cell 4 rfl
  have e5 := s10.cell 5 rfl
  have e6 := s10.cell 6 rfl
  have e7 := s10.cell 7 rfl
  have e8 := s10.cell 8 rfl
  have e9 := s10.cell 9 rfl
  have e10 := s10.cell 10 rfl
  have ts : Turn (fun i => i = w.heap.size + 1) w3 (((((((((((w3.setCell ⟨w.heap.size + 1, 0, none⟩ (.int .i64 er)).setCell ⟨w.heap.size + 1, 1, none⟩ (.slice none 0 0)).setCell ⟨w.heap.size + 1, 2, none⟩ (.int .i64 0)).setCell ⟨w.heap.size + 1, 3, none⟩ (.int .i64 0)).setCell ⟨w.heap.size + 1, 4, none⟩ (.int .i64 0)).setCell ⟨w.heap.size + 1, 5, none⟩ (.int .i64 0)).setCell ⟨w.heap.size + 1, 6, none⟩ (.int .i64 0)).setCell ⟨w.heap.size + 1, 7, none⟩ (.bool false)).setCell ⟨w.heap.size + 1, 8, none⟩ (.int .i64 0)).setCell ⟨w.heap.size + 1, 9, none⟩ (.int .i64 0)).setCell ⟨w.heap.size + 1, 10, none⟩ (.slice none 0 0)) := (((((((((((Turn.set (S := fun i => i = w.heap.size + 1) _ _ _ _ rfl).trans (Turn.set _ _ _ _ rfl)).trans (Turn.set _ _ _ _ rfl)).trans (Turn.set _ _ _ _ rfl)).trans (Turn.set _ _ _ _ rfl)).trans (Turn.set _ _ _ _ rfl)).trans (Turn.set _ _ _ _ rfl)).trans (Turn.set _ _ _ _ rfl)).trans (Turn.set _ _ _ _ rfl)).trans (Turn.set _ _ _ _ rfl)).trans (Turn.set _ _ _ _ rfl))
  refine bodyPost_ret (v := .agg #[.int .i64 er, .slice none 0 0, .int .i64 0, .int .i64 0, .int .i64 0, .int .i64 0, .int .i64 0, .bool false, .int .i64 0, .int .i64 0, .slice none 0 0]) (by simp [results, Tryz.results29, go_sem, e0, e1, e2, e3, e4, e5, e6, e7, e8, e9, e10]) rfl ?_
  exact ⟨⟨er, rfl⟩, HC3.out.away ts hnew1 (fun l h => Bx.ne h HZ3.out (by decide) rfl), HT3.out.then ts (fun i hi e => by omega)⟩
end
end Go.Proofs.YtoichcickcgbgaaGreatDoor
