/-
  The control's slot: releases, a run, the clock, what is late, what settles.
-/
import Derived.Test.YtoichcickcgbgaaGreatDoorGCv
namespace Go.Proofs.YtoichcickcgbgaaGreatDoor
open Go.RowKit
attribute [local go_sem] Oper.semAt_some
attribute [local go_sem] run_store_func
/-- What a run leaves. -/
def RunR (js : List Jb) (i : Int) (b : Bool) (js' : List Jb) : Prop :=
  (js = [] ∧ i = -1 ∧ b = false ∧ js' = []) ∨ ∃ a l, js = a :: l ∧ i = a.id ∧ b = decide (a.left = 1) ∧ ((a.left = 1 ∧ js' = l) ∨ (a.left ≠ 1 ∧ (js' = l ++ [a.less] ∨ js' = a.less :: l)))
theorem SvL.ji {t : Int} {gm gm' : Int → Option (Int × Int)} {js js' : List Jb} {rs : List Rk} (h : SvL t gm js rs gm' js') (hr : ∀ x ∈ rs, RowOk x) (hj : JI js) : JI js' := by
  induction h with
  | nil => exact hj
  | snoc _ h2 ih => exact h2.ji (hr _ (by simp)) (ih (fun x hx => hr x (by simp [hx])))
theorem RunR.ji {js js' : List Jb} {i : Int} {b : Bool} (h : RunR js i b js') (hj : JI js) : JI js' := by
  rcases h with ⟨_, _, _, rfl⟩ | ⟨a, l, rfl, _, _, ⟨_, rfl⟩ | ⟨hne, rfl | rfl⟩⟩
  · exact JI.nil
  · exact ⟨(List.pairwise_cons.1 hj.apart).2, fun j h => hj.ok j (by simp [h])⟩
  · have h1 := List.pairwise_cons.1 hj.apart
    refine ⟨List.pairwise_append.2 ⟨h1.2, by simp, fun x hx y hy => ?_⟩, fun j h => ?_⟩
    · simp at hy
      subst hy
      exact (h1.1 x hx).symm
    · rcases List.mem_append.1 h with h | h
      · exact hj.ok j (by simp [h])
      · simp at h
        subst h
        have := hj.ok a (by simp)
        exact ⟨this.1, by simp only [Jb.less]; omega, by simp only [Jb.less]; omega⟩
  · have h1 := List.pairwise_cons.1 hj.apart
    refine ⟨List.pairwise_cons.2 ⟨fun y hy => h1.1 y hy, h1.2⟩, fun j h => ?_⟩
    rcases List.mem_cons.1 h with rfl | h
    · have := hj.ok a (by simp)
      exact ⟨this.1, by simp only [Jb.less]; omega, by simp only [Jb.less]; omega⟩
    · exact hj.ok j (by simp [h])
section
variable {w : World} {col : Nat → Nat} {K : Ck} {n0 t : Int} {rs : List Rk} {gm : Int → Option (Int × Int)} {js : List Jb} {u : Nat}
theorem crun_any (H : Ctl w col K n0 t rs gm js u) (hj : JI js) : Calls Tryz.prog 96 #[.pointer (some ⟨K.x, 0, none⟩)] w fun e w' => ∃ i b js', e = .returned (.agg #[.int .i64 i, .bool b]) ∧ RunR js i b js' ∧ Ctl w' col K n0 t rs gm js' u ∧ Turn (Own col) w w' ∧ -1 ≤ i ∧ i ≤ 1 ∧ (i < 0 → b = false) := by
  match js, H, hj with
  | [], H, hj =>
    refine (run_none H.ex).mono ?_
    rintro e w1 ⟨rfl, b1⟩
    exact ⟨_, _, [], rfl, .inl ⟨rfl, rfl, rfl, rfl⟩, H.below b1, Turn.below b1, by omega, by omega, fun _ => rfl⟩
  | a :: l, H, hj =>
    have ha := hj.ok a (by simp)
    refine (run_some H.ex (by omega) (by omega)).mono ?_
    rintro e w1 ⟨rfl, ⟨js', hx, hh⟩, t1⟩
    exact ⟨_, _, js', rfl, .inr ⟨a, l, rfl, rfl, rfl, hh⟩, H.setEx t1 hx, Ctl.own t1 H.cols.h (by decide), by omega, by omega, fun h => by omega⟩
set_option maxRecDepth 100000 in
set_option maxHeartbeats 4000000 in
theorem cslot_any (H : Ctl w col K n0 t rs gm js u) (hl : rs.length ≤ 2) (hrow : ∀ x ∈ rs, RowOk x) (hj : JI js) (ht0 : 0 ≤ t) (ht1 : t ≤ 1000000) (hu : u < 1000) :
    Calls Tryz.prog 60 #[.pointer (some ⟨K.c, 0, none⟩)] w fun e w' => ∃ i b gm' js1 js', e = .returned (.agg #[.int .i64 i, .bool b]) ∧ Ctl w' col K n0 (t + 1) rs gm' js' (u + 8) ∧ SvL t gm js rs gm' js1 ∧ RunR js1 i b js' ∧ Turn (Own col) w w' := by
  have b0 := (Below.refl w.heap.size w).alloc (Nat.le_refl _) (.cells #[.int .i64 0, .bool false] 51)
  have HZ := Lib.hid (Bx.new w [.int .i64 0, .bool false] 51)
  have HH := Lib.hid (H.below b0)
  have HT := Lib.hid (Turn.below (S := Own col) b0)
  have hnew := H.new
  have hsz0 := HZ.out.lt
  clear b0 H
  go_enter Tryz.func60, Tryz.ntmps60
  go_wp2_with fail
  generalize w.alloc (.cells #[.int .i64 0, .bool false] 51) = u0 at *
  refine (cserves_any HH.out hl hrow hj ht0 ht1 hu).mono ?_
  rintro e w1 ⟨rfl, ⟨gm', js1, hc1, hsv⟩, t1⟩
  have HSV := Lib.hid hsv
  have hj1 := hsv.ji hrow hj
  have HH1 := Lib.hid hc1
  have HZ1 := Lib.hid (HZ.out.turn t1 (fun h => h hnew))
  have HT1 := Lib.hid (HT.out.trans t1)
  have hs1 := t1.size
  clear hsv hc1 t1 HH HZ HT
  have c8 := Bx.cell HH1.out.box 8 rfl
  go_wp2_with fail
  refine (crun_any HH1.out hj1).mono ?_
  rintro e w2 ⟨i, b, js2, rfl, hrun, hc2, t2, hi0, hi1, hib⟩
  have HRUN := Lib.hid hrun
  have hj2 := hrun.ji hj1
  have HL2 := Lib.hid hj2.len
  have hs2 := t2.size
  have b2 := (Below.refl w2.heap.size w2).alloc (Nat.le_refl _) (.cells #[.int .i64 i, .bool b] 51)
  have HR := Lib.hid (Bx.new w2 [.int .i64 i, .bool b] 51)
  have HH2 := Lib.hid (hc2.below b2)
  have hnew2 := hc2.new
  have HZ2 := Lib.hid ((HZ1.out.turn t2 (fun h => h hnew)).below b2)
  have HT2 := Lib.hid ((HT1.out.trans t2).trans (Turn.below b2))
  clear hrun hc2 t2 b2 HH1 HZ1 HT1 c8 hj1 hj2
  have c12 := Bx.cell HH2.out.box 12 rfl
  have c5 := Bx.cell HH2.out.box 5 rfl
  have f5 := Bx.free HH2.out.box 5
  have r0 := HR.out.cell 0 rfl
  have r1 := HR.out.cell 1 rfl
  by_cases hi : i ≥ 0
  · have hdi : decide (i ≥ 0) = true := by simpa using hi
    cases b
    · go_wp2_with fail
      refine (cadd_any HH2.out 7 1 (by decide) (by decide)).mono ?_
      rintro e w3 ⟨⟨v3, rfl⟩, h, tt⟩
      have HH3 := Lib.hid h
      have HR3 := Lib.hid (HR.out.turn tt (fun h => h hnew2))
      have HZ3 := Lib.hid (HZ2.out.turn tt (fun h => h hnew))
      have HT3 := Lib.hid (HT2.out.trans tt)
      clear h tt c5 f5 r0 r1 c12
      have c12 := Bx.cell HH3.out.box 12 rfl
      have c5 := Bx.cell HH3.out.box 5 rfl
      have f5 := Bx.free HH3.out.box 5
      have r0 := HR3.out.cell 0 rfl
      have r1 := HR3.out.cell 1 rfl
      go_wp2_with fail
      have t5 : Turn (fun i => i = K.c) w3 (w3.setCell ⟨K.c, 5, none⟩ (.int .i64 (t + 1))) := Turn.set _ _ _ _ rfl
      have s5 : PBox (w3.setCell ⟨K.c, 5, none⟩ (.int .i64 (t + 1))) K n0 (t + 1) := Bx.set HH3.out.box 5 _ _ rfl
      have HHA := Lib.hid (HH3.out.setBox t5 s5)
      have HRA := Lib.hid (HR3.out.turn t5 (fun e => Cols.ne hnew2 HH3.out.cols.c (by decide) e))
      have HZA := Lib.hid (HZ3.out.turn t5 (fun e => Cols.ne hnew HH3.out.cols.c (by decide) e))
      have HTA := Lib.hid (HT3.out.trans (Ctl.own t5 HH3.out.cols.c (by decide)))
      clear t5 s5 c12 c5 f5 r0 r1
      generalize w3.setCell ⟨K.c, 5, none⟩ (.int .i64 (t + 1)) = wa at *
      have KC : Hid (∀ y, Hid (Below wa.heap.size wa y) → (y.cell? ⟨K.c, 5, none⟩ = some (.int .i64 (t + 1)) ∧ y.cell? ⟨K.c, 8, none⟩ = some (.pointer (some ⟨K.x, 0, none⟩)) ∧ y.cell? ⟨K.c, 12, none⟩ = some (.pointer (some ⟨K.cb, 0, none⟩)))) := fun y h => ⟨(Bx.below HHA.out.box h.out).cell 5 rfl, (Bx.below HHA.out.box h.out).cell 8 rfl, (Bx.below HHA.out.box h.out).cell 12 rfl⟩
      have B1 : Hid (Below wa.heap.size wa wa.drew) := bl_drew (bl0 _)
      refine wp_region_held_drew (S := fun y => y.cell? ⟨K.c, 5, none⟩ = some (.int .i64 (t + 1)) ∧ y.cell? ⟨K.c, 8, none⟩ = some (.pointer (some ⟨K.x, 0, none⟩)) ∧ y.cell? ⟨K.c, 12, none⟩ = some (.pointer (some ⟨K.cb, 0, none⟩))) (by kernel_rfl) (KC.out _ B1) (fun hHeld => ?_)
      refine wtk 0 33 (.pointer (some ⟨K.c, 0, none⟩)) rfl (by kernel_rfl) (fun _ _ _ h => h) (by rfl) (fun x hSw => by obtain ⟨d0, d1, d2⟩ := id hSw; (go_simp) <;> first | decide | exact IntWalk.i64_in _ (by omega)) (by assumption) ?_
      try simp only [Act.put, pw]
      refine wtk 1 34 (.pointer (some ⟨K.c, 0, none⟩)) rfl (by kernel_rfl) (fun _ _ _ h => h) (by rfl) (fun x hSw => by obtain ⟨d0, d1, d2⟩ := id hSw; (go_simp) <;> first | decide | exact IntWalk.i64_in _ (by omega)) (by assumption) ?_
      try simp only [Act.put, pw]
      refine wtk 2 35 (.pointer (some ⟨K.c, 12, none⟩)) rfl (by kernel_rfl) (fun _ _ _ h => h) (by rfl) (fun x hSw => by obtain ⟨d0, d1, d2⟩ := id hSw; (go_simp) <;> first | decide | exact IntWalk.i64_in _ (by omega)) (by assumption) ?_
      try simp only [Act.put, pw]
      refine wtk 3 36 (.pointer (some ⟨K.cb, 0, none⟩)) rfl (by kernel_rfl) (fun _ _ _ h => h) (by rfl) (fun x hSw => by obtain ⟨d0, d1, d2⟩ := id hSw; (go_simp) <;> first | decide | exact IntWalk.i64_in _ (by omega)) (by assumption) ?_
      try simp only [Act.put, pw]
      refine wtk 4 37 (.pointer (some ⟨K.c, 0, none⟩)) rfl (by kernel_rfl) (fun _ _ _ h => h) (by rfl) (fun x hSw => by obtain ⟨d0, d1, d2⟩ := id hSw; (go_simp) <;> first | decide | exact IntWalk.i64_in _ (by omega)) (by assumption) ?_
      try simp only [Act.put, pw]
      refine wtk 5 38 (.pointer (some ⟨K.c, 0, none⟩)) rfl (by kernel_rfl) (fun _ _ _ h => h) (by rfl) (fun x hSw => by obtain ⟨d0, d1, d2⟩ := id hSw; (go_simp) <;> first | decide | exact IntWalk.i64_in _ (by omega)) (by assumption) ?_
      try simp only [Act.put, pw]
      refine wtk 6 39 (.pointer (some ⟨K.c, 8, none⟩)) rfl (by kernel_rfl) (fun _ _ _ h => h) (by rfl) (fun x hSw => by obtain ⟨d0, d1, d2⟩ := id hSw; (go_simp) <;> first | decide | exact IntWalk.i64_in _ (by omega)) (by assumption) ?_
      try simp only [Act.put, pw]
      refine wtk 7 40 (.pointer (some ⟨K.x, 0, none⟩)) rfl (by kernel_rfl) (fun _ _ _ h => h) (by rfl) (fun x hSw => by obtain ⟨d0, d1, d2⟩ := id hSw; (go_simp) <;> first | decide | exact IntWalk.i64_in _ (by omega)) (by assumption) ?_
      try simp only [Act.put, pw]
      refine wtk 8 41 (.pointer (some ⟨K.c, 0, none⟩)) rfl (by kernel_rfl) (fun _ _ _ h => h) (by rfl) (fun x hSw => by obtain ⟨d0, d1, d2⟩ := id hSw; (go_simp) <;> first | decide | exact IntWalk.i64_in _ (by omega)) (by assumption) ?_
      try simp only [Act.put, pw]
      refine wtk 9 42 (.pointer (some ⟨K.c, 0, none⟩)) rfl (by kernel_rfl) (fun _ _ _ h => h) (by rfl) (fun x hSw => by obtain ⟨d0, d1, d2⟩ := id hSw; (go_simp) <;> first | decide | exact IntWalk.i64_in _ (by omega)) (by assumption) ?_
      try simp only [Act.put, pw]
      refine wtk 10 43 (.pointer (some ⟨K.c, 5, none⟩)) rfl (by kernel_rfl) (fun _ _ _ h => h) (by rfl) (fun x hSw => by obtain ⟨d0, d1, d2⟩ := id hSw; (go_simp) <;> first | decide | exact IntWalk.i64_in _ (by omega)) (by assumption) ?_
      try simp only [Act.put, pw]
      refine wtk 11 44 (.int .i64 (t + 1)) rfl (by kernel_rfl) (fun _ _ _ h => h) (by rfl) (fun x hSw => by obtain ⟨d0, d1, d2⟩ := id hSw; (go_simp) <;> first | decide | exact IntWalk.i64_in _ (by omega)) (by assumption) ?_
      try simp only [Act.put, pw]
      refine wpAnyH_ready (rs := [12]) (by kernel_rfl) (by simp) (AllReadyH.cons rfl (fun KK hK => ?_) AllReadyH.nil)
      go_simp
      refine (late_any (HHA.out.ex.below B1.out) HL2.out (t + 1)).mono ?_
      rintro e wb ⟨oa, nn, cap, rfl, -, bb⟩
      have B3 := bl_below B1 bb
      refine hK.out _ _ (KC.out _ B3) (fun hHeld => ?_)
      clear hK KK
      clear bb
      try simp only [Act.put, pw]
      refine wtk 13 46 (.int .i64 nn) rfl (by kernel_rfl) (fun _ _ _ h => h) (by rfl) (fun x hSw => by obtain ⟨d0, d1, d2⟩ := id hSw; (go_simp) <;> first | decide | exact IntWalk.i64_in _ (by omega)) (by assumption) ?_
      try simp only [Act.put, pw]
      refine wpAnyH_ready (rs := [14]) (by kernel_rfl) (by simp) (AllReadyH.cons rfl (fun KK hK => ?_) AllReadyH.nil)
      go_simp
      refine (cadd_any (HHA.out.below B3.out) 5 nn (by decide) (by decide)).mono ?_
      rintro e wc ⟨⟨vc, rfl⟩, hc, tc⟩
      have HHC := Lib.hid hc
      have HTC := Lib.hid tc
      refine hK.out _ _ (⟨Bx.cell hc.box 5 rfl, Bx.cell hc.box 8 rfl, Bx.cell hc.box 12 rfl⟩) (fun hHeld => ?_)
      clear hK KK
      clear hc tc
      try simp only [Act.put, pw]
      refine wpAnyH_done (by kernel_rfl) ?_ _
      have HRC := Lib.hid ((HRA.out.below B3.out).turn HTC.out (fun h => h hnew2))
      have HZC := Lib.hid ((HZA.out.below B3.out).turn HTC.out (fun h => h hnew))
      have HTD := Lib.hid ((HTA.out.trans (Turn.below B3.out)).trans HTC.out)
      clear KC hHeld B1 B3 HHA HRA HZA HTA
      go_wp2_with fail
      refine (csettles_any HHC.out).mono ?_
      rintro e wd ⟨rfl, hd, td⟩
      have HRD := HRC.out.turn td (fun h => h hnew2)
      have HZD := HZC.out.turn td (fun h => h hnew)
      have r0 := HRD.cell 0 rfl
      have r1 := HRD.cell 1 rfl
      have z0 := HZD.cell 0 rfl
      have z1 := HZD.cell 1 rfl
      have f0 := HZD.free 0
      have f1 := HZD.free 1
      have HHD := Lib.hid hd
      have HTE := Lib.hid (HTD.out.trans td)
      have HZD := Lib.hid HZD
      clear hd td HRD
      go_wp2_with fail
      have ts : Turn (fun i => i = w.heap.size) wd ((wd.setCell ⟨w.heap.size, 0, none⟩ (.int .i64 i)).setCell ⟨w.heap.size, 1, none⟩ (.bool false)) := (Turn.set (S := fun i => i = w.heap.size) _ _ _ _ rfl).trans (Turn.set _ _ _ _ rfl)
      have s0 := Bx.set (w := wd) HZD.out 0 (.int .i64 i) _ rfl
      have s1 := Bx.set (w := _) s0 1 (.bool false) _ rfl
      have e0 := s1.cell 0 rfl
      have e1 := s1.cell 1 rfl
      refine bodyPost_ret (v := .agg #[.int .i64 i, .bool false]) (by simp [results, Tryz.results60, go_sem, e0, e1]) rfl ?_
      exact ⟨i, false, gm', js1, js2, rfl, HHD.out.away ts hnew (fun l h => Bx.ne h HZD.out (by decide) rfl), HSV.out, HRUN.out, HTE.out.then ts (fun i hi e => by omega)⟩
    · go_wp2_with fail
      refine (cadd_any HH2.out 7 1 (by decide) (by decide)).mono ?_
      rintro e w3 ⟨⟨v3, rfl⟩, h, tt⟩
      have HH3 := Lib.hid h
      have HR3 := Lib.hid (HR.out.turn tt (fun h => h hnew2))
      have HZ3 := Lib.hid (HZ2.out.turn tt (fun h => h hnew))
      have HT3 := Lib.hid (HT2.out.trans tt)
      clear h tt c5 f5 r0 r1 c12
      have c12 := Bx.cell HH3.out.box 12 rfl
      have c5 := Bx.cell HH3.out.box 5 rfl
      have f5 := Bx.free HH3.out.box 5
      have r0 := HR3.out.cell 0 rfl
      have r1 := HR3.out.cell 1 rfl
      go_wp2_with fail
      refine (cadd_any HH3.out 3 1 (by decide) (by decide)).mono ?_
      rintro e w4 ⟨⟨v4, rfl⟩, h, tt⟩
      have HH4 := Lib.hid h
      have HR4 := Lib.hid (HR3.out.turn tt (fun h => h hnew2))
      have HZ4 := Lib.hid (HZ3.out.turn tt (fun h => h hnew))
      have HT4 := Lib.hid (HT3.out.trans tt)
      clear h tt c5 f5 r0 r1 c12
      have c12 := Bx.cell HH4.out.box 12 rfl
      have c5 := Bx.cell HH4.out.box 5 rfl
      have f5 := Bx.free HH4.out.box 5
      have r0 := HR4.out.cell 0 rfl
      have r1 := HR4.out.cell 1 rfl
      go_wp2_with fail
      have t5 : Turn (fun i => i = K.c) w4 (w4.setCell ⟨K.c, 5, none⟩ (.int .i64 (t + 1))) := Turn.set _ _ _ _ rfl
      have s5 : PBox (w4.setCell ⟨K.c, 5, none⟩ (.int .i64 (t + 1))) K n0 (t + 1) := Bx.set HH4.out.box 5 _ _ rfl
      have HHA := Lib.hid (HH4.out.setBox t5 s5)
      have HRA := Lib.hid (HR4.out.turn t5 (fun e => Cols.ne hnew2 HH4.out.cols.c (by decide) e))
      have HZA := Lib.hid (HZ4.out.turn t5 (fun e => Cols.ne hnew HH4.out.cols.c (by decide) e))
      have HTA := Lib.hid (HT4.out.trans (Ctl.own t5 HH4.out.cols.c (by decide)))
      clear t5 s5 c12 c5 f5 r0 r1
      generalize w4.setCell ⟨K.c, 5, none⟩ (.int .i64 (t + 1)) = wa at *
      have KC : Hid (∀ y, Hid (Below wa.heap.size wa y) → (y.cell? ⟨K.c, 5, none⟩ = some (.int .i64 (t + 1)) ∧ y.cell? ⟨K.c, 8, none⟩ = some (.pointer (some ⟨K.x, 0, none⟩)) ∧ y.cell? ⟨K.c, 12, none⟩ = some (.pointer (some ⟨K.cb, 0, none⟩)))) := fun y h => ⟨(Bx.below HHA.out.box h.out).cell 5 rfl, (Bx.below HHA.out.box h.out).cell 8 rfl, (Bx.below HHA.out.box h.out).cell 12 rfl⟩
      have B1 : Hid (Below wa.heap.size wa wa.drew) := bl_drew (bl0 _)
      refine wp_region_held_drew (S := fun y => y.cell? ⟨K.c, 5, none⟩ = some (.int .i64 (t + 1)) ∧ y.cell? ⟨K.c, 8, none⟩ = some (.pointer (some ⟨K.x, 0, none⟩)) ∧ y.cell? ⟨K.c, 12, none⟩ = some (.pointer (some ⟨K.cb, 0, none⟩))) (by kernel_rfl) (KC.out _ B1) (fun hHeld => ?_)
      refine wtk 0 33 (.pointer (some ⟨K.c, 0, none⟩)) rfl (by kernel_rfl) (fun _ _ _ h => h) (by rfl) (fun x hSw => by obtain ⟨d0, d1, d2⟩ := id hSw; (go_simp) <;> first | decide | exact IntWalk.i64_in _ (by omega)) (by assumption) ?_
      try simp only [Act.put, pw]
      refine wtk 1 34 (.pointer (some ⟨K.c, 0, none⟩)) rfl (by kernel_rfl) (fun _ _ _ h => h) (by rfl) (fun x hSw => by obtain ⟨d0, d1, d2⟩ := id hSw; (go_simp) <;> first | decide | exact IntWalk.i64_in _ (by omega)) (by assumption) ?_
      try simp only [Act.put, pw]
      refine wtk 2 35 (.pointer (some ⟨K.c, 12, none⟩)) rfl (by kernel_rfl) (fun _ _ _ h => h) (by rfl) (fun x hSw => by obtain ⟨d0, d1, d2⟩ := id hSw; (go_simp) <;> first | decide | exact IntWalk.i64_in _ (by omega)) (by assumption) ?_
      try simp only [Act.put, pw]
      refine wtk 3 36 (.pointer (some ⟨K.cb, 0, none⟩)) rfl (by kernel_rfl) (fun _ _ _ h => h) (by rfl) (fun x hSw => by obtain ⟨d0, d1, d2⟩ := id hSw; (go_simp) <;> first | decide | exact IntWalk.i64_in _ (by omega)) (by assumption) ?_
      try simp only [Act.put, pw]
      refine wtk 4 37 (.pointer (some ⟨K.c, 0, none⟩)) rfl (by kernel_rfl) (fun _ _ _ h => h) (by rfl) (fun x hSw => by obtain ⟨d0, d1, d2⟩ := id hSw; (go_simp) <;> first | decide | exact IntWalk.i64_in _ (by omega)) (by assumption) ?_
      try simp only [Act.put, pw]
      refine wtk 5 38 (.pointer (some ⟨K.c, 0, none⟩)) rfl (by kernel_rfl) (fun _ _ _ h => h) (by rfl) (fun x hSw => by obtain ⟨d0, d1, d2⟩ := id hSw; (go_simp) <;> first | decide | exact IntWalk.i64_in _ (by omega)) (by assumption) ?_
      try simp only [Act.put, pw]
      refine wtk 6 39 (.pointer (some ⟨K.c, 8, none⟩)) rfl (by kernel_rfl) (fun _ _ _ h => h) (by rfl) (fun x hSw => by obtain ⟨d0, d1, d2⟩ := id hSw; (go_simp) <;> first | decide | exact IntWalk.i64_in _ (by omega)) (by assumption) ?_
      try simp only [Act.put, pw]
      refine wtk 7 40 (.pointer (some ⟨K.x, 0, none⟩)) rfl (by kernel_rfl) (fun _ _ _ h => h) (by rfl) (fun x hSw => by obtain ⟨d0, d1, d2⟩ := id hSw; (go_simp) <;> first | decide | exact IntWalk.i64_in _ (by omega)) (by assumption) ?_
      try simp only [Act.put, pw]
      refine wtk 8 41 (.pointer (some ⟨K.c, 0, none⟩)) rfl (by kernel_rfl) (fun _ _ _ h => h) (by rfl) (fun x hSw => by obtain ⟨d0, d1, d2⟩ := id hSw; (go_simp) <;> first | decide | exact IntWalk.i64_in _ (by omega)) (by assumption) ?_
      try simp only [Act.put, pw]
      refine wtk 9 42 (.pointer (some ⟨K.c, 0, none⟩)) rfl (by kernel_rfl) (fun _ _ _ h => h) (by rfl) (fun x hSw => by obtain ⟨d0, d1, d2⟩ := id hSw; (go_simp) <;> first | decide | exact IntWalk.i64_in _ (by omega)) (by assumption) ?_
      try simp only [Act.put, pw]
      refine wtk 10 43 (.pointer (some ⟨K.c, 5, none⟩)) rfl (by kernel_rfl) (fun _ _ _ h => h) (by rfl) (fun x hSw => by obtain ⟨d0, d1, d2⟩ := id hSw; (go_simp) <;> first | decide | exact IntWalk.i64_in _ (by omega)) (by assumption) ?_
      try simp only [Act.put, pw]
      refine wtk 11 44 (.int .i64 (t + 1)) rfl (by kernel_rfl) (fun _ _ _ h => h) (by rfl) (fun x hSw => by obtain ⟨d0, d1, d2⟩ := id hSw; (go_simp) <;> first | decide | exact IntWalk.i64_in _ (by omega)) (by assumption) ?_
      try simp only [Act.put, pw]
      refine wpAnyH_ready (rs := [12]) (by kernel_rfl) (by simp) (AllReadyH.cons rfl (fun KK hK => ?_) AllReadyH.nil)
      go_simp
      refine (late_any (HHA.out.ex.below B1.out) HL2.out (t + 1)).mono ?_
      rintro e wb ⟨oa, nn, cap, rfl, -, bb⟩
      have B3 := bl_below B1 bb
      refine hK.out _ _ (KC.out _ B3) (fun hHeld => ?_)
      clear hK KK
      clear bb
      try simp only [Act.put, pw]
      refine wtk 13 46 (.int .i64 nn) rfl (by kernel_rfl) (fun _ _ _ h => h) (by rfl) (fun x hSw => by obtain ⟨d0, d1, d2⟩ := id hSw; (go_simp) <;> first | decide | exact IntWalk.i64_in _ (by omega)) (by assumption) ?_
      try simp only [Act.put, pw]
      refine wpAnyH_ready (rs := [14]) (by kernel_rfl) (by simp) (AllReadyH.cons rfl (fun KK hK => ?_) AllReadyH.nil)
      go_simp
      refine (cadd_any (HHA.out.below B3.out) 5 nn (by decide) (by decide)).mono ?_
      rintro e wc ⟨⟨vc, rfl⟩, hc, tc⟩
      have HHC := Lib.hid hc
      have HTC := Lib.hid tc
      refine hK.out _ _ (⟨Bx.cell hc.box 5 rfl, Bx.cell hc.box 8 rfl, Bx.cell hc.box 12 rfl⟩) (fun hHeld => ?_)
      clear hK KK
      clear hc tc
      try simp only [Act.put, pw]
      refine wpAnyH_done (by kernel_rfl) ?_ _
      have HRC := Lib.hid ((HRA.out.below B3.out).turn HTC.out (fun h => h hnew2))
      have HZC := Lib.hid ((HZA.out.below B3.out).turn HTC.out (fun h => h hnew))
      have HTD := Lib.hid ((HTA.out.trans (Turn.below B3.out)).trans HTC.out)
      clear KC hHeld B1 B3 HHA HRA HZA HTA
      go_wp2_with fail
      refine (csettles_any HHC.out).mono ?_
      rintro e wd ⟨rfl, hd, td⟩
      have HRD := HRC.out.turn td (fun h => h hnew2)
      have HZD := HZC.out.turn td (fun h => h hnew)
      have r0 := HRD.cell 0 rfl
      have r1 := HRD.cell 1 rfl
      have z0 := HZD.cell 0 rfl
      have z1 := HZD.cell 1 rfl
      have f0 := HZD.free 0
      have f1 := HZD.free 1
      have HHD := Lib.hid hd
      have HTE := Lib.hid (HTD.out.trans td)
      have HZD := Lib.hid HZD
      clear hd td HRD
      go_wp2_with fail
      have ts : Turn (fun i => i = w.heap.size) wd ((wd.setCell ⟨w.heap.size, 0, none⟩ (.int .i64 i)).setCell ⟨w.heap.size, 1, none⟩ (.bool true)) := (Turn.set (S := fun i => i = w.heap.size) _ _ _ _ rfl).trans (Turn.set _ _ _ _ rfl)
      have s0 := Bx.set (w := wd) HZD.out 0 (.int .i64 i) _ rfl
      have s1 := Bx.set (w := _) s0 1 (.bool true) _ rfl
      have e0 := s1.cell 0 rfl
      have e1 := s1.cell 1 rfl
      refine bodyPost_ret (v := .agg #[.int .i64 i, .bool true]) (by simp [results, Tryz.results60, go_sem, e0, e1]) rfl ?_
      exact ⟨i, true, gm', js1, js2, rfl, HHD.out.away ts hnew (fun l h => Bx.ne h HZD.out (by decide) rfl), HSV.out, HRUN.out, HTE.out.then ts (fun i hi e => by omega)⟩
  · have hdi : decide (i ≥ 0) = false := by simpa using hi
    have hbf : b = false := hib (by omega)
    subst hbf
    go_wp2_with fail
    generalize w2.alloc (.cells #[.int .i64 i, .bool false] 51) = w3 at *
    have HR2 := HR
    have t5 : Turn (fun i => i = K.c) w3 (w3.setCell ⟨K.c, 5, none⟩ (.int .i64 (t + 1))) := Turn.set _ _ _ _ rfl
    have s5 : PBox (w3.setCell ⟨K.c, 5, none⟩ (.int .i64 (t + 1))) K n0 (t + 1) := Bx.set HH2.out.box 5 _ _ rfl
    have HHA := Lib.hid (HH2.out.setBox t5 s5)
    have HRA := Lib.hid (HR2.out.turn t5 (fun e => Cols.ne hnew2 HH2.out.cols.c (by decide) e))
    have HZA := Lib.hid (HZ2.out.turn t5 (fun e => Cols.ne hnew HH2.out.cols.c (by decide) e))
    have HTA := Lib.hid (HT2.out.trans (Ctl.own t5 HH2.out.cols.c (by decide)))
    clear t5 s5 c12 c5 f5 r0 r1
    generalize w3.setCell ⟨K.c, 5, none⟩ (.int .i64 (t + 1)) = wa at *
    have KC : Hid (∀ y, Hid (Below wa.heap.size wa y) → (y.cell? ⟨K.c, 5, none⟩ = some (.int .i64 (t + 1)) ∧ y.cell? ⟨K.c, 8, none⟩ = some (.pointer (some ⟨K.x, 0, none⟩)) ∧ y.cell? ⟨K.c, 12, none⟩ = some (.pointer (some ⟨K.cb, 0, none⟩)))) := fun y h => ⟨(Bx.below HHA.out.box h.out).cell 5 rfl, (Bx.below HHA.out.box h.out).cell 8 rfl, (Bx.below HHA.out.box h.out).cell 12 rfl⟩
    have B1 : Hid (Below wa.heap.size wa wa.drew) := bl_drew (bl0 _)
    refine wp_region_held_drew (S := fun y => y.cell? ⟨K.c, 5, none⟩ = some (.int .i64 (t + 1)) ∧ y.cell? ⟨K.c, 8, none⟩ = some (.pointer (some ⟨K.x, 0, none⟩)) ∧ y.cell? ⟨K.c, 12, none⟩ = some (.pointer (some ⟨K.cb, 0, none⟩))) (by kernel_rfl) (KC.out _ B1) (fun hHeld => ?_)
    refine wtk 0 33 (.pointer (some ⟨K.c, 0, none⟩)) rfl (by kernel_rfl) (fun _ _ _ h => h) (by rfl) (fun x hSw => by obtain ⟨d0, d1, d2⟩ := id hSw; (go_simp) <;> first | decide | exact IntWalk.i64_in _ (by omega)) (by assumption) ?_
    try simp only [Act.put, pw]
    refine wtk 1 34 (.pointer (some ⟨K.c, 0, none⟩)) rfl (by kernel_rfl) (fun _ _ _ h => h) (by rfl) (fun x hSw => by obtain ⟨d0, d1, d2⟩ := id hSw; (go_simp) <;> first | decide | exact IntWalk.i64_in _ (by omega)) (by assumption) ?_
    try simp only [Act.put, pw]
    refine wtk 2 35 (.pointer (some ⟨K.c, 12, none⟩)) rfl (by kernel_rfl) (fun _ _ _ h => h) (by rfl) (fun x hSw => by obtain ⟨d0, d1, d2⟩ := id hSw; (go_simp) <;> first | decide | exact IntWalk.i64_in _ (by omega)) (by assumption) ?_
    try simp only [Act.put, pw]
    refine wtk 3 36 (.pointer (some ⟨K.cb, 0, none⟩)) rfl (by kernel_rfl) (fun _ _ _ h => h) (by rfl) (fun x hSw => by obtain ⟨d0, d1, d2⟩ := id hSw; (go_simp) <;> first | decide | exact IntWalk.i64_in _ (by omega)) (by assumption) ?_
    try simp only [Act.put, pw]
    refine wtk 4 37 (.pointer (some ⟨K.c, 0, none⟩)) rfl (by kernel_rfl) (fun _ _ _ h => h) (by rfl) (fun x hSw => by obtain ⟨d0, d1, d2⟩ := id hSw; (go_simp) <;> first | decide | exact IntWalk.i64_in _ (by omega)) (by assumption) ?_
    try simp only [Act.put, pw]
    refine wtk 5 38 (.pointer (some ⟨K.c, 0, none⟩)) rfl (by kernel_rfl) (fun _ _ _ h => h) (by rfl) (fun x hSw => by obtain ⟨d0, d1, d2⟩ := id hSw; (go_simp) <;> first | decide | exact IntWalk.i64_in _ (by omega)) (by assumption) ?_
    try simp only [Act.put, pw]
    refine wtk 6 39 (.pointer (some ⟨K.c, 8, none⟩)) rfl (by kernel_rfl) (fun _ _ _ h => h) (by rfl) (fun x hSw => by obtain ⟨d0, d1, d2⟩ := id hSw; (go_simp) <;> first | decide | exact IntWalk.i64_in _ (by omega)) (by assumption) ?_
    try simp only [Act.put, pw]
    refine wtk 7 40 (.pointer (some ⟨K.x, 0, none⟩)) rfl (by kernel_rfl) (fun _ _ _ h => h) (by rfl) (fun x hSw => by obtain ⟨d0, d1, d2⟩ := id hSw; (go_simp) <;> first | decide | exact IntWalk.i64_in _ (by omega)) (by assumption) ?_
    try simp only [Act.put, pw]
    refine wtk 8 41 (.pointer (some ⟨K.c, 0, none⟩)) rfl (by kernel_rfl) (fun _ _ _ h => h) (by rfl) (fun x hSw => by obtain ⟨d0, d1, d2⟩ := id hSw; (go_simp) <;> first | decide | exact IntWalk.i64_in _ (by omega)) (by assumption) ?_
    try simp only [Act.put, pw]
    refine wtk 9 42 (.pointer (some ⟨K.c, 0, none⟩)) rfl (by kernel_rfl) (fun _ _ _ h => h) (by rfl) (fun x hSw => by obtain ⟨d0, d1, d2⟩ := id hSw; (go_simp) <;> first | decide | exact IntWalk.i64_in _ (by omega)) (by assumption) ?_
    try simp only [Act.put, pw]
    refine wtk 10 43 (.pointer (some ⟨K.c, 5, none⟩)) rfl (by kernel_rfl) (fun _ _ _ h => h) (by rfl) (fun x hSw => by obtain ⟨d0, d1, d2⟩ := id hSw; (go_simp) <;> first | decide | exact IntWalk.i64_in _ (by omega)) (by assumption) ?_
    try simp only [Act.put, pw]
    refine wtk 11 44 (.int .i64 (t + 1)) rfl (by kernel_rfl) (fun _ _ _ h => h) (by rfl) (fun x hSw => by obtain ⟨d0, d1, d2⟩ := id hSw; (go_simp) <;> first | decide | exact IntWalk.i64_in _ (by omega)) (by assumption) ?_
    try simp only [Act.put, pw]
    refine wpAnyH_ready (rs := [12]) (by kernel_rfl) (by simp) (AllReadyH.cons rfl (fun KK hK => ?_) AllReadyH.nil)
    go_simp
    refine (late_any (HHA.out.ex.below B1.out) HL2.out (t + 1)).mono ?_
    rintro e wb ⟨oa, nn, cap, rfl, -, bb⟩
    have B3 := bl_below B1 bb
    refine hK.out _ _ (KC.out _ B3) (fun hHeld => ?_)
    clear hK KK
    clear bb
    try simp only [Act.put, pw]
    refine wtk 13 46 (.int .i64 nn) rfl (by kernel_rfl) (fun _ _ _ h => h) (by rfl) (fun x hSw => by obtain ⟨d0, d1, d2⟩ := id hSw; (go_simp) <;> first | decide | exact IntWalk.i64_in _ (by omega)) (by assumption) ?_
    try simp only [Act.put, pw]
    refine wpAnyH_ready (rs := [14]) (by kernel_rfl) (by simp) (AllReadyH.cons rfl (fun KK hK => ?_) AllReadyH.nil)
    go_simp
    refine (cadd_any (HHA.out.below B3.out) 5 nn (by decide) (by decide)).mono ?_
    rintro e wc ⟨⟨vc, rfl⟩, hc, tc⟩
    have HHC := Lib.hid hc
    have HTC := Lib.hid tc
    refine hK.out _ _ (⟨Bx.cell hc.box 5 rfl, Bx.cell hc.box 8 rfl, Bx.cell hc.box 12 rfl⟩) (fun hHeld => ?_)
    clear hK KK
    clear hc tc
    try simp only [Act.put, pw]
    refine wpAnyH_done (by kernel_rfl) ?_ _
    have HRC := Lib.hid ((HRA.out.below B3.out).turn HTC.out (fun h => h hnew2))
    have HZC := Lib.hid ((HZA.out.below B3.out).turn HTC.out (fun h => h hnew))
    have HTD := Lib.hid ((HTA.out.trans (Turn.below B3.out)).trans HTC.out)
    clear KC hHeld B1 B3 HHA HRA HZA HTA
    go_wp2_with fail
    refine (csettles_any HHC.out).mono ?_
    rintro e wd ⟨rfl, hd, td⟩
    have HRD := HRC.out.turn td (fun h => h hnew2)
    have HZD := HZC.out.turn td (fun h => h hnew)
    have r0 := HRD.cell 0 rfl
    have r1 := HRD.cell 1 rfl
    have z0 := HZD.cell 0 rfl
    have z1 := HZD.cell 1 rfl
    have f0 := HZD.free 0
    have f1 := HZD.free 1
    have HHD := Lib.hid hd
    have HTE := Lib.hid (HTD.out.trans td)
    have HZD := Lib.hid HZD
    clear hd td HRD
    go_wp2_with fail
    have ts : Turn (fun i => i = w.heap.size) wd ((wd.setCell ⟨w.heap.size, 0, none⟩ (.int .i64 i)).setCell ⟨w.heap.size, 1, none⟩ (.bool false)) := (Turn.set (S := fun i => i = w.heap.size) _ _ _ _ rfl).trans (Turn.set _ _ _ _ rfl)
    have s0 := Bx.set (w := wd) HZD.out 0 (.int .i64 i) _ rfl
    have s1 := Bx.set (w := _) s0 1 (.bool false) _ rfl
    have e0 := s1.cell 0 rfl
    have e1 := s1.cell 1 rfl
    refine bodyPost_ret (v := .agg #[.int .i64 i, .bool false]) (by simp [results, Tryz.results60, go_sem, e0, e1]) rfl ?_
    exact ⟨i, false, gm', js1, js2, rfl, HHD.out.away ts hnew (fun l h => Bx.ne h HZD.out (by decide) rfl), HSV.out, HRUN.out, HTE.out.then ts (fun i hi e => by omega)⟩
end
end Go.Proofs.YtoichcickcgbgaaGreatDoor
