/-
  The control's op: an admission.
-/
import Derived.Test.YtoichcickcgbgaaGreatDoorGCxCy
namespace Go.Proofs.YtoichcickcgbgaaGreatDoor
open Go.RowKit
attribute [local go_sem] Oper.semAt_some
attribute [local go_sem] run_store_func
section
variable {w : World} {col : Nat → Nat} {K : Ck} {n0 t : Int} {rs : List Rk} {gm : Int → Option (Int × Int)} {u : Nat}
set_option linter.unusedSimpArgs false in
set_option maxRecDepth 100000 in
set_option maxHeartbeats 4000000 in
theorem cop_any (H : Ctl w col K n0 t rs gm [] u) {x : Rk} (hk : Rws (rs ++ [x])) (hlo : Lo x) :
    Calls Tryz.prog 27 #[.pointer (some ⟨K.c, 0, none⟩), .agg #[.int .i64 1, .int .i64 1, .int .i64 x.k.id, .int .i64 x.k.c, .int .i64 x.k.d, .int .i64 x.k.t, .int .i64 x.k.m, .bool x.s, .int .i64 0, .int .i64 0, .int .i64 0, .int .i64 0, .int .i64 0, .int .i64 0, .slice none 0 0]] w fun e w' => ∃ er : Int, e = .returned (.agg #[.int .i64 er, .slice none 0 0, .int .i64 0, .int .i64 0, .int .i64 0, .int .i64 0, .int .i64 0, .bool false, .int .i64 0, .int .i64 0, .slice none 0 0]) ∧ (rs = [] → er = 0) ∧ ((er = 0 ∧ ∃ col', Ctl w' col' K n0 t (rs ++ [x]) gm [] u ∧ ∀ i, i < w.heap.size → col' i = col i) ∨ (er ≠ 0 ∧ Ctl w' col K n0 t rs gm [] u)) ∧ Turn (Own col) w w' := by
  have hlen : rs.length ≤ 1 := by have := hk.len; simp at this; omega
  have b0 := ((Below.refl w.heap.size w).alloc (Nat.le_refl _) (.cells #[.int .i64 1, .int .i64 1, .int .i64 x.k.id, .int .i64 x.k.c, .int .i64 x.k.d, .int .i64 x.k.t, .int .i64 x.k.m, .bool x.s, .int .i64 0, .int .i64 0, .int .i64 0, .int .i64 0, .int .i64 0, .int .i64 0, .slice none 0 0] 46)).alloc (by simp) (.cells #[.int .i64 0, .slice none 0 0, .int .i64 0, .int .i64 0, .int .i64 0, .int .i64 0, .int .i64 0, .bool false, .int .i64 0, .int .i64 0, .slice none 0 0] 40)
  have hm := (Bx.new w [.int .i64 1, .int .i64 1, .int .i64 x.k.id, .int .i64 x.k.c, .int .i64 x.k.d, .int .i64 x.k.t, .int .i64 x.k.m, .bool x.s, .int .i64 0, .int .i64 0, .int .i64 0, .int .i64 0, .int .i64 0, .int .i64 0, .slice none 0 0] 46).more (.cells #[.int .i64 0, .slice none 0 0, .int .i64 0, .int .i64 0, .int .i64 0, .int .i64 0, .int .i64 0, .bool false, .int .i64 0, .int .i64 0, .slice none 0 0] 40)
  have hz := Bx.new (w.alloc (.cells #[.int .i64 1, .int .i64 1, .int .i64 x.k.id, .int .i64 x.k.c, .int .i64 x.k.d, .int .i64 x.k.t, .int .i64 x.k.m, .bool x.s, .int .i64 0, .int .i64 0, .int .i64 0, .int .i64 0, .int .i64 0, .int .i64 0, .slice none 0 0] 46)) [.int .i64 0, .slice none 0 0, .int .i64 0, .int .i64 0, .int .i64 0, .int .i64 0, .int .i64 0, .bool false, .int .i64 0, .int .i64 0, .slice none 0 0] 40
  simp only [World.size_alloc] at hz
  have HZ := Lib.hid hz
  have HM := Lib.hid hm
  have HH := Lib.hid (H.below b0)
  have HT := Lib.hid (Turn.below (S := Own col) b0)
  have hnew0 := H.new
  have hnew1 := H.fresh (w.heap.size + 1) (by omega)
  have hs0 : w.heap.size ≤ ((w.alloc (.cells #[.int .i64 1, .int .i64 1, .int .i64 x.k.id, .int .i64 x.k.c, .int .i64 x.k.d, .int .i64 x.k.t, .int .i64 x.k.m, .bool x.s, .int .i64 0, .int .i64 0, .int .i64 0, .int .i64 0, .int .i64 0, .int .i64 0, .slice none 0 0] 46)).alloc (.cells #[.int .i64 0, .slice none 0 0, .int .i64 0, .int .i64 0, .int .i64 0, .int .i64 0, .int .i64 0, .bool false, .int .i64 0, .int .i64 0, .slice none 0 0] 40)).heap.size := b0.size
  have HG := Lib.hid (fun (y : World) (h : Ctl y col K n0 t rs gm [] u) => cgoes_any h hk)
  have HD := Lib.hid (fun (y : World) (G : Nat → Prop) (r : Int) (v : Value) (h : Rgs y G K.q K.j K.n rs.length r v rs) (h1 : 18 + rs.length < K.n) (h2 : K.n ≤ 1024) => rdo_any h hk hlo h1 h2)
  have hav : av x = .agg #[.int .i64 1, .int .i64 x.k.id, .int .i64 x.k.c, .int .i64 x.k.d, .int .i64 x.k.t, .int .i64 x.k.m, .bool x.s, .int .i64 0, .int .i64 0, .int .i64 0] := rfl
  rw [hav] at HD
  have HNE := Lib.hid (show rs ++ [x] ≠ [] by simp)
  have HLEN := Lib.hid (show (rs ++ [x]).length = rs.length + 1 by simp)
  have m1 := hm.cell 1 rfl
  have m2 := hm.cell 2 rfl
  have m3 := hm.cell 3 rfl
  have m4 := hm.cell 4 rfl
  have m5 := hm.cell 5 rfl
  have m6 := hm.cell 6 rfl
  have m7 := hm.cell 7 rfl
  have m8 := hm.cell 8 rfl
  have m9 := hm.cell 9 rfl
  have m10 := hm.cell 10 rfl
  clear b0 H hz hm hav
  go_enter Tryz.func27, Tryz.ntmps27
  go_wp2_with fail
  generalize (w.alloc (.cells #[.int .i64 1, .int .i64 1, .int .i64 x.k.id, .int .i64 x.k.c, .int .i64 x.k.d, .int .i64 x.k.t, .int .i64 x.k.m, .bool x.s, .int .i64 0, .int .i64 0, .int .i64 0, .int .i64 0, .int .i64 0, .int .i64 0, .slice none 0 0] 46)).alloc (.cells #[.int .i64 0, .slice none 0 0, .int .i64 0, .int .i64 0, .int .i64 0, .int .i64 0, .int .i64 0, .bool false, .int .i64 0, .int .i64 0, .slice none 0 0] 40) = u0 at *
  refine (HG.out _ HH.out).mono ?_
  rintro e w1 ⟨rfl, b1⟩
  have HM1 := Lib.hid (HM.out.below b1)
  have HZ1 := Lib.hid (HZ.out.below b1)
  have HH1 := Lib.hid (HH.out.below b1)
  have HT1 := Lib.hid (HT.out.trans (Turn.below b1))
  have hs1 : u0.heap.size ≤ w1.heap.size := b1.size
  clear b1 HM HZ HH HT m1 m2 m3 m4 m5 m6 m7 m8 m9 m10
  go_wp2_with fail
  refine (extra_any HH1.out).mono ?_
  rintro e w2 ⟨rfl, b2⟩
  have HM2 := Lib.hid (HM1.out.below b2)
  have HZ2 := Lib.hid (HZ1.out.below b2)
  have HH2 := Lib.hid (HH1.out.below b2)
  have HT2 := Lib.hid (HT1.out.trans (Turn.below b2))
  have hs2 : u0.heap.size ≤ w2.heap.size := Nat.le_trans hs1 b2.size
  clear b2 HM1 HZ1 HH1 HT1
  go_wp2_with fail
  refine wp_loop_rounds 1 ?_
  rw [rounds_succ]
  go_wp2_with fail
  obtain ⟨G, r, v, hR, hGc, hvc⟩ := HH2.out.reg
  have HR := Lib.hid hR
  have HGC := Lib.hid hGc
  clear hR hGc
  have n1 : ¬ (G K.c ∨ K.c = K.q) := fun h => h.elim (fun h => by have := HGC.out _ h; rw [HH2.out.cols.c] at this; omega) (fun h => Cols.ne HH2.out.cols.c HH2.out.cols.q (by decide) h)
  have n2 : ¬ (G w.heap.size ∨ w.heap.size = K.q) := fun h => h.elim (fun h => by have := HGC.out _ h; omega) (fun h => Cols.ne hnew0 HH2.out.cols.q (by decide) h)
  have n3 : ¬ (G (w.heap.size + 1) ∨ w.heap.size + 1 = K.q) := fun h => h.elim (fun h => by have := HGC.out _ h; omega) (fun h => Cols.ne hnew1 HH2.out.cols.q (by decide) h)
  have KC : Hid (∀ y, Hid (Turn (fun i => G i ∨ i = K.q) w2 y) → (y.cell? ⟨K.c, 4, none⟩ = some (.pointer (some ⟨K.q, 0, none⟩)) ∧ y.cell? ⟨w.heap.size, 1, none⟩ = some (.int .i64 1) ∧ y.cell? ⟨w.heap.size, 2, none⟩ = some (.int .i64 x.k.id) ∧ y.cell? ⟨w.heap.size, 3, none⟩ = some (.int .i64 x.k.c) ∧ y.cell? ⟨w.heap.size, 4, none⟩ = some (.int .i64 x.k.d) ∧ y.cell? ⟨w.heap.size, 5, none⟩ = some (.int .i64 x.k.t) ∧ y.cell? ⟨w.heap.size, 6, none⟩ = some (.int .i64 x.k.m) ∧ y.cell? ⟨w.heap.size, 7, none⟩ = some (.bool x.s) ∧ y.cell? ⟨w.heap.size, 8, none⟩ = some (.int .i64 0) ∧ y.cell? ⟨w.heap.size, 9, none⟩ = some (.int .i64 0) ∧ y.cell? ⟨w.heap.size, 10, none⟩ = some (.int .i64 0))) := fun y b => ⟨(Bx.turn HH2.out.box b.out n1).cell 4 rfl, (HM2.out.turn b.out n2).cell 1 rfl, (HM2.out.turn b.out n2).cell 2 rfl, (HM2.out.turn b.out n2).cell 3 rfl, (HM2.out.turn b.out n2).cell 4 rfl, (HM2.out.turn b.out n2).cell 5 rfl, (HM2.out.turn b.out n2).cell 6 rfl, (HM2.out.turn b.out n2).cell 7 rfl, (HM2.out.turn b.out n2).cell 8 rfl, (HM2.out.turn b.out n2).cell 9 rfl, (HM2.out.turn b.out n2).cell 10 rfl⟩
  have T1 : Hid (Turn (fun i => G i ∨ i = K.q) w2 w2.drew) := (Turn.refl _ _).drew
  refine wp_region_held_drew (S := fun y => (y.cell? ⟨K.c, 4, none⟩ = some (.pointer (some ⟨K.q, 0, none⟩)) ∧ y.cell? ⟨w.heap.size, 1, none⟩ = some (.int .i64 1) ∧ y.cell? ⟨w.heap.size, 2, none⟩ = some (.int .i64 x.k.id) ∧ y.cell? ⟨w.heap.size, 3, none⟩ = some (.int .i64 x.k.c) ∧ y.cell? ⟨w.heap.size, 4, none⟩ = some (.int .i64 x.k.d) ∧ y.cell? ⟨w.heap.size, 5, none⟩ = some (.int .i64 x.k.t) ∧ y.cell? ⟨w.heap.size, 6, none⟩ = some (.int .i64 x.k.m) ∧ y.cell? ⟨w.heap.size, 7, none⟩ = some (.bool x.s) ∧ y.cell? ⟨w.heap.size, 8, none⟩ = some (.int .i64 0) ∧ y.cell? ⟨w.heap.size, 9, none⟩ = some (.int .i64 0) ∧ y.cell? ⟨w.heap.size, 10, none⟩ = some (.int .i64 0)) ∧ Hid (Turn (fun i => G i ∨ i = K.q) w2 y)) (by kernel_rfl) (tkp KC T1) (fun hHeld => ?_)
  refine wtk 0 28 (.pointer (some ⟨K.c, 0, none⟩)) rfl (by kernel_rfl) (fun _ _ _ h => h) (by rfl) (fun x hSw => by obtain ⟨⟨d0, d1, d2, d3, d4, d5, d6, d7, d8, d9, d10⟩, _⟩ := id hSw; (go_simp) <;> first | decide | exact IntWalk.i64_in _ (by omega)) (by assumption) ?_
  try simp only [Act.put, pw]
  refine wtk 1 29 (.pointer (some ⟨K.c, 0, none⟩)) rfl (by kernel_rfl) (fun _ _ _ h => h) (by rfl) (fun x hSw => by obtain ⟨⟨d0, d1, d2, d3, d4, d5, d6, d7, d8, d9, d10⟩, _⟩ := id hSw; (go_simp) <;> first | decide | exact IntWalk.i64_in _ (by omega)) (by assumption) ?_
  try simp only [Act.put, pw]
  refine wtk 2 30 (.pointer (some ⟨K.c, 4, none⟩)) rfl (by kernel_rfl) (fun _ _ _ h => h) (by rfl) (fun x hSw => by obtain ⟨⟨d0, d1, d2, d3, d4, d5, d6, d7, d8, d9, d10⟩, _⟩ := id hSw; (go_simp) <;> first | decide | exact IntWalk.i64_in _ (by omega)) (by assumption) ?_
  try simp only [Act.put, pw]
  refine wtk 3 31 (.pointer (some ⟨K.q, 0, none⟩)) rfl (by kernel_rfl) (fun _ _ _ h => h) (by rfl) (fun x hSw => by obtain ⟨⟨d0, d1, d2, d3, d4, d5, d6, d7, d8, d9, d10⟩, _⟩ := id hSw; (go_simp) <;> first | decide | exact IntWalk.i64_in _ (by omega)) (by assumption) ?_
  try simp only [Act.put, pw]
  refine wtk 4 32 (.pointer (some ⟨w.heap.size, 1, none⟩)) rfl (by kernel_rfl) (fun _ _ _ h => h) (by rfl) (fun x hSw => by obtain ⟨⟨d0, d1, d2, d3, d4, d5, d6, d7, d8, d9, d10⟩, _⟩ := id hSw; (go_simp) <;> first | decide | exact IntWalk.i64_in _ (by omega)) (by assumption) ?_
  try simp only [Act.put, pw]
  refine wtk 5 33 (.agg #[.int .i64 1, .int .i64 x.k.id, .int .i64 x.k.c, .int .i64 x.k.d, .int .i64 x.k.t, .int .i64 x.k.m, .bool x.s, .int .i64 0, .int .i64 0, .int .i64 0]) rfl (by kernel_rfl) (fun _ _ _ h => h) (by rfl) (fun x hSw => by obtain ⟨⟨d0, d1, d2, d3, d4, d5, d6, d7, d8, d9, d10⟩, _⟩ := id hSw; (go_simp) <;> first | decide | exact IntWalk.i64_in _ (by omega)) (by assumption) ?_
  try simp only [Act.put, pw]
  refine wtk 6 34 (.slice none 0 0) rfl (by kernel_rfl) (fun _ _ _ h => h) (by rfl) (fun x hSw => by obtain ⟨⟨d0, d1, d2, d3, d4, d5, d6, d7, d8, d9, d10⟩, _⟩ := id hSw; (go_simp) <;> first | decide | exact IntWalk.i64_in _ (by omega)) (by assumption) ?_
  try simp only [Act.put, pw]
  refine wpAnyH_ready (rs := [7]) (by kernel_rfl) (by simp) (AllReadyH.cons rfl (fun KK hK => ?_) AllReadyH.nil)
  go_simp
  have hr2 : Rgs w2.drew G K.q K.j K.n rs.length r v rs := HR.out.below (bl_drew (bl0 _)).out
  refine (HD.out _ G r v hr2 (by have := HH2.out.cols.n1; omega) HH2.out.cols.n2).mono ?_
  rintro e w3 ⟨er, rfl, her0, hq, t3⟩
  have T3 : Hid (Turn (fun i => G i ∨ i = K.q) w2 w3) := T1.out.trans t3
  have HSZ : Hid (u0.heap.size ≤ w2.heap.size) := hs2
  refine hK.out _ _ (tkp KC T3) (fun hHeld => ?_)
  clear hK KK
  have HQ := Lib.hid hq
  have HER := Lib.hid her0
  clear hq her0 t3 T1 hr2
  try simp only [Act.put, pw]
  refine wtk 8 9 (.int .i64 er) rfl (by kernel_rfl) (fun _ _ _ h => h) (by rfl) (fun x hSw => by obtain ⟨⟨d0, d1, d2, d3, d4, d5, d6, d7, d8, d9, d10⟩, _⟩ := id hSw; (go_simp) <;> first | decide | exact IntWalk.i64_in _ (by omega)) (by assumption) ?_
  try simp only [Act.put, pw]
  refine wpAnyH_done (by kernel_rfl) ?_ _
  have hm3 := HM2.out.turn T3.out n2
  have k1 := hm3.cell 1 rfl
  have hz3 := HZ2.out.turn T3.out n3
  have HZ3 := Lib.hid hz3
  have hTo : Turn (Own col) w2 w3 := T3.out.wide (S' := Own col) (fun i _ h => h.elim (fun h => by show col i ≠ 0; rw [HGC.out i h]; decide) (fun h => by show col i ≠ 0; rw [h, HH2.out.cols.q]; decide))
  have HT3 := Lib.hid (HT2.out.trans hTo)
  have hs3 : u0.heap.size ≤ w3.heap.size := by
    have := HSZ.out
    have := T3.out.size
    omega
  clear hTo KC hHeld
  by_cases her : er = 0
  · subst her
    rcases HQ.out with ⟨_, G', v', hR', hG', hv'⟩ | ⟨h0, _⟩
    · have HC3 := Lib.hid (HH2.out.setReg (rs' := rs ++ [x]) T3.out (fun i _ h => h.elim (HGC.out i) (fun h => by rw [h]; exact HH2.out.cols.q)) HNE.out (by rw [HLEN.out]; exact hR') (fun i hi hlt => by
        rcases hG' i hi with h | h
        · exact HGC.out i h
        · have : w2.drew.heap.size = w2.heap.size := rfl
          omega) hv')
      have hcol : ∀ i, i < w.heap.size → newCol col w2.heap.size w3.heap.size v'.ownBlock i = col i := fun i hi => newCol_old col _ (by have := HSZ.out; omega)
      have hnc1 : newCol col w2.heap.size w3.heap.size v'.ownBlock (w.heap.size + 1) = 0 := (newCol_old col _ (by have := HSZ.out; have := HZ2.out.lt; omega)).trans hnew1
      have hnc0 : newCol col w2.heap.size w3.heap.size v'.ownBlock w.heap.size = 0 := (newCol_old col _ (by have := HSZ.out; have := HZ2.out.lt; omega)).trans hnew0
      have HM3 := Lib.hid hm3
      have hsz2 : w.heap.size ≤ w2.heap.size := by have := HSZ.out; omega
      generalize newCol col w2.heap.size w3.heap.size v'.ownBlock = col2 at HC3 hcol hnc1 hnc0
      clear hm3 hz3
      have c12 := Bx.cell HC3.out.box 12 rfl
      go_wp2_with fail
      refine (cadd_any HC3.out 0 1 (by decide) (by decide)).mono ?_
      rintro e w4 ⟨⟨v4, rfl⟩, h4, t4⟩
      have HC4 := Lib.hid h4
      have hm4 := HM3.out.turn t4 (fun h => h hnc0)
      have k1 := hm4.cell 1 rfl
      have HZ4 := Lib.hid (HZ3.out.turn t4 (fun h => h hnc1))
      have HT4 := Lib.hid (HT3.out.then t4 (fun i hi h => by
        show col i ≠ 0
        rw [← hcol i hi]
        exact h))
      have c11 := Bx.cell HC4.out.box 11 rfl
      have f11 := Bx.free HC4.out.box 11
      have t5 : Turn (fun i => i = K.c) w4 (w4.setCell ⟨K.c, 11, none⟩ (.slice none 0 0)) := Turn.set _ _ _ _ rfl
      have s5 : PBox (w4.setCell ⟨K.c, 11, none⟩ (.slice none 0 0)) K n0 t := Bx.set HC4.out.box 11 _ _ rfl
      have hz5 := HZ4.out.turn t5 (Cols.ne hnc1 HC4.out.cols.c (by decide))
      have hm5 := hm4.turn t5 (Cols.ne hnc0 HC4.out.cols.c (by decide))
      have kk1 := hm5.cell 1 rfl
      have y0 := hz5.cell 0 rfl
      have f0 := hz5.free 0
      have y1 := hz5.cell 1 rfl
      have f1 := hz5.free 1
      have y2 := hz5.cell 2 rfl
      have f2 := hz5.free 2
      have y3 := hz5.cell 3 rfl
      have f3 := hz5.free 3
      have y4 := hz5.cell 4 rfl
      have f4 := hz5.free 4
      have y5 := hz5.cell 5 rfl
      have f5 := hz5.free 5
      have y6 := hz5.cell 6 rfl
      have f6 := hz5.free 6
      have y7 := hz5.cell 7 rfl
      have f7 := hz5.free 7
      have y8 := hz5.cell 8 rfl
      have f8 := hz5.free 8
      have y9 := hz5.cell 9 rfl
      have f9 := hz5.free 9
      have y10 := hz5.cell 10 rfl
      have f10 := hz5.free 10
      have HZ5 := Lib.hid hz5
      have HC5 := Lib.hid (HC4.out.setBox t5 s5)
      have HT5 := Lib.hid (HT4.out.then t5 (fun i hi h => by
        show col i ≠ 0
        rw [← hcol i hi, h, HC4.out.cols.c]
        decide))
      have HCOL := Lib.hid hcol
      clear c12 h4 t4 hm4 t5 s5 hz5 hm5 hcol
      go_wp2_with fail
      have s0 := Bx.set (w := (w4.setCell ⟨K.c, 11, none⟩ (.slice none 0 0))) HZ5.out 0 (.int .i64 0) _ rfl
      have s1 := Bx.set (w := _) s0 1 (.slice none 0 0) _ rfl
      have s2 := Bx.set (w := _) s1 2 (.int .i64 0) _ rfl
      have s3 := Bx.set (w := _) s2 3 (.int .i64 0) _ rfl
      have s4 := Bx.set (w := _) s3 4 (.int .i64 0) _ rfl
      have s5 := Bx.set (w := _) s4 5 (.int .i64 0) _ rfl
      have s6 := Bx.set (w := _) s5 6 (.int .i64 0) _ rfl
      have s7 := Bx.set (w := _) s6 7 (.bool false) _ rfl
      have s8 := Bx.set (w := _) s7 8 (.int .i64 0) _ rfl
      have s9 := Bx.set (w := _) s8 9 (.int .i64 0) _ rfl
      have s10 := Bx.set (w := _) s9 10 (.slice none 0 0) _ rfl
      have e0 := s10.cell 0 rfl
      have e1 := s10.cell 1 rfl
      have e2 := s10.cell 2 rfl
      have e3 := s10.cell 3 rfl
      have e4 := s10.cell 4 rfl
      have e5 := s10.cell 5 rfl
      have e6 := s10.cell 6 rfl
      have e7 := s10.cell 7 rfl
      have e8 := s10.cell 8 rfl
      have e9 := s10.cell 9 rfl
      have e10 := s10.cell 10 rfl
      have ts : Turn (fun i => i = w.heap.size + 1) (w4.setCell ⟨K.c, 11, none⟩ (.slice none 0 0)) ((((((((((((w4.setCell ⟨K.c, 11, none⟩ (.slice none 0 0)).setCell ⟨w.heap.size + 1, 0, none⟩ (.int .i64 0)).setCell ⟨w.heap.size + 1, 1, none⟩ (.slice none 0 0)).setCell ⟨w.heap.size + 1, 2, none⟩ (.int .i64 0)).setCell ⟨w.heap.size + 1, 3, none⟩ (.int .i64 0)).setCell ⟨w.heap.size + 1, 4, none⟩ (.int .i64 0)).setCell ⟨w.heap.size + 1, 5, none⟩ (.int .i64 0)).setCell ⟨w.heap.size + 1, 6, none⟩ (.int .i64 0)).setCell ⟨w.heap.size + 1, 7, none⟩ (.bool false)).setCell ⟨w.heap.size + 1, 8, none⟩ (.int .i64 0)).setCell ⟨w.heap.size + 1, 9, none⟩ (.int .i64 0)).setCell ⟨w.heap.size + 1, 10, none⟩ (.slice none 0 0)) := (((((((((((Turn.set (S := fun i => i = w.heap.size + 1) _ _ _ _ rfl).trans (Turn.set _ _ _ _ rfl)).trans (Turn.set _ _ _ _ rfl)).trans (Turn.set _ _ _ _ rfl)).trans (Turn.set _ _ _ _ rfl)).trans (Turn.set _ _ _ _ rfl)).trans (Turn.set _ _ _ _ rfl)).trans (Turn.set _ _ _ _ rfl)).trans (Turn.set _ _ _ _ rfl)).trans (Turn.set _ _ _ _ rfl)).trans (Turn.set _ _ _ _ rfl))
      refine bodyPost_ret (v := .agg #[.int .i64 0, .slice none 0 0, .int .i64 0, .int .i64 0, .int .i64 0, .int .i64 0, .int .i64 0, .bool false, .int .i64 0, .int .i64 0, .slice none 0 0]) (by simp [results, Tryz.results27, go_sem, e0, e1, e2, e3, e4, e5, e6, e7, e8, e9, e10]) rfl ?_
      exact ⟨0, rfl, fun _ => rfl, .inl ⟨rfl, col2, HC5.out.away ts hnc1 (fun l h => Bx.ne h HZ5.out (by decide) rfl), HCOL.out⟩, HT5.out.then ts (fun i hi e => by omega)⟩
    · exact (h0 rfl).elim
  · have hC3 : Ctl w3 col K n0 t rs gm [] u := by
      rcases HQ.out with ⟨h0, _⟩ | ⟨_, hR'⟩
      · exact (her h0).elim
      · exact HH2.out.keepReg T3.out (fun i _ h => h.elim (HGC.out i) (fun h => by rw [h]; exact HH2.out.cols.q)) ⟨G, r, v, hR', HGC.out, hvc⟩
    have hb : (er != 0) = true := by simpa using her
    have HC3 := Lib.hid hC3
    have c12 := Bx.cell hC3.box 12 rfl
    clear hC3 hm3 hz3
    go_wp2_with fail
    refine (cadd_any HC3.out 1 1 (by decide) (by decide)).mono ?_
    rintro e w4 ⟨⟨v4, rfl⟩, h4, t4⟩
    have HC4 := Lib.hid h4
    have HZ4 := Lib.hid (HZ3.out.turn t4 (fun h => h hnew1))
    have HT4 := Lib.hid (HT3.out.trans t4)
    clear c12 h4 t4 k1
    go_wp2_with fail
    refine (told_any er _).mono ?_
    rintro e w5 ⟨rfl, b5⟩
    have hz5 := HZ4.out.below b5
    have y0 := hz5.cell 0 rfl
    have f0 := hz5.free 0
    have y1 := hz5.cell 1 rfl
    have f1 := hz5.free 1
    have y2 := hz5.cell 2 rfl
    have f2 := hz5.free 2
    have y3 := hz5.cell 3 rfl
    have f3 := hz5.free 3
    have y4 := hz5.cell 4 rfl
    have f4 := hz5.free 4
    have y5 := hz5.cell 5 rfl
    have f5 := hz5.free 5
    have y6 := hz5.cell 6 rfl
    have f6 := hz5.free 6
    have y7 := hz5.cell 7 rfl
    have f7 := hz5.free 7
    have y8 := hz5.cell 8 rfl
    have f8 := hz5.free 8
    have y9 := hz5.cell 9 rfl
    have f9 := hz5.free 9
    have y10 := hz5.cell 10 rfl
    have f10 := hz5.free 10
    have HZ5 := Lib.hid hz5
    have HC5 := Lib.hid (HC4.out.below b5)
    have HT5 := Lib.hid (HT4.out.trans (Turn.below b5))
    clear b5 hz5
    go_wp2_with fail
    have s0 := Bx.set (w := w5) HZ5.out 0 (.int .i64 er) _ rfl
    have s1 := Bx.set (w := _) s0 1 (.slice none 0 0) _ rfl
    have s2 := Bx.set (w := _) s1 2 (.int .i64 0) _ rfl
    have s3 := Bx.set (w := _) s2 3 (.int .i64 0) _ rfl
    have s4 := Bx.set (w := _) s3 4 (.int .i64 0) _ rfl
    have s5 := Bx.set (w := _) s4 5 (.int .i64 0) _ rfl
    have s6 := Bx.set (w := _) s5 6 (.int .i64 0) _ rfl
    have s7 := Bx.set (w := _) s6 7 (.bool false) _ rfl
    have s8 := Bx.set (w := _) s7 8 (.int .i64 0) _ rfl
    have s9 := Bx.set (w := _) s8 9 (.int .i64 0) _ rfl
    have s10 := Bx.set (w := _) s9 10 (.slice none 0 0) _ rfl
    have e0 := s10.cell 0 rfl
    have e1 := s10.cell 1 rfl
    have e2 := s10.cell 2 rfl
    have e3 := s10.cell 3 rfl
    have e4 := s10.cell 4 rfl
    have e5 := s10.cell 5 rfl
    have e6 := s10.cell 6 rfl
    have e7 := s10.cell 7 rfl
    have e8 := s10.cell 8 rfl
    have e9 := s10.cell 9 rfl
    have e10 := s10.cell 10 rfl
    have ts : Turn (fun i => i = w.heap.size + 1) w5 (((((((((((w5.setCell ⟨w.heap.size + 1, 0, none⟩ (.int .i64 er)).setCell ⟨w.heap.size + 1, 1, none⟩ (.slice none 0 0)).setCell ⟨w.heap.size + 1, 2, none⟩ (.int .i64 0)).setCell ⟨w.heap.size + 1, 3, none⟩ (.int .i64 0)).setCell ⟨w.heap.size + 1, 4, none⟩ (.int .i64 0)).setCell ⟨w.heap.size + 1, 5, none⟩ (.int .i64 0)).setCell ⟨w.heap.size + 1, 6, none⟩ (.int .i64 0)).setCell ⟨w.heap.size + 1, 7, none⟩ (.bool false)).setCell ⟨w.heap.size + 1, 8, none⟩ (.int .i64 0)).setCell ⟨w.heap.size + 1, 9, none⟩ (.int .i64 0)).setCell ⟨w.heap.size + 1, 10, none⟩ (.slice none 0 0)) := (((((((((((Turn.set (S := fun i => i = w.heap.size + 1) _ _ _ _ rfl).trans (Turn.set _ _ _ _ rfl)).trans (Turn.set _ _ _ _ rfl)).trans (Turn.set _ _ _ _ rfl)).trans (Turn.set _ _ _ _ rfl)).trans (Turn.set _ _ _ _ rfl)).trans (Turn.set _ _ _ _ rfl)).trans (Turn.set _ _ _ _ rfl)).trans (Turn.set _ _ _ _ rfl)).trans (Turn.set _ _ _ _ rfl)).trans (Turn.set _ _ _ _ rfl))
    refine bodyPost_ret (v := .agg #[.int .i64 er, .slice none 0 0, .int .i64 0, .int .i64 0, .int .i64 0, .int .i64 0, .int .i64 0, .bool false, .int .i64 0, .int .i64 0, .slice none 0 0]) (by simp [results, Tryz.results27, go_sem, e0, e1, e2, e3, e4, e5, e6, e7, e8, e9, e10]) rfl ?_
    exact ⟨er, rfl, HER.out, .inr ⟨her, HC5.out.away ts hnew1 (fun l h => Bx.ne h HZ5.out (by decide) rfl)⟩, HT5.out.then ts (fun i hi e => by omega)⟩
end
end Go.Proofs.YtoichcickcgbgaaGreatDoor
