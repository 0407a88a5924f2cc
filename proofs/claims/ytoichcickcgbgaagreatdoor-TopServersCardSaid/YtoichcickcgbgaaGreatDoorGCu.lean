/-
  The control's Do: a tick; work asked; a release; an admission.
-/
import Derived.Test.YtoichcickcgbgaaGreatDoorGCk
import Derived.Test.YtoichcickcgbgaaGreatDoorGCw
import Derived.Test.YtoichcickcgbgaaGreatDoorGCz
namespace Go.Proofs.YtoichcickcgbgaaGreatDoor
open Go.RowKit
attribute [local go_sem] Oper.semAt_some
attribute [local go_sem] run_store_func
theorem eql_method (k c : Nat) (w : World) : (binOp .eql 41 (.func (.func k) #[.pointer (some ⟨c, 0, none⟩)] #[]) .nilFunc).run Tryz.prog w = .ok (.bool false) w := by kernel_rfl
attribute [local go_sem] eql_method
section
variable {w : World} {col : Nat → Nat} {K : Ck} {n0 t : Int} {rs : List Rk} {gm : Int → Option (Int × Int)} {js : List Jb} {u : Nat}
set_option linter.unusedSimpArgs false in
set_option maxRecDepth 100000 in
set_option maxHeartbeats 4000000 in
theorem do_tick (H : Ctl w col K n0 t rs gm js u) (hl : rs.length ≤ 2) (hrow : ∀ x ∈ rs, RowOk x) (hj : JI js) (ht0 : 0 ≤ t) (ht1 : t ≤ 1000000) (hu : u < 1000) :
    Calls Tryz.prog 7 #[.pointer (some ⟨K.c, 0, none⟩), .agg #[.int .i64 4, .int .i64 0, .int .i64 0, .int .i64 0, .int .i64 0, .int .i64 0, .int .i64 0, .bool false, .int .i64 0, .int .i64 0, .int .i64 0, .int .i64 0, .int .i64 0, .int .i64 1, .slice none 0 0]] w fun e w' => ∃ i b gm' js1 js' v, e = .returned v ∧ TickV w' w.heap.size i b v ∧ Ctl w' col K n0 (t + 1) rs gm' js' (u + 8) ∧ SvL t gm js rs gm' js1 ∧ RunR js1 i b js' ∧ Turn (Own col) w w' := by
  have b0 := ((Below.refl w.heap.size w).alloc (Nat.le_refl _) (.cells #[.int .i64 4, .int .i64 0, .int .i64 0, .int .i64 0, .int .i64 0, .int .i64 0, .int .i64 0, .bool false, .int .i64 0, .int .i64 0, .int .i64 0, .int .i64 0, .int .i64 0, .int .i64 1, .slice none 0 0] 46)).alloc (by simp) (.cells #[.int .i64 0, .slice none 0 0, .int .i64 0, .int .i64 0, .int .i64 0, .int .i64 0, .int .i64 0, .bool false, .int .i64 0, .int .i64 0, .slice none 0 0] 40)
  have hm := (Bx.new w [.int .i64 4, .int .i64 0, .int .i64 0, .int .i64 0, .int .i64 0, .int .i64 0, .int .i64 0, .bool false, .int .i64 0, .int .i64 0, .int .i64 0, .int .i64 0, .int .i64 0, .int .i64 1, .slice none 0 0] 46).more (.cells #[.int .i64 0, .slice none 0 0, .int .i64 0, .int .i64 0, .int .i64 0, .int .i64 0, .int .i64 0, .bool false, .int .i64 0, .int .i64 0, .slice none 0 0] 40)
  have hz := Bx.new (w.alloc (.cells #[.int .i64 4, .int .i64 0, .int .i64 0, .int .i64 0, .int .i64 0, .int .i64 0, .int .i64 0, .bool false, .int .i64 0, .int .i64 0, .int .i64 0, .int .i64 0, .int .i64 0, .int .i64 1, .slice none 0 0] 46)) [.int .i64 0, .slice none 0 0, .int .i64 0, .int .i64 0, .int .i64 0, .int .i64 0, .int .i64 0, .bool false, .int .i64 0, .int .i64 0, .slice none 0 0] 40
  simp only [World.size_alloc] at hz
  have HZ := Lib.hid hz
  have HM := Lib.hid hm
  have HH := Lib.hid (H.below b0)
  have HT := Lib.hid (Turn.below (S := Own col) b0)
  have hnew0 := H.new
  have hnew1 := H.fresh (w.heap.size + 1) (by omega)
  have hss : w.heap.size ≤ ((w.alloc (.cells #[.int .i64 4, .int .i64 0, .int .i64 0, .int .i64 0, .int .i64 0, .int .i64 0, .int .i64 0, .bool false, .int .i64 0, .int .i64 0, .int .i64 0, .int .i64 0, .int .i64 0, .int .i64 1, .slice none 0 0] 46)).alloc (.cells #[.int .i64 0, .slice none 0 0, .int .i64 0, .int .i64 0, .int .i64 0, .int .i64 0, .int .i64 0, .bool false, .int .i64 0, .int .i64 0, .slice none 0 0] 40)).heap.size := b0.size
  have m0 := hm.cell 0 rfl
  have m1 := hm.cell 1 rfl
  have m2 := hm.cell 2 rfl
  have m3 := hm.cell 3 rfl
  have m4 := hm.cell 4 rfl
  have m5 := hm.cell 5 rfl
  have m6 := hm.cell 6 rfl
  have m7 := hm.cell 7 rfl
  have m8 := hm.cell 8 rfl
  have m9 := hm.cell 9 rfl
  have m10 := hm.cell 10 rfl
  have m11 := hm.cell 11 rfl
  have m12 := hm.cell 12 rfl
  have m13 := hm.cell 13 rfl
  have m14 := hm.cell 14 rfl
  clear b0 H hz hm
  go_enter Tryz.func7, Tryz.ntmps7
  go_wp2_with fail
  generalize (w.alloc (.cells #[.int .i64 4, .int .i64 0, .int .i64 0, .int .i64 0, .int .i64 0, .int .i64 0, .int .i64 0, .bool false, .int .i64 0, .int .i64 0, .int .i64 0, .int .i64 0, .int .i64 0, .int .i64 1, .slice none 0 0] 46)).alloc (.cells #[.int .i64 0, .slice none 0 0, .int .i64 0, .int .i64 0, .int .i64 0, .int .i64 0, .int .i64 0, .bool false, .int .i64 0, .int .i64 0, .slice none 0 0] 40) = u0 at *
  refine (ccommand_4 _ _).mono ?_
  rintro e w1 ⟨rfl, b1⟩
  have hm1 := HM.out.below b1
  have HM1 := Lib.hid hm1
  have HZ1 := Lib.hid (HZ.out.below b1)
  have HH1 := Lib.hid (HH.out.below b1)
  have HT1 := Lib.hid (HT.out.trans (Turn.below b1))
  have hs1 : w.heap.size + 1 < w1.heap.size := (HZ.out.below b1).lt
  clear b1 HM HZ HH HT m0 m1 m2 m3 m4 m5 m6 m7 m8 m9 m10 m11 m12 m13 m14
  have m0 := hm1.cell 0 rfl
  have m1 := hm1.cell 1 rfl
  have m2 := hm1.cell 2 rfl
  have m3 := hm1.cell 3 rfl
  have m4 := hm1.cell 4 rfl
  have m5 := hm1.cell 5 rfl
  have m6 := hm1.cell 6 rfl
  have m7 := hm1.cell 7 rfl
  have m8 := hm1.cell 8 rfl
  have m9 := hm1.cell 9 rfl
  have m10 := hm1.cell 10 rfl
  have m11 := hm1.cell 11 rfl
  have m12 := hm1.cell 12 rfl
  have m13 := hm1.cell 13 rfl
  have m14 := hm1.cell 14 rfl
  clear hm1
  go_wp2_with fail
  refine (on_any HH1.out).mono ?_
  rintro e w2 ⟨rfl, rfl⟩
  go_wp2_with fail
  refine (ctick_any HH1.out hl hrow hj ht0 ht1 hu).mono ?_
  rintro e w2 ⟨i, b, gm', js1, js', v, rfl, ⟨g, cap, rfl, hg1, hg2, hg3, hg4⟩, hc, hsv, hrun, t2⟩
  have hz2 := HZ1.out.turn t2 (fun h => h hnew1)
  have HC2 := Lib.hid hc
  have HG := Lib.hid (And.intro hg1 (And.intro hg2 (And.intro hg3 hg4)))
  have HSV := Lib.hid hsv
  have HRUN := Lib.hid hrun
  have HT2 := Lib.hid (HT1.out.trans t2)
  clear hc hsv hrun t2 hg1 hg2 hg3 hg4
  have y0 := hz2.cell 0 rfl
  have f0 := hz2.free 0
  have y1 := hz2.cell 1 rfl
  have f1 := hz2.free 1
  have y2 := hz2.cell 2 rfl
  have f2 := hz2.free 2
  have y3 := hz2.cell 3 rfl
  have f3 := hz2.free 3
  have y4 := hz2.cell 4 rfl
  have f4 := hz2.free 4
  have y5 := hz2.cell 5 rfl
  have f5 := hz2.free 5
  have y6 := hz2.cell 6 rfl
  have f6 := hz2.free 6
  have y7 := hz2.cell 7 rfl
  have f7 := hz2.free 7
  have y8 := hz2.cell 8 rfl
  have f8 := hz2.free 8
  have y9 := hz2.cell 9 rfl
  have f9 := hz2.free 9
  have y10 := hz2.cell 10 rfl
  have f10 := hz2.free 10
  have HZ2 := Lib.hid hz2
  clear m0 m1 m2 m3 m4 m5 m6 m7 m8 m9 m10 m11 m12 m13 m14 hz2
  go_wp2_with fail
  have s0 := Bx.set (w := w2) HZ2.out 0 (.int .i64 0) _ rfl
  have s1 := Bx.set (w := _) s0 1 (.slice (some ⟨g, 0, none⟩) 1 cap) _ rfl
  have s2 := Bx.set (w := _) s1 2 (.int .i64 0) _ rfl
  have s3 := Bx.set (w := _) s2 3 (.int .i64 0) _ rfl
  have s4 := Bx.set (w := _) s3 4 (.int .i64 0) _ rfl
  have s5 := Bx.set (w := _) s4 5 (.int .i64 0) _ rfl
  have s6 := Bx.set (w := _) s5 6 (.int .i64 0) _ rfl
  have s7 := Bx.set (w := _) s6 7 (.bool false) _ rfl
  have s8 := Bx.set (w := _) s7 8 (.int .i64 0) _ rfl
  have s9 := Bx.set (w := _) s8 9 (.int .i64 0) _ rfl
  have s10 := Bx.set (w := _) s9 10 (.slice none 0 0) _ rfl
  have e0 := s10.cell 0 rfl
  have e1 := s10.cell 1 rfl
  have e2 := s10.cell 2 rfl
  have e3 := s10.cell 3 rfl
  have e4 := s10.cell 4 rfl
  have e5 := s10.cell 5 rfl
  have e6 := s10.cell 6 rfl
  have e7 := s10.cell 7 rfl
  have e8 := s10.cell 8 rfl
  have e9 := s10.cell 9 rfl
  have e10 := s10.cell 10 rfl
  have ts : Turn (fun i => i = w.heap.size + 1) w2 (((((((((((w2.setCell ⟨w.heap.size + 1, 0, none⟩ (.int .i64 0)).setCell ⟨w.heap.size + 1, 1, none⟩ (.slice (some ⟨g, 0, none⟩) 1 cap)).setCell ⟨w.heap.size + 1, 2, none⟩ (.int .i64 0)).setCell ⟨w.heap.size + 1, 3, none⟩ (.int .i64 0)).setCell ⟨w.heap.size + 1, 4, none⟩ (.int .i64 0)).setCell ⟨w.heap.size + 1, 5, none⟩ (.int .i64 0)).setCell ⟨w.heap.size + 1, 6, none⟩ (.int .i64 0)).setCell ⟨w.heap.size + 1, 7, none⟩ (.bool false)).setCell ⟨w.heap.size + 1, 8, none⟩ (.int .i64 0)).setCell ⟨w.heap.size + 1, 9, none⟩ (.int .i64 0)).setCell ⟨w.heap.size + 1, 10, none⟩ (.slice none 0 0)) := (((((((((((Turn.set (S := fun i => i = w.heap.size + 1) _ _ _ _ rfl).trans (Turn.set _ _ _ _ rfl)).trans (Turn.set _ _ _ _ rfl)).trans (Turn.set _ _ _ _ rfl)).trans (Turn.set _ _ _ _ rfl)).trans (Turn.set _ _ _ _ rfl)).trans (Turn.set _ _ _ _ rfl)).trans (Turn.set _ _ _ _ rfl)).trans (Turn.set _ _ _ _ rfl)).trans (Turn.set _ _ _ _ rfl)).trans (Turn.set _ _ _ _ rfl))
  refine bodyPost_ret (v := .agg #[.int .i64 0, .slice (some ⟨g, 0, none⟩) 1 cap, .int .i64 0, .int .i64 0, .int .i64 0, .int .i64 0, .int .i64 0, .bool false, .int .i64 0, .int .i64 0, .slice none 0 0]) (by simp [results, Tryz.results7, go_sem, e0, e1, e2, e3, e4, e5, e6, e7, e8, e9, e10]) rfl ?_
  clear e0 e1 e2 e3 e4 e5 e6 e7 e8 e9 e10 s0 s1 s2 s3 s4 s5 s6 s7 s8 s9 s10
  have hts := HT2.out.then ts (fun i hi e => by omega)
  have htt := ts
  have hsz := ts.size
  clear ts
  generalize (((((((((((w2.setCell ⟨w.heap.size + 1, 0, none⟩ (.int .i64 0)).setCell ⟨w.heap.size + 1, 1, none⟩ (.slice (some ⟨g, 0, none⟩) 1 cap)).setCell ⟨w.heap.size + 1, 2, none⟩ (.int .i64 0)).setCell ⟨w.heap.size + 1, 3, none⟩ (.int .i64 0)).setCell ⟨w.heap.size + 1, 4, none⟩ (.int .i64 0)).setCell ⟨w.heap.size + 1, 5, none⟩ (.int .i64 0)).setCell ⟨w.heap.size + 1, 6, none⟩ (.int .i64 0)).setCell ⟨w.heap.size + 1, 7, none⟩ (.bool false)).setCell ⟨w.heap.size + 1, 8, none⟩ (.int .i64 0)).setCell ⟨w.heap.size + 1, 9, none⟩ (.int .i64 0)).setCell ⟨w.heap.size + 1, 10, none⟩ (.slice none 0 0)) = w9 at *
  obtain ⟨h1, h2, h3, h4⟩ := HG.out
  have hb := htt.block g h2 (by omega)
  exact ⟨i, b, gm', js1, js', _, rfl, ⟨g, cap, rfl, by omega, by omega, (World.cell?_of_block (a := ⟨g, 0, none⟩) hb).trans h3, (World.cell?_of_block (a := ⟨g, 1, none⟩) hb).trans h4⟩, HC2.out.away htt hnew1 (fun l h => Bx.ne h HZ2.out (by decide) rfl), HSV.out, HRUN.out, hts⟩
end
section
variable {w : World} {col : Nat → Nat} {K : Ck} {n0 t : Int} {rs : List Rk} {gm : Int → Option (Int × Int)} {js : List Jb} {u : Nat}
set_option linter.unusedSimpArgs false in
set_option maxRecDepth 100000 in
set_option maxHeartbeats 4000000 in
theorem do_ask (H : Ctl w col K n0 t rs gm js u) (hl : rs.length ≤ 2) {kk : Tk} {i v : Int} (hf : Fnd rs i ⟨kk, true⟩) (hi : i = 0 ∨ i = 1) (hv0 : 1 ≤ v) (hv1 : v ≤ 1024) (hu : u < 100000) :
    Calls Tryz.prog 7 #[.pointer (some ⟨K.c, 0, none⟩), .agg #[.int .i64 3, .int .i64 0, .int .i64 0, .int .i64 0, .int .i64 0, .int .i64 0, .int .i64 0, .bool false, .int .i64 0, .int .i64 0, .int .i64 0, .int .i64 i, .int .i64 v, .int .i64 0, .slice none 0 0]] w fun e w' => (∃ x, e = .returned x) ∧ Ctl w' col K n0 t rs gm js (u + 1) ∧ Turn (Own col) w w' := by
  have b0 := ((Below.refl w.heap.size w).alloc (Nat.le_refl _) (.cells #[.int .i64 3, .int .i64 0, .int .i64 0, .int .i64 0, .int .i64 0, .int .i64 0, .int .i64 0, .bool false, .int .i64 0, .int .i64 0, .int .i64 0, .int .i64 i, .int .i64 v, .int .i64 0, .slice none 0 0] 46)).alloc (by simp) (.cells #[.int .i64 0, .slice none 0 0, .int .i64 0, .int .i64 0, .int .i64 0, .int .i64 0, .int .i64 0, .bool false, .int .i64 0, .int .i64 0, .slice none 0 0] 40)
  have hm := (Bx.new w [.int .i64 3, .int .i64 0, .int .i64 0, .int .i64 0, .int .i64 0, .int .i64 0, .int .i64 0, .bool false, .int .i64 0, .int .i64 0, .int .i64 0, .int .i64 i, .int .i64 v, .int .i64 0, .slice none 0 0] 46).more (.cells #[.int .i64 0, .slice none 0 0, .int .i64 0, .int .i64 0, .int .i64 0, .int .i64 0, .int .i64 0, .bool false, .int .i64 0, .int .i64 0, .slice none 0 0] 40)
  have hz := Bx.new (w.alloc (.cells #[.int .i64 3, .int .i64 0, .int .i64 0, .int .i64 0, .int .i64 0, .int .i64 0, .int .i64 0, .bool false, .int .i64 0, .int .i64 0, .int .i64 0, .int .i64 i, .int .i64 v, .int .i64 0, .slice none 0 0] 46)) [.int .i64 0, .slice none 0 0, .int .i64 0, .int .i64 0, .int .i64 0, .int .i64 0, .int .i64 0, .bool false, .int .i64 0, .int .i64 0, .slice none 0 0] 40
  simp only [World.size_alloc] at hz
  have HZ := Lib.hid hz
  have HM := Lib.hid hm
  have HH := Lib.hid (H.below b0)
  have HT := Lib.hid (Turn.below (S := Own col) b0)
  have hnew0 := H.new
  have hnew1 := H.fresh (w.heap.size + 1) (by omega)
  have hss : w.heap.size ≤ ((w.alloc (.cells #[.int .i64 3, .int .i64 0, .int .i64 0, .int .i64 0, .int .i64 0, .int .i64 0, .int .i64 0, .bool false, .int .i64 0, .int .i64 0, .int .i64 0, .int .i64 i, .int .i64 v, .int .i64 0, .slice none 0 0] 46)).alloc (.cells #[.int .i64 0, .slice none 0 0, .int .i64 0, .int .i64 0, .int .i64 0, .int .i64 0, .int .i64 0, .bool false, .int .i64 0, .int .i64 0, .slice none 0 0] 40)).heap.size := b0.size
  have m0 := hm.cell 0 rfl
  have m1 := hm.cell 1 rfl
  have m2 := hm.cell 2 rfl
  have m3 := hm.cell 3 rfl
  have m4 := hm.cell 4 rfl
  have m5 := hm.cell 5 rfl
  have m6 := hm.cell 6 rfl
  have m7 := hm.cell 7 rfl
  have m8 := hm.cell 8 rfl
  have m9 := hm.cell 9 rfl
  have m10 := hm.cell 10 rfl
  have m11 := hm.cell 11 rfl
  have m12 := hm.cell 12 rfl
  have m13 := hm.cell 13 rfl
  have m14 := hm.cell 14 rfl
  clear b0 H hz hm
  go_enter Tryz.func7, Tryz.ntmps7
  go_wp2_with fail
  generalize (w.alloc (.cells #[.int .i64 3, .int .i64 0, .int .i64 0, .int .i64 0, .int .i64 0, .int .i64 0, .int .i64 0, .bool false, .int .i64 0, .int .i64 0, .int .i64 0, .int .i64 i, .int .i64 v, .int .i64 0, .slice none 0 0] 46)).alloc (.cells #[.int .i64 0, .slice none 0 0, .int .i64 0, .int .i64 0, .int .i64 0, .int .i64 0, .int .i64 0, .bool false, .int .i64 0, .int .i64 0, .slice none 0 0] 40) = u0 at *
  refine (ccommand_3 _ _).mono ?_
  rintro e w1 ⟨rfl, b1⟩
  have hm1 := HM.out.below b1
  have HM1 := Lib.hid hm1
  have HZ1 := Lib.hid (HZ.out.below b1)
  have HH1 := Lib.hid (HH.out.below b1)
  have HT1 := Lib.hid (HT.out.trans (Turn.below b1))
  have hs1 : w.heap.size + 1 < w1.heap.size := (HZ.out.below b1).lt
  clear b1 HM HZ HH HT m0 m1 m2 m3 m4 m5 m6 m7 m8 m9 m10 m11 m12 m13 m14
  have m0 := hm1.cell 0 rfl
  have m1 := hm1.cell 1 rfl
  have m2 := hm1.cell 2 rfl
  have m3 := hm1.cell 3 rfl
  have m4 := hm1.cell 4 rfl
  have m5 := hm1.cell 5 rfl
  have m6 := hm1.cell 6 rfl
  have m7 := hm1.cell 7 rfl
  have m8 := hm1.cell 8 rfl
  have m9 := hm1.cell 9 rfl
  have m10 := hm1.cell 10 rfl
  have m11 := hm1.cell 11 rfl
  have m12 := hm1.cell 12 rfl
  have m13 := hm1.cell 13 rfl
  have m14 := hm1.cell 14 rfl
  clear hm1
  go_wp2_with fail
  refine (on_any HH1.out).mono ?_
  rintro e w2 ⟨rfl, rfl⟩
  go_wp2_with fail
  refine (cask_any HH1.out hl hf hi hv0 hv1 hu).mono ?_
  rintro e w2 ⟨⟨er, rfl⟩, hc, t2⟩
  have hz2 := HZ1.out.turn t2 (fun h => h hnew1)
  have HC2 := Lib.hid hc
  have HT2 := Lib.hid (HT1.out.trans t2)
  clear hc t2
  have y0 := hz2.cell 0 rfl
  have f0 := hz2.free 0
  have y1 := hz2.cell 1 rfl
  have f1 := hz2.free 1
  have y2 := hz2.cell 2 rfl
  have f2 := hz2.free 2
  have y3 := hz2.cell 3 rfl
  have f3 := hz2.free 3
  have y4 := hz2.cell 4 rfl
  have f4 := hz2.free 4
  have y5 := hz2.cell 5 rfl
  have f5 := hz2.free 5
  have y6 := hz2.cell 6 rfl
  have f6 := hz2.free 6
  have y7 := hz2.cell 7 rfl
  have f7 := hz2.free 7
  have y8 := hz2.cell 8 rfl
  have f8 := hz2.free 8
  have y9 := hz2.cell 9 rfl
  have f9 := hz2.free 9
  have y10 := hz2.cell 10 rfl
  have f10 := hz2.free 10
  have HZ2 := Lib.hid hz2
  clear m0 m1 m2 m3 m4 m5 m6 m7 m8 m9 m10 m11 m12 m13 m14 hz2
  go_wp2_with fail
  have s0 := Bx.set (w := w2) HZ2.out 0 (.int .i64 er) _ rfl
  have s1 := Bx.set (w := _) s0 1 (.slice none 0 0) _ rfl
  have s2 := Bx.set (w := _) s1 2 (.int .i64 0) _ rfl
  have s3 := Bx.set (w := _) s2 3 (.int .i64 0) _ rfl
  have s4 := Bx.set (w := _) s3 4 (.int .i64 0) _ rfl
  have s5 := Bx.set (w := _) s4 5 (.int .i64 0) _ rfl
  have s6 := Bx.set (w := _) s5 6 (.int .i64 0) _ rfl
  have s7 := Bx.set (w := _) s6 7 (.bool false) _ rfl
  have s8 := Bx.set (w := _) s7 8 (.int .i64 0) _ rfl
  have s9 := Bx.set (w := _) s8 9 (.int .i64 0) _ rfl
  have s10 := Bx.set (w := _) s9 10 (.slice none 0 0) _ rfl
  have e0 := s10.cell 0 rfl
  have e1 := s10.cell 1 rfl
  have e2 := s10.cell 2 rfl
  have e3 := s10.cell 3 rfl
  have e4 := s10.cell 4 rfl
  have e5 := s10.cell 5 rfl
  have e6 := s10.cell 6 rfl
  have e7 := s10.cell 7 rfl
  have e8 := s10.cell 8 rfl
  have e9 := s10.cell 9 rfl
  have e10 := s10.cell 10 rfl
  have ts : Turn (fun i => i = w.heap.size + 1) w2 (((((((((((w2.setCell ⟨w.heap.size + 1, 0, none⟩ (.int .i64 er)).setCell ⟨w.heap.size + 1, 1, none⟩ (.slice none 0 0)).setCell ⟨w.heap.size + 1, 2, none⟩ (.int .i64 0)).setCell ⟨w.heap.size + 1, 3, none⟩ (.int .i64 0)).setCell ⟨w.heap.size + 1, 4, none⟩ (.int .i64 0)).setCell ⟨w.heap.size + 1, 5, none⟩ (.int .i64 0)).setCell ⟨w.heap.size + 1, 6, none⟩ (.int .i64 0)).setCell ⟨w.heap.size + 1, 7, none⟩ (.bool false)).setCell ⟨w.heap.size + 1, 8, none⟩ (.int .i64 0)).setCell ⟨w.heap.size + 1, 9, none⟩ (.int .i64 0)).setCell ⟨w.heap.size + 1, 10, none⟩ (.slice none 0 0)) := (((((((((((Turn.set (S := fun i => i = w.heap.size + 1) _ _ _ _ rfl).trans (Turn.set _ _ _ _ rfl)).trans (Turn.set _ _ _ _ rfl)).trans (Turn.set _ _ _ _ rfl)).trans (Turn.set _ _ _ _ rfl)).trans (Turn.set _ _ _ _ rfl)).trans (Turn.set _ _ _ _ rfl)).trans (Turn.set _ _ _ _ rfl)).trans (Turn.set _ _ _ _ rfl)).trans (Turn.set _ _ _ _ rfl)).trans (Turn.set _ _ _ _ rfl))
  refine bodyPost_ret (v := .agg #[.int .i64 er, .slice none 0 0, .int .i64 0, .int .i64 0, .int .i64 0, .int .i64 0, .int .i64 0, .bool false, .int .i64 0, .int .i64 0, .slice none 0 0]) (by simp [results, Tryz.results7, go_sem, e0, e1, e2, e3, e4, e5, e6, e7, e8, e9, e10]) rfl ?_
  clear e0 e1 e2 e3 e4 e5 e6 e7 e8 e9 e10 s0 s1 s2 s3 s4 s5 s6 s7 s8 s9 s10
  have hts := HT2.out.then ts (fun i hi e => by omega)
  have htt := ts
  have hsz := ts.size
  clear ts
  generalize (((((((((((w2.setCell ⟨w.heap.size + 1, 0, none⟩ (.int .i64 er)).setCell ⟨w.heap.size + 1, 1, none⟩ (.slice none 0 0)).setCell ⟨w.heap.size + 1, 2, none⟩ (.int .i64 0)).setCell ⟨w.heap.size + 1, 3, none⟩ (.int .i64 0)).setCell ⟨w.heap.size + 1, 4, none⟩ (.int .i64 0)).setCell ⟨w.heap.size + 1, 5, none⟩ (.int .i64 0)).setCell ⟨w.heap.size + 1, 6, none⟩ (.int .i64 0)).setCell ⟨w.heap.size + 1, 7, none⟩ (.bool false)).setCell ⟨w.heap.size + 1, 8, none⟩ (.int .i64 0)).setCell ⟨w.heap.size + 1, 9, none⟩ (.int .i64 0)).setCell ⟨w.heap.size + 1, 10, none⟩ (.slice none 0 0)) = w9 at *
  exact ⟨⟨_, rfl⟩, HC2.out.away htt hnew1 (fun l h => Bx.ne h HZ2.out (by decide) rfl), hts⟩
end
section
variable {w : World} {col : Nat → Nat} {K : Ck} {n0 t : Int} {rs : List Rk} {gm : Int → Option (Int × Int)} {js : List Jb} {u : Nat}
set_option linter.unusedSimpArgs false in
set_option maxRecDepth 100000 in
set_option maxHeartbeats 4000000 in
theorem do_release (H : Ctl w col K n0 0 rs gm [] u) (hl : rs.length ≤ 2) (hf : Fnd rs 1 ⟨⟨1, 1, 2, 2, 1⟩, false⟩) (hnx : Grd.nx gm 1 = 0) (hu : u < 100000) :
    Calls Tryz.prog 7 #[.pointer (some ⟨K.c, 0, none⟩), .agg #[.int .i64 2, .int .i64 0, .int .i64 0, .int .i64 0, .int .i64 0, .int .i64 0, .int .i64 0, .bool false, .int .i64 0, .int .i64 0, .int .i64 0, .int .i64 1, .int .i64 1, .int .i64 0, .slice none 0 0]] w fun e w' => (∃ x, e = .returned x) ∧ (∃ gm' js', Ctl w' col K n0 0 rs gm' js' (u + 2) ∧ js' = [⟨1, 0, 2, 1⟩]) ∧ Turn (Own col) w w' := by
  have b0 := ((Below.refl w.heap.size w).alloc (Nat.le_refl _) (.cells #[.int .i64 2, .int .i64 0, .int .i64 0, .int .i64 0, .int .i64 0, .int .i64 0, .int .i64 0, .bool false, .int .i64 0, .int .i64 0, .int .i64 0, .int .i64 1, .int .i64 1, .int .i64 0, .slice none 0 0] 46)).alloc (by simp) (.cells #[.int .i64 0, .slice none 0 0, .int .i64 0, .int .i64 0, .int .i64 0, .int .i64 0, .int .i64 0, .bool false, .int .i64 0, .int .i64 0, .slice none 0 0] 40)
  have hm := (Bx.new w [.int .i64 2, .int .i64 0, .int .i64 0, .int .i64 0, .int .i64 0, .int .i64 0, .int .i64 0, .bool false, .int .i64 0, .int .i64 0, .int .i64 0, .int .i64 1, .int .i64 1, .int .i64 0, .slice none 0 0] 46).more (.cells #[.int .i64 0, .slice none 0 0, .int .i64 0, .int .i64 0, .int .i64 0, .int .i64 0, .int .i64 0, .bool false, .int .i64 0, .int .i64 0, .slice none 0 0] 40)
  have hz := Bx.new (w.alloc (.cells #[.int .i64 2, .int .i64 0, .int .i64 0, .int .i64 0, .int .i64 0, .int .i64 0, .int .i64 0, .bool false, .int .i64 0, .int .i64 0, .int .i64 0, .int .i64 1, .int .i64 1, .int .i64 0, .slice none 0 0] 46)) [.int .i64 0, .slice none 0 0, .int .i64 0, .int .i64 0, .int .i64 0, .int .i64 0, .int .i64 0, .bool false, .int .i64 0, .int .i64 0, .slice none 0 0] 40
  simp only [World.size_alloc] at hz
  have HZ := Lib.hid hz
  have HM := Lib.hid hm
  have HH := Lib.hid (H.below b0)
  have HT := Lib.hid (Turn.below (S := Own col) b0)
  have hnew0 := H.new
  have hnew1 := H.fresh (w.heap.size + 1) (by omega)
  have hss : w.heap.size ≤ ((w.alloc (.cells #[.int .i64 2, .int .i64 0, .int .i64 0, .int .i64 0, .int .i64 0, .int .i64 0, .int .i64 0, .bool false, .int .i64 0, .int .i64 0, .int .i64 0, .int .i64 1, .int .i64 1, .int .i64 0, .slice none 0 0] 46)).alloc (.cells #[.int .i64 0, .slice none 0 0, .int .i64 0, .int .i64 0, .int .i64 0, .int .i64 0, .int .i64 0, .bool false, .int .i64 0, .int .i64 0, .slice none 0 0] 40)).heap.size := b0.size
  have m0 := hm.cell 0 rfl
  have m1 := hm.cell 1 rfl
  have m2 := hm.cell 2 rfl
  have m3 := hm.cell 3 rfl
  have m4 := hm.cell 4 rfl
  have m5 := hm.cell 5 rfl
  have m6 := hm.cell 6 rfl
  have m7 := hm.cell 7 rfl
  have m8 := hm.cell 8 rfl
  have m9 := hm.cell 9 rfl
  have m10 := hm.cell 10 rfl
  have m11 := hm.cell 11 rfl
  have m12 := hm.cell 12 rfl
  have m13 := hm.cell 13 rfl
  have m14 := hm.cell 14 rfl
  clear b0 H hz hm
  go_enter Tryz.func7, Tryz.ntmps7
  go_wp2_with fail
  generalize (w.alloc (.cells #[.int .i64 2, .int .i64 0, .int .i64 0, .int .i64 0, .int .i64 0, .int .i64 0, .int .i64 0, .bool false, .int .i64 0, .int .i64 0, .int .i64 0, .int .i64 1, .int .i64 1, .int .i64 0, .slice none 0 0] 46)).alloc (.cells #[.int .i64 0, .slice none 0 0, .int .i64 0, .int .i64 0, .int .i64 0, .int .i64 0, .int .i64 0, .bool false, .int .i64 0, .int .i64 0, .slice none 0 0] 40) = u0 at *
  refine (ccommand_2 _ _).mono ?_
  rintro e w1 ⟨rfl, b1⟩
  have hm1 := HM.out.below b1
  have HM1 := Lib.hid hm1
  have HZ1 := Lib.hid (HZ.out.below b1)
  have HH1 := Lib.hid (HH.out.below b1)
  have HT1 := Lib.hid (HT.out.trans (Turn.below b1))
  have hs1 : w.heap.size + 1 < w1.heap.size := (HZ.out.below b1).lt
  clear b1 HM HZ HH HT m0 m1 m2 m3 m4 m5 m6 m7 m8 m9 m10 m11 m12 m13 m14
  have m0 := hm1.cell 0 rfl
  have m1 := hm1.cell 1 rfl
  have m2 := hm1.cell 2 rfl
  have m3 := hm1.cell 3 rfl
  have m4 := hm1.cell 4 rfl
  have m5 := hm1.cell 5 rfl
  have m6 := hm1.cell 6 rfl
  have m7 := hm1.cell 7 rfl
  have m8 := hm1.cell 8 rfl
  have m9 := hm1.cell 9 rfl
  have m10 := hm1.cell 10 rfl
  have m11 := hm1.cell 11 rfl
  have m12 := hm1.cell 12 rfl
  have m13 := hm1.cell 13 rfl
  have m14 := hm1.cell 14 rfl
  clear hm1
  go_wp2_with fail
  refine (on_any HH1.out).mono ?_
  rintro e w2 ⟨rfl, rfl⟩
  go_wp2_with fail
  refine (crelease_any HH1.out hl hf hnx hu).mono ?_
  rintro e w2 ⟨rfl, ⟨gm', js', hc, hjs⟩, t2⟩
  have hz2 := HZ1.out.turn t2 (fun h => h hnew1)
  have HC2 := Lib.hid hc
  have HT2 := Lib.hid (HT1.out.trans t2)
  clear hc t2
  have y0 := hz2.cell 0 rfl
  have f0 := hz2.free 0
  have y1 := hz2.cell 1 rfl
  have f1 := hz2.free 1
  have y2 := hz2.cell 2 rfl
  have f2 := hz2.free 2
  have y3 := hz2.cell 3 rfl
  have f3 := hz2.free 3
  have y4 := hz2.cell 4 rfl
  have f4 := hz2.free 4
  have y5 := hz2.cell 5 rfl
  have f5 := hz2.free 5
  have y6 := hz2.cell 6 rfl
  have f6 := hz2.free 6
  have y7 := hz2.cell 7 rfl
  have f7 := hz2.free 7
  have y8 := hz2.cell 8 rfl
  have f8 := hz2.free 8
  have y9 := hz2.cell 9 rfl
  have f9 := hz2.free 9
  have y10 := hz2.cell 10 rfl
  have f10 := hz2.free 10
  have HZ2 := Lib.hid hz2
  clear m0 m1 m2 m3 m4 m5 m6 m7 m8 m9 m10 m11 m12 m13 m14 hz2
  go_wp2_with fail
  have s0 := Bx.set (w := w2) HZ2.out 0 (.int .i64 0) _ rfl
  have s1 := Bx.set (w := _) s0 1 (.slice none 0 0) _ rfl
  have s2 := Bx.set (w := _) s1 2 (.int .i64 0) _ rfl
  have s3 := Bx.set (w := _) s2 3 (.int .i64 0) _ rfl
  have s4 := Bx.set (w := _) s3 4 (.int .i64 0) _ rfl
  have s5 := Bx.set (w := _) s4 5 (.int .i64 0) _ rfl
  have s6 := Bx.set (w := _) s5 6 (.int .i64 0) _ rfl
  have s7 := Bx.set (w := _) s6 7 (.bool false) _ rfl
  have s8 := Bx.set (w := _) s7 8 (.int .i64 0) _ rfl
  have s9 := Bx.set (w := _) s8 9 (.int .i64 0) _ rfl
  have s10 := Bx.set (w := _) s9 10 (.slice none 0 0) _ rfl
  have e0 := s10.cell 0 rfl
  have e1 := s10.cell 1 rfl
  have e2 := s10.cell 2 rfl
  have e3 := s10.cell 3 rfl
  have e4 := s10.cell 4 rfl
  have e5 := s10.cell 5 rfl
  have e6 := s10.cell 6 rfl
  have e7 := s10.cell 7 rfl
  have e8 := s10.cell 8 rfl
  have e9 := s10.cell 9 rfl
  have e10 := s10.cell 10 rfl
  have ts : Turn (fun i => i = w.heap.size + 1) w2 (((((((((((w2.setCell ⟨w.heap.size + 1, 0, none⟩ (.int .i64 0)).setCell ⟨w.heap.size + 1, 1, none⟩ (.slice none 0 0)).setCell ⟨w.heap.size + 1, 2, none⟩ (.int .i64 0)).setCell ⟨w.heap.size + 1, 3, none⟩ (.int .i64 0)).setCell ⟨w.heap.size + 1, 4, none⟩ (.int .i64 0)).setCell ⟨w.heap.size + 1, 5, none⟩ (.int .i64 0)).setCell ⟨w.heap.size + 1, 6, none⟩ (.int .i64 0)).setCell ⟨w.heap.size + 1, 7, none⟩ (.bool false)).setCell ⟨w.heap.size + 1, 8, none⟩ (.int .i64 0)).setCell ⟨w.heap.size + 1, 9, none⟩ (.int .i64 0)).setCell ⟨w.heap.size + 1, 10, none⟩ (.slice none 0 0)) := (((((((((((Turn.set (S := fun i => i = w.heap.size + 1) _ _ _ _ rfl).trans (Turn.set _ _ _ _ rfl)).trans (Turn.set _ _ _ _ rfl)).trans (Turn.set _ _ _ _ rfl)).trans (Turn.set _ _ _ _ rfl)).trans (Turn.set _ _ _ _ rfl)).trans (Turn.set _ _ _ _ rfl)).trans (Turn.set _ _ _ _ rfl)).trans (Turn.set _ _ _ _ rfl)).trans (Turn.set _ _ _ _ rfl)).trans (Turn.set _ _ _ _ rfl))
  refine bodyPost_ret (v := .agg #[.int .i64 0, .slice none 0 0, .int .i64 0, .int .i64 0, .int .i64 0, .int .i64 0, .int .i64 0, .bool false, .int .i64 0, .int .i64 0, .slice none 0 0]) (by simp [results, Tryz.results7, go_sem, e0, e1, e2, e3, e4, e5, e6, e7, e8, e9, e10]) rfl ?_
  clear e0 e1 e2 e3 e4 e5 e6 e7 e8 e9 e10 s0 s1 s2 s3 s4 s5 s6 s7 s8 s9 s10
  have hts := HT2.out.then ts (fun i hi e => by omega)
  have htt := ts
  have hsz := ts.size
  clear ts
  generalize (((((((((((w2.setCell ⟨w.heap.size + 1, 0, none⟩ (.int .i64 0)).setCell ⟨w.heap.size + 1, 1, none⟩ (.slice none 0 0)).setCell ⟨w.heap.size + 1, 2, none⟩ (.int .i64 0)).setCell ⟨w.heap.size + 1, 3, none⟩ (.int .i64 0)).setCell ⟨w.heap.size + 1, 4, none⟩ (.int .i64 0)).setCell ⟨w.heap.size + 1, 5, none⟩ (.int .i64 0)).setCell ⟨w.heap.size + 1, 6, none⟩ (.int .i64 0)).setCell ⟨w.heap.size + 1, 7, none⟩ (.bool false)).setCell ⟨w.heap.size + 1, 8, none⟩ (.int .i64 0)).setCell ⟨w.heap.size + 1, 9, none⟩ (.int .i64 0)).setCell ⟨w.heap.size + 1, 10, none⟩ (.slice none 0 0)) = w9 at *
  exact ⟨⟨_, rfl⟩, ⟨gm', js', HC2.out.away htt hnew1 (fun l h => Bx.ne h HZ2.out (by decide) rfl), hjs⟩, hts⟩
end
section
variable {w : World} {col : Nat → Nat} {K : Ck} {n0 t : Int} {rs : List Rk} {gm : Int → Option (Int × Int)} {js : List Jb} {u : Nat}
set_option linter.unusedSimpArgs false in
set_option maxRecDepth 100000 in
set_option maxHeartbeats 4000000 in
theorem do_op (H : Ctl w col K n0 t rs gm [] u) {x : Rk} (hk : Rws (rs ++ [x])) (hlo : Lo x) :
    Calls Tryz.prog 7 #[.pointer (some ⟨K.c, 0, none⟩), .agg #[.int .i64 1, .int .i64 1, .int .i64 x.k.id, .int .i64 x.k.c, .int .i64 x.k.d, .int .i64 x.k.t, .int .i64 x.k.m, .bool x.s, .int .i64 0, .int .i64 0, .int .i64 0, .int .i64 0, .int .i64 0, .int .i64 0, .slice none 0 0]] w fun e w' => ∃ er : Int, e = .returned (.agg #[.int .i64 er, .slice none 0 0, .int .i64 0, .int .i64 0, .int .i64 0, .int .i64 0, .int .i64 0, .bool false, .int .i64 0, .int .i64 0, .slice none 0 0]) ∧ (rs = [] → er = 0) ∧ ((er = 0 ∧ ∃ col', Ctl w' col' K n0 t (rs ++ [x]) gm [] u ∧ ∀ i, i < w.heap.size → col' i = col i) ∨ (er ≠ 0 ∧ Ctl w' col K n0 t rs gm [] u)) ∧ Turn (Own col) w w' := by
  have b0 := ((Below.refl w.heap.size w).alloc (Nat.le_refl _) (.cells #[.int .i64 1, .int .i64 1, .int .i64 x.k.id, .int .i64 x.k.c, .int .i64 x.k.d, .int .i64 x.k.t, .int .i64 x.k.m, .bool x.s, .int .i64 0, .int .i64 0, .int .i64 0, .int .i64 0, .int .i64 0, .int .i64 0, .slice none 0 0] 46)).alloc (by simp) (.cells #[.int .i64 0, .slice none 0 0, .int .i64 0, .int .i64 0, .int .i64 0, .int .i64 0, .int .i64 0, .bool false, .int .i64 0, .int .i64 0, .slice none 0 0] 40)
  have hm := (Bx.new w [.int .i64 1, .int .i64 1, .int .i64 x.k.id, .int .i64 x.k.c, .int .i64 x.k.d, .int .i64 x.k.t, .int .i64 x.k.m, .bool x.s, .int .i64 0, .int .i64 0, .int .i64 0, .int .i64 0, .int .i64 0, .int .i64 0, .slice none 0 0] 46).more (.cells #[.int .i64 0, .slice none 0 0, .int .i64 0, .int .i64 0, .int .i64 0, .int .i64 0, .int .i64 0, .bool false, .int .i64 0, .int .i64 0, .slice none 0 0] 40)
  have hz := Bx.new (w.alloc (.cells #[.int .i64 1, .int .i64 1, .int .i64 x.k.id, .int .i64 x.k.c, .int .i64 x.k.d, .int .i64 x.k.t, .int .i64 x.k.m, .bool x.s, .int .i64 0, .int .i64 0, .int .i64 0, .int .i64 0, .int .i64 0, .int .i64 0, .slice none 0 0] 46)) [.int .i64 0, .slice none 0 0, .int .i64 0, .int .i64 0, .int .i64 0, .int .i64 0, .int .i64 0, .bool false, .int .i64 0, .int .i64 0, .slice none 0 0] 40
  simp only [World.size_alloc] at hz
  have HZ := Lib.hid hz
  have HM := Lib.hid hm
  have HH := Lib.hid (H.below b0)
  have HT := Lib.hid (Turn.below (S := Own col) b0)
  have hnew0 := H.new
  have hnew1 := H.fresh (w.heap.size + 1) (by omega)
  have hss : w.heap.size ≤ ((w.alloc (.cells #[.int .i64 1, .int .i64 1, .int .i64 x.k.id, .int .i64 x.k.c, .int .i64 x.k.d, .int .i64 x.k.t, .int .i64 x.k.m, .bool x.s, .int .i64 0, .int .i64 0, .int .i64 0, .int .i64 0, .int .i64 0, .int .i64 0, .slice none 0 0] 46)).alloc (.cells #[.int .i64 0, .slice none 0 0, .int .i64 0, .int .i64 0, .int .i64 0, .int .i64 0, .int .i64 0, .bool false, .int .i64 0, .int .i64 0, .slice none 0 0] 40)).heap.size := b0.size
  have m0 := hm.cell 0 rfl
  have m1 := hm.cell 1 rfl
  have m2 := hm.cell 2 rfl
  have m3 := hm.cell 3 rfl
  have m4 := hm.cell 4 rfl
  have m5 := hm.cell 5 rfl
  have m6 := hm.cell 6 rfl
  have m7 := hm.cell 7 rfl
  have m8 := hm.cell 8 rfl
  have m9 := hm.cell 9 rfl
  have m10 := hm.cell 10 rfl
  have m11 := hm.cell 11 rfl
  have m12 := hm.cell 12 rfl
  have m13 := hm.cell 13 rfl
  have m14 := hm.cell 14 rfl
  clear b0 H hz hm
  go_enter Tryz.func7, Tryz.ntmps7
  go_wp2_with fail
  generalize (w.alloc (.cells #[.int .i64 1, .int .i64 1, .int .i64 x.k.id, .int .i64 x.k.c, .int .i64 x.k.d, .int .i64 x.k.t, .int .i64 x.k.m, .bool x.s, .int .i64 0, .int .i64 0, .int .i64 0, .int .i64 0, .int .i64 0, .int .i64 0, .slice none 0 0] 46)).alloc (.cells #[.int .i64 0, .slice none 0 0, .int .i64 0, .int .i64 0, .int .i64 0, .int .i64 0, .int .i64 0, .bool false, .int .i64 0, .int .i64 0, .slice none 0 0] 40) = u0 at *
  refine (ccommand_1 _ _).mono ?_
  rintro e w1 ⟨rfl, b1⟩
  have hm1 := HM.out.below b1
  have HM1 := Lib.hid hm1
  have HZ1 := Lib.hid (HZ.out.below b1)
  have HH1 := Lib.hid (HH.out.below b1)
  have HT1 := Lib.hid (HT.out.trans (Turn.below b1))
  have hs1 : w.heap.size + 1 < w1.heap.size := (HZ.out.below b1).lt
  clear b1 HM HZ HH HT m0 m1 m2 m3 m4 m5 m6 m7 m8 m9 m10 m11 m12 m13 m14
  have m0 := hm1.cell 0 rfl
  have m1 := hm1.cell 1 rfl
  have m2 := hm1.cell 2 rfl
  have m3 := hm1.cell 3 rfl
  have m4 := hm1.cell 4 rfl
  have m5 := hm1.cell 5 rfl
  have m6 := hm1.cell 6 rfl
  have m7 := hm1.cell 7 rfl
  have m8 := hm1.cell 8 rfl
  have m9 := hm1.cell 9 rfl
  have m10 := hm1.cell 10 rfl
  have m11 := hm1.cell 11 rfl
  have m12 := hm1.cell 12 rfl
  have m13 := hm1.cell 13 rfl
  have m14 := hm1.cell 14 rfl
  clear hm1
  go_wp2_with fail
  refine (on_any HH1.out).mono ?_
  rintro e w2 ⟨rfl, rfl⟩
  go_wp2_with fail
  refine (cop_any HH1.out hk hlo).mono ?_
  rintro e w2 ⟨er, rfl, her, hc, t2⟩
  have hz2 := HZ1.out.turn t2 (fun h => h hnew1)
  have HC2 := Lib.hid hc
  have HER := Lib.hid her
  have HT2 := Lib.hid (HT1.out.trans t2)
  clear hc t2 her
  have y0 := hz2.cell 0 rfl
  have f0 := hz2.free 0
  have y1 := hz2.cell 1 rfl
  have f1 := hz2.free 1
  have y2 := hz2.cell 2 rfl
  have f2 := hz2.free 2
  have y3 := hz2.cell 3 rfl
  have f3 := hz2.free 3
  have y4 := hz2.cell 4 rfl
  have f4 := hz2.free 4
  have y5 := hz2.cell 5 rfl
  have f5 := hz2.free 5
  have y6 := hz2.cell 6 rfl
  have f6 := hz2.free 6
  have y7 := hz2.cell 7 rfl
  have f7 := hz2.free 7
  have y8 := hz2.cell 8 rfl
  have f8 := hz2.free 8
  have y9 := hz2.cell 9 rfl
  have f9 := hz2.free 9
  have y10 := hz2.cell 10 rfl
  have f10 := hz2.free 10
  have HZ2 := Lib.hid hz2
  clear m0 m1 m2 m3 m4 m5 m6 m7 m8 m9 m10 m11 m12 m13 m14 hz2
  go_wp2_with fail
  have s0 := Bx.set (w := w2) HZ2.out 0 (.int .i64 er) _ rfl
  have s1 := Bx.set (w := _) s0 1 (.slice none 0 0) _ rfl
  have s2 := Bx.set (w := _) s1 2 (.int .i64 0) _ rfl
  have s3 := Bx.set (w := _) s2 3 (.int .i64 0) _ rfl
  have s4 := Bx.set (w := _) s3 4 (.int .i64 0) _ rfl
  have s5 := Bx.set (w := _) s4 5 (.int .i64 0) _ rfl
  have s6 := Bx.set (w := _) s5 6 (.int .i64 0) _ rfl
  have s7 := Bx.set (w := _) s6 7 (.bool false) _ rfl
  have s8 := Bx.set (w := _) s7 8 (.int .i64 0) _ rfl
  have s9 := Bx.set (w := _) s8 9 (.int .i64 0) _ rfl
  have s10 := Bx.set (w := _) s9 10 (.slice none 0 0) _ rfl
  have e0 := s10.cell 0 rfl
  have e1 := s10.cell 1 rfl
  have e2 := s10.cell 2 rfl
  have e3 := s10.cell 3 rfl
  have e4 := s10.cell 4 rfl
  have e5 := s10.cell 5 rfl
  have e6 := s10.cell 6 rfl
  have e7 := s10.cell 7 rfl
  have e8 := s10.cell 8 rfl
  have e9 := s10.cell 9 rfl
  have e10 := s10.cell 10 rfl
  have ts : Turn (fun i => i = w.heap.size + 1) w2 (((((((((((w2.setCell ⟨w.heap.size + 1, 0, none⟩ (.int .i64 er)).setCell ⟨w.heap.size + 1, 1, none⟩ (.slice none 0 0)).setCell ⟨w.heap.size + 1, 2, none⟩ (.int .i64 0)).setCell ⟨w.heap.size + 1, 3, none⟩ (.int .i64 0)).setCell ⟨w.heap.size + 1, 4, none⟩ (.int .i64 0)).setCell ⟨w.heap.size + 1, 5, none⟩ (.int .i64 0)).setCell ⟨w.heap.size + 1, 6, none⟩ (.int .i64 0)).setCell ⟨w.heap.size + 1, 7, none⟩ (.bool false)).setCell ⟨w.heap.size + 1, 8, none⟩ (.int .i64 0)).setCell ⟨w.heap.size + 1, 9, none⟩ (.int .i64 0)).setCell ⟨w.heap.size + 1, 10, none⟩ (.slice none 0 0)) := (((((((((((Turn.set (S := fun i => i = w.heap.size + 1) _ _ _ _ rfl).trans (Turn.set _ _ _ _ rfl)).trans (Turn.set _ _ _ _ rfl)).trans (Turn.set _ _ _ _ rfl)).trans (Turn.set _ _ _ _ rfl)).trans (Turn.set _ _ _ _ rfl)).trans (Turn.set _ _ _ _ rfl)).trans (Turn.set _ _ _ _ rfl)).trans (Turn.set _ _ _ _ rfl)).trans (Turn.set _ _ _ _ rfl)).trans (Turn.set _ _ _ _ rfl))
  refine bodyPost_ret (v := .agg #[.int .i64 er, .slice none 0 0, .int .i64 0, .int .i64 0, .int .i64 0, .int .i64 0, .int .i64 0, .bool false, .int .i64 0, .int .i64 0, .slice none 0 0]) (by simp [results, Tryz.results7, go_sem, e0, e1, e2, e3, e4, e5, e6, e7, e8, e9, e10]) rfl ?_
  clear e0 e1 e2 e3 e4 e5 e6 e7 e8 e9 e10 s0 s1 s2 s3 s4 s5 s6 s7 s8 s9 s10
  have hts := HT2.out.then ts (fun i hi e => by omega)
  have htt := ts
  have hsz := ts.size
  clear ts
  generalize (((((((((((w2.setCell ⟨w.heap.size + 1, 0, none⟩ (.int .i64 er)).setCell ⟨w.heap.size + 1, 1, none⟩ (.slice none 0 0)).setCell ⟨w.heap.size + 1, 2, none⟩ (.int .i64 0)).setCell ⟨w.heap.size + 1, 3, none⟩ (.int .i64 0)).setCell ⟨w.heap.size + 1, 4, none⟩ (.int .i64 0)).setCell ⟨w.heap.size + 1, 5, none⟩ (.int .i64 0)).setCell ⟨w.heap.size + 1, 6, none⟩ (.int .i64 0)).setCell ⟨w.heap.size + 1, 7, none⟩ (.bool false)).setCell ⟨w.heap.size + 1, 8, none⟩ (.int .i64 0)).setCell ⟨w.heap.size + 1, 9, none⟩ (.int .i64 0)).setCell ⟨w.heap.size + 1, 10, none⟩ (.slice none 0 0)) = w9 at *
  refine ⟨er, rfl, HER.out, ?_, hts⟩
  rcases HC2.out with ⟨h0, col2, h2, hcol⟩ | ⟨h0, h2⟩
  · exact .inl ⟨h0, col2, h2.away htt ((hcol _ hs1).trans hnew1) (fun l h => Bx.ne h HZ2.out (by decide) rfl), fun i hi => hcol i (by omega)⟩
  · exact .inr ⟨h0, h2.away htt hnew1 (fun l h => Bx.ne h HZ2.out (by decide) rfl)⟩
end
end Go.Proofs.YtoichcickcgbgaaGreatDoor
