/-
  The control's parts, made anew.
  A control, made anew.
  awake: one task, released once, runs and is done.
  The plain law: how much of one server runs in a row of slots.
-/
import Derived.Test.YtoichcickcgbgaaGreatDoorGCu
namespace Go.Proofs.YtoichcickcgbgaaGreatDoor
open Go.RowKit Go.Maps
attribute [local go_sem] Oper.semAt_some
attribute [local go_sem] run_store_func
set_option linter.unusedSimpArgs false in
set_option maxRecDepth 100000 in
set_option maxHeartbeats 4000000 in
theorem cempties_any {w : World} {c d q cb : Nat} {n0 : Int} (H : Bx w c 66 [.int .i64 n0, .int .i64 9, .int .i64 0, .pointer (some ⟨d, 0, none⟩), .pointer (some ⟨q, 0, none⟩), .int .i64 0, .int .i64 0, .pointer none, .pointer none, .pointer none, .map none, .slice none 0 0, .pointer (some ⟨cb, 0, none⟩)]) :
    Calls Tryz.prog 11 #[.pointer (some ⟨c, 0, none⟩)] w fun e w' => e = .returned (.tuple #[]) ∧ (∃ g bm x h p bw bt mb, Bx w' c 66 [.int .i64 n0, .int .i64 9, .int .i64 0, .pointer (some ⟨d, 0, none⟩), .pointer (some ⟨q, 0, none⟩), .int .i64 0, .int .i64 0, .pointer (some ⟨g, 0, none⟩), .pointer (some ⟨x, 0, none⟩), .pointer (some ⟨p, 0, none⟩), .map (some mb), .slice none 0 0, .pointer (some ⟨cb, 0, none⟩)] ∧ Grd.Gv w' g bm 0 (fun _ => none) ∧ Ex w' x h [] ∧ Pool.Pv w' p bw bt 0 (fun _ => 0) (fun _ => 0) ∧ w'.ownsMap Tryz.prog 3 (plainElem (H := Unit) Tryz.prog 2) mb 0 (.map []) ∧ w.heap.size ≤ bm ∧ bm < g ∧ g < x ∧ g < h ∧ x ≠ h ∧ x < bw ∧ h < bw ∧ bw < bt ∧ bt < p ∧ p < mb ∧ mb < w'.heap.size) ∧ Turn (fun i => i = c) w w' := by
  have HC := Lib.hid H
  have hc := H.lt
  clear H
  have hmm := @run_makeMap Tryz.prog
  go_enter Tryz.func11, Tryz.ntmps11
  go_wp2_with fail
  refine (Grd.newV _).mono ?_
  rintro e w1 ⟨rfl, hg1, b1⟩
  have HC1 := Lib.hid (HC.out.below b1)
  have HG1 := Lib.hid hg1
  have hgl := hg1.lt
  have HT1 := Lib.hid (Turn.below (S := fun i => i = c) b1)
  clear hg1 b1 HC
  go_wp2_with fail
  refine (enew_any _).mono ?_
  rintro e w2 ⟨x, h, rfl, hx2, hxl, hhl, b2⟩
  have HC2 := Lib.hid (HC1.out.below b2)
  have HG2 := Lib.hid (HG1.out.below b2)
  have HX2 := Lib.hid hx2
  have hx3 := hx2.1.lt
  obtain ⟨tp, hh3⟩ := hx2.2.hx
  have hxh : x ≠ h := Bx.ne hx2.1 hh3 (by decide)
  have hh4 := Bx.lt hh3
  have HT2 := Lib.hid (HT1.out.trans (Turn.below b2))
  clear hx2 b2 HC1 HG1 HT1 hh3
  go_wp2_with fail
  refine (Pool.newV _).mono ?_
  rintro e w3 ⟨rfl, hp3, b3⟩
  have hpl := hp3.lt
  have hc3 := HC2.out.below b3
  have HC3 := Lib.hid hc3
  have HG3 := Lib.hid (HG2.out.below b3)
  have HX3 := Lib.hid (HX2.out.below b3)
  have HP3 := Lib.hid hp3
  have HT3 := Lib.hid (HT2.out.trans (Turn.below b3))
  have c7 := hc3.cell 7 rfl
  have f7 := hc3.free 7
  have c8 := hc3.cell 8 rfl
  have f8 := hc3.free 8
  have c9 := hc3.cell 9 rfl
  have f9 := hc3.free 9
  clear hp3 b3 HC2 HG2 HX2 HT2 hc3
  have ts : Turn (fun i => i = c) w3 (((w3.setCell ⟨c, 7, none⟩ (.pointer (some ⟨w.heap.size + 1, 0, none⟩))).setCell ⟨c, 8, none⟩ (.pointer (some ⟨x, 0, none⟩))).setCell ⟨c, 9, none⟩ (.pointer (some ⟨w2.heap.size + 2, 0, none⟩))) := (((Turn.set (S := fun i => i = c) _ _ _ _ rfl).trans (Turn.set _ _ _ _ rfl)).trans (Turn.set _ _ _ _ rfl))
  have s0 := Bx.set (w := w3) HC3.out 7 (.pointer (some ⟨w.heap.size + 1, 0, none⟩)) _ rfl
  have s1 := Bx.set (w := _) s0 8 (.pointer (some ⟨x, 0, none⟩)) _ rfl
  have s2 := Bx.set (w := _) s1 9 (.pointer (some ⟨w2.heap.size + 2, 0, none⟩)) _ rfl
  have HG4 := Lib.hid (gv_turn HG3.out ts (by omega) (by omega))
  have HX4 := Lib.hid (HX3.out.turn ts (by omega) (by omega) (fun p l hp e => Bx.ne hp HC3.out (by decide) e))
  have HP4 := Lib.hid (pv_turn HP3.out ts (by omega) (by omega) (by omega))
  have HC4 := Lib.hid s2
  have HT4 := Lib.hid (HT3.out.trans ts)
  have hs4 : (((w3.setCell ⟨c, 7, none⟩ (.pointer (some ⟨w.heap.size + 1, 0, none⟩))).setCell ⟨c, 8, none⟩ (.pointer (some ⟨x, 0, none⟩))).setCell ⟨c, 9, none⟩ (.pointer (some ⟨w2.heap.size + 2, 0, none⟩))).heap.size = w3.heap.size := by simp only [World.size_setCell]
  have hso := World.ownsMap_made (((w3.setCell ⟨c, 7, none⟩ (.pointer (some ⟨w.heap.size + 1, 0, none⟩))).setCell ⟨c, 8, none⟩ (.pointer (some ⟨x, 0, none⟩))).setCell ⟨c, 9, none⟩ (.pointer (some ⟨w2.heap.size + 2, 0, none⟩))) Tryz.prog 3 (plainElem (H := Unit) Tryz.prog 2)
  have hcm := s2.more (.map #[] 0)
  have bm4 := (Below.refl (((w3.setCell ⟨c, 7, none⟩ (.pointer (some ⟨w.heap.size + 1, 0, none⟩))).setCell ⟨c, 8, none⟩ (.pointer (some ⟨x, 0, none⟩))).setCell ⟨c, 9, none⟩ (.pointer (some ⟨w2.heap.size + 2, 0, none⟩))).heap.size (((w3.setCell ⟨c, 7, none⟩ (.pointer (some ⟨w.heap.size + 1, 0, none⟩))).setCell ⟨c, 8, none⟩ (.pointer (some ⟨x, 0, none⟩))).setCell ⟨c, 9, none⟩ (.pointer (some ⟨w2.heap.size + 2, 0, none⟩)))).alloc (Nat.le_refl _) (.map #[] 0)
  have c10 := hcm.cell 10 rfl
  have f10 := hcm.free 10
  have cc10 := s2.cell 10 rfl
  have ff10 := s2.free 10
  have c11 := hcm.cell 11 rfl
  have f11 := hcm.free 11
  have cc11 := s2.cell 11 rfl
  have ff11 := s2.free 11
  have HCM := Lib.hid hcm
  have HSO := Lib.hid hso
  have HB4 := Lib.hid bm4
  clear s0 s1 s2 hcm ts hso bm4
  go_wp2_with fail
  go_end0
  generalize (((w3.setCell ⟨c, 7, none⟩ (.pointer (some ⟨w.heap.size + 1, 0, none⟩))).setCell ⟨c, 8, none⟩ (.pointer (some ⟨x, 0, none⟩))).setCell ⟨c, 9, none⟩ (.pointer (some ⟨w2.heap.size + 2, 0, none⟩))) = w4 at *
  have hg5 := HG4.out.below HB4.out
  have hx5 := HX4.out.below HB4.out
  have hp5 := HP4.out.below HB4.out
  have ht5 := HT4.out.trans (Turn.below HB4.out)
  have hc5 := HCM.out
  have ho5 := HSO.out
  rw [hs4] at ho5
  have hsm : (w4.alloc (.map #[] 0)).heap.size = w3.heap.size + 1 := by simp [hs4]
  clear HG4 HX4 HP4 HT4 HCM HSO HB4 c10 c11 f10 f11 cc10 cc11 ff10 ff11
  generalize w4.alloc (.map #[] 0) = w5 at *
  have r0 := hc5.set 10 (.map (some w3.heap.size)) _ rfl
  have r1 := r0.set 11 (.slice none 0 0) _ rfl
  have ts : Turn (fun i => i = c) w5 ((w5.setCell ⟨c, 10, none⟩ (.map (some w3.heap.size))).setCell ⟨c, 11, none⟩ (.slice none 0 0)) := (Turn.set (S := fun i => i = c) _ _ _ _ rfl).trans (Turn.set _ _ _ _ rfl)
  exact ⟨rfl, ⟨_, _, x, h, _, _, _, _, r1, gv_turn hg5 ts (by omega) (by omega), hx5.turn ts (by omega) (by omega) (fun p l hp e => Bx.ne hp hc5 (by decide) e), pv_turn hp5 ts (by omega) (by omega) (by omega), owns_turn ho5 ts (by omega), by omega, by omega, by omega, by omega, hxh, by omega, by omega, by omega, by omega, by omega, by simp only [World.size_setCell]; omega⟩, ht5.trans ts⟩
end Go.Proofs.YtoichcickcgbgaaGreatDoor
namespace Go.Proofs.YtoichcickcgbgaaGreatDoor
open Go.RowKit Go.Maps Disk
attribute [local go_sem] Oper.semAt_some
attribute [local go_sem] run_store_func
set_option maxRecDepth 100000 in
theorem ccounts_any (w : World) : Calls Tryz.prog 10 #[] w fun e w' => e = .returned (.pointer (some ⟨w.heap.size, 0, none⟩)) ∧ Bx w' w.heap.size 94 ([0, 0, 0, 0, 0, 0, 0, 0].map (Value.int .i64)) ∧ Below w.heap.size w w' := by
  go_enter Tryz.func10, Tryz.ntmps10
  go_wp2_with fail
  go_ret
  exact ⟨rfl, Bx.new w _ 94, (Below.refl _ _).alloc (Nat.le_refl _) _⟩
set_option maxRecDepth 100000 in
theorem config_15 (w : World) : Calls Tryz.prog 6 #[.int .i64 15, .int .i64 0] w fun e w' => e = .returned (.agg #[.int .i64 34, .int .i64 9, .int .i64 0]) ∧ Below w.heap.size w w' := by
  have z := Bx.new w [.int .i64 34, .int .i64 9, .int .i64 0] 29
  have e0 := z.cell 0 rfl
  have e1 := z.cell 1 rfl
  have e2 := z.cell 2 rfl
  clear z
  go_enter Tryz.func6, Tryz.ntmps6
  go_wp2_with fail
  rw [show wrap64 (19 + bits BinOp.and IntKind.i64 15 15) = 34 from by kernel_rfl, show bits BinOp.and IntKind.i64 0 7 = 0 from by kernel_rfl]
  refine bodyPost_ret (v := .agg #[.int .i64 34, .int .i64 9, .int .i64 0]) (by simp [results, Tryz.results6, go_sem, e0, e1, e2]) rfl ?_
  exact ⟨rfl, (Below.refl _ _).alloc (Nat.le_refl _) _⟩
set_option maxRecDepth 100000 in
theorem config_5 (w : World) : Calls Tryz.prog 6 #[.int .i64 5, .int .i64 0] w fun e w' => e = .returned (.agg #[.int .i64 24, .int .i64 9, .int .i64 0]) ∧ Below w.heap.size w w' := by
  have z := Bx.new w [.int .i64 24, .int .i64 9, .int .i64 0] 29
  have e0 := z.cell 0 rfl
  have e1 := z.cell 1 rfl
  have e2 := z.cell 2 rfl
  clear z
  go_enter Tryz.func6, Tryz.ntmps6
  go_wp2_with fail
  rw [show wrap64 (19 + bits BinOp.and IntKind.i64 5 15) = 24 from by kernel_rfl, show bits BinOp.and IntKind.i64 0 7 = 0 from by kernel_rfl]
  refine bodyPost_ret (v := .agg #[.int .i64 24, .int .i64 9, .int .i64 0]) (by simp [results, Tryz.results6, go_sem, e0, e1, e2]) rfl ?_
  exact ⟨rfl, (Below.refl _ _).alloc (Nat.le_refl _) _⟩
open Classical in
/-- The colours of a control's blocks. -/
noncomputable def hue (G : Nat → Prop) (K : Ck) : Nat → Nat := fun i =>
  if i = K.c then 2 else if i = K.g then 3 else if i = K.bm then 4 else if i = K.x then 5 else if i = K.h then 6 else if i = K.p then 7 else if i = K.bw ∨ i = K.bt then 8 else if i = K.mb then 9 else if i = K.cb then 10 else if G i ∨ i = K.q then 1 else 0
structure Chain (G : Nat → Prop) (K : Ck) : Prop where
  l1 : K.c < K.bm
  l2 : K.bm < K.g
  l3 : K.g < K.x
  l4 : K.g < K.h
  l5 : K.x ≠ K.h
  l6 : K.x < K.bw
  l7 : K.h < K.bw
  l8 : K.bw < K.bt
  l9 : K.bt < K.p
  l10 : K.p < K.mb
  l11 : K.cb < K.c
  l12 : K.q < K.cb
  l13 : ∀ i, G i → i < K.cb
theorem Chain.cols {G : Nat → Prop} {K : Ck} (h : Chain G K) (n1 : 20 < K.n) (n2 : K.n ≤ 1024) : Cols (hue G K) K := by
  obtain ⟨l1, l2, l3, l4, l5, l6, l7, l8, l9, l10, l11, l12, l13⟩ := h
  refine ⟨?_, ?_, ?_, ?_, ?_, ?_, ?_, ?_, ?_, ?_, ?_, n1, n2⟩ <;> unfold hue
  · rw [if_pos rfl]
  · rw [if_neg (by omega), if_neg (by omega), if_neg (by omega), if_neg (by omega), if_neg (by omega), if_neg (by omega), if_neg (by omega), if_neg (by omega), if_neg (by omega), if_pos (.inr rfl)]
  · rw [if_neg (by omega), if_pos rfl]
  · rw [if_neg (by omega), if_neg (by omega), if_pos rfl]
  · rw [if_neg (by omega), if_neg (by omega), if_neg (by omega), if_pos rfl]
  · rw [if_neg (by omega), if_neg (by omega), if_neg (by omega), if_neg (by omega), if_pos rfl]
  · rw [if_neg (by omega), if_neg (by omega), if_neg (by omega), if_neg (by omega), if_neg (by omega), if_pos rfl]
  · rw [if_neg (by omega), if_neg (by omega), if_neg (by omega), if_neg (by omega), if_neg (by omega), if_neg (by omega), if_pos (.inl rfl)]
  · rw [if_neg (by omega), if_neg (by omega), if_neg (by omega), if_neg (by omega), if_neg (by omega), if_neg (by omega), if_pos (.inr rfl)]
  · rw [if_neg (by omega), if_neg (by omega), if_neg (by omega), if_neg (by omega), if_neg (by omega), if_neg (by omega), if_neg (by omega), if_pos rfl]
  · rw [if_neg (by omega), if_neg (by omega), if_neg (by omega), if_neg (by omega), if_neg (by omega), if_neg (by omega), if_neg (by omega), if_neg (by omega), if_pos rfl]
theorem Chain.one {G : Nat → Prop} {K : Ck} (h : Chain G K) {i : Nat} (hi : G i) : hue G K i = 1 := by
  obtain ⟨l1, l2, l3, l4, l5, l6, l7, l8, l9, l10, l11, l12, l13⟩ := h
  have := l13 i hi
  unfold hue
  rw [if_neg (by omega), if_neg (by omega), if_neg (by omega), if_neg (by omega), if_neg (by omega), if_neg (by omega), if_neg (by omega), if_neg (by omega), if_neg (by omega), if_pos (.inl hi)]
theorem Chain.none {G : Nat → Prop} {K : Ck} (h : Chain G K) {i : Nat} (hi : ¬ G i) (hq : i ≠ K.q) (hh : i < K.cb ∨ K.mb < i) : hue G K i = 0 := by
  obtain ⟨l1, l2, l3, l4, l5, l6, l7, l8, l9, l10, l11, l12, l13⟩ := h
  unfold hue
  rw [if_neg (by omega), if_neg (by omega), if_neg (by omega), if_neg (by omega), if_neg (by omega), if_neg (by omega), if_neg (by omega), if_neg (by omega), if_neg (by omega), if_neg (fun h => h.elim hi hq)]
set_option linter.unusedSimpArgs false in
set_option maxRecDepth 100000 in
set_option maxHeartbeats 4000000 in
theorem cnew_any (n : Nat) (hn1 : 20 < n) (hn2 : n ≤ 1024) (w : World) :
    Calls Tryz.prog 5 #[.agg #[.int .i64 n, .int .i64 9, .int .i64 0]] w fun e w' => ∃ col K, e = .returned (.pointer (some ⟨K.c, 0, none⟩)) ∧ Ctl w' col K n 0 [] (fun _ => none) [] 0 ∧ (∀ i, i < w.heap.size → col i = 0) ∧ Below w.heap.size w w' := by
  have b0 := (Below.refl w.heap.size w).alloc (Nat.le_refl _) (.cells #[.int .i64 n, .int .i64 9, .int .i64 0] 29)
  have hz := Bx.new w [.int .i64 n, .int .i64 9, .int .i64 0] 29
  have HZ := Lib.hid hz
  have HB := Lib.hid b0
  have c0 := hz.cell 0 rfl
  have hs0 : w.heap.size < (w.alloc (.cells #[.int .i64 n, .int .i64 9, .int .i64 0] 29)).heap.size := hz.lt
  clear b0 hz
  go_enter Tryz.func5, Tryz.ntmps5
  go_wp2_with fail
  generalize w.alloc (.cells #[.int .i64 n, .int .i64 9, .int .i64 0] 29) = u0 at *
  refine (du_new n (by omega) hn2 _).mono ?_
  rintro e w1 ⟨rfl, hD, b1, hs1⟩
  have hz1 := HZ.out.below b1
  have HZ1 := Lib.hid hz1
  have HD1 := Lib.hid hD
  have HB1 := Lib.hid (HB.out.trans (b1.mono HB.out.size))
  clear c0
  have c0 := hz1.cell 0 rfl
  have c1 := hz1.cell 1 rfl
  have c2 := hz1.cell 2 rfl
  clear hD b1 hz1 HZ HB
  go_wp2_with fail
  refine (rg_format HD1.out (fun k h => by omega) (by omega) hn2 (by omega)).mono ?_
  rintro e w2 ⟨q, j, rfl, hq, hbq, ⟨G, hJ, hGG⟩, t2⟩
  have hz2 := HZ1.out.turn t2 (by omega)
  have HZ2 := Lib.hid hz2
  have HQ2 := Lib.hid hbq
  have HJ2 := Lib.hid hJ
  have HQL := Lib.hid hbq.lt
  have HGG := Lib.hid hGG
  have hs2 := t2.size
  have HB2 := Lib.hid (((Turn.below HB1.out).then (S := fun i => w.heap.size ≤ i) t2 (fun i hi h => by omega)).fresh (fun i hi h => by omega))
  clear c0 c1 c2
  have c0 := hz2.cell 0 rfl
  have c1 := hz2.cell 1 rfl
  have c2 := hz2.cell 2 rfl
  clear hbq hJ hGG t2 hz2 HZ1 HD1 HB1
  go_wp2_with fail
  have KC : Hid (∀ y, Hid (Below w2.heap.size w2 y) → (y.cell? ⟨w.heap.size, 0, none⟩ = some (.int .i64 n) ∧ y.cell? ⟨w.heap.size, 1, none⟩ = some (.int .i64 9) ∧ y.cell? ⟨w.heap.size, 2, none⟩ = some (.int .i64 0))) := fun y h => ⟨(HZ2.out.below h.out).cell 0 rfl, (HZ2.out.below h.out).cell 1 rfl, (HZ2.out.below h.out).cell 2 rfl⟩
  have B1 : Hid (Below w2.heap.size w2 w2.drew) := bl_drew (bl0 _)
  clear c0 c1 c2
  refine wp_region_held_drew (S := fun y => (y.cell? ⟨w.heap.size, 0, none⟩ = some (.int .i64 n) ∧ y.cell? ⟨w.heap.size, 1, none⟩ = some (.int .i64 9) ∧ y.cell? ⟨w.heap.size, 2, none⟩ = some (.int .i64 0)) ∧ Hid (Below w2.heap.size w2 y)) (by kernel_rfl) (skeep KC B1) (fun hHeld => ?_)
  refine wtk 0 29 (.agg #[.int .i64 n, .int .i64 9, .int .i64 0]) rfl (by kernel_rfl) (fun _ _ _ h => h) (by rfl) (fun x hSw => by obtain ⟨⟨d0, d1, d2⟩, _⟩ := id hSw; (go_simp) <;> first | decide | exact IntWalk.i64_in _ (by omega)) (by assumption) ?_
  try simp only [Act.put, pw]
  refine wtk 1 30 (.pointer (some ⟨(u0.heap.size + 1), 0, none⟩)) rfl (by kernel_rfl) (fun _ _ _ h => h) (by rfl) (fun x hSw => by obtain ⟨⟨d0, d1, d2⟩, _⟩ := id hSw; (go_simp) <;> first | decide | exact IntWalk.i64_in _ (by omega)) (by assumption) ?_
  try simp only [Act.put, pw]
  refine wtk 2 31 (.pointer (some ⟨q, 0, none⟩)) rfl (by kernel_rfl) (fun _ _ _ h => h) (by rfl) (fun x hSw => by obtain ⟨⟨d0, d1, d2⟩, _⟩ := id hSw; (go_simp) <;> first | decide | exact IntWalk.i64_in _ (by omega)) (by assumption) ?_
  try simp only [Act.put, pw]
  refine wtk 3 32 (.pointer (some ⟨w.heap.size, 2, none⟩)) rfl (by kernel_rfl) (fun _ _ _ h => h) (by rfl) (fun x hSw => by obtain ⟨⟨d0, d1, d2⟩, _⟩ := id hSw; (go_simp) <;> first | decide | exact IntWalk.i64_in _ (by omega)) (by assumption) ?_
  try simp only [Act.put, pw]
  refine wtk 4 33 (.int .i64 0) rfl (by kernel_rfl) (fun _ _ _ h => h) (by rfl) (fun x hSw => by obtain ⟨⟨d0, d1, d2⟩, _⟩ := id hSw; (go_simp) <;> first | decide | exact IntWalk.i64_in _ (by omega)) (by assumption) ?_
  try simp only [Act.put, pw]
  refine wpAnyH_ready (rs := [5]) (by kernel_rfl) (by simp) (AllReadyH.cons rfl (fun KK hK => ?_) AllReadyH.nil)
  go_simp
  refine (ccounts_any _).mono ?_
  rintro e w3 ⟨rfl, hcb, b3⟩
  have B3 := bl_below B1 b3
  have hcb : Bx w3 w2.heap.size 94 ([0, 0, 0, 0, 0, 0, 0, 0].map (Value.int .i64)) := hcb
  refine hK.out _ _ (skeep KC B3) (fun hHeld => ?_)
  clear hK KK
  clear b3 B1
  try simp only [Act.put, pw]
  refine wtk 6 35 (.agg #[.int .i64 n, .int .i64 9, .int .i64 0, .pointer (some ⟨(u0.heap.size + 1), 0, none⟩), .pointer (some ⟨q, 0, none⟩), .int .i64 0, .int .i64 0, .pointer none, .pointer none, .pointer none, .map none, .slice none 0 0, .pointer (some ⟨w2.heap.size, 0, none⟩)]) rfl (by kernel_rfl) (fun _ _ _ h => h) (by rfl) (fun x hSw => by obtain ⟨⟨d0, d1, d2⟩, _⟩ := id hSw; (go_simp) <;> first | decide | exact IntWalk.i64_in _ (by omega)) (by assumption) ?_
  try simp only [Act.put, pw]
  refine wpAnyH_ready (rs := [7]) (by kernel_rfl) (by simp) (AllReadyH.cons rfl (fun KK hK => ?_) AllReadyH.nil)
  go_simp
  have B6 := bl_alloc (.cells #[.int .i64 n, .int .i64 9, .int .i64 0, .pointer (some ⟨(u0.heap.size + 1), 0, none⟩), .pointer (some ⟨q, 0, none⟩), .int .i64 0, .int .i64 0, .pointer none, .pointer none, .pointer none, .map none, .slice none 0 0, .pointer (some ⟨w2.heap.size, 0, none⟩)] 66) B3
  refine hK.out _ _ (skeep KC B6) (fun hHeld => ?_)
  clear hK KK
  try simp only [Act.put, pw]
  refine wtk 8 6 (.pointer (some ⟨w3.heap.size, 0, none⟩)) rfl (by kernel_rfl) (fun _ _ _ h => h) (by rfl) (fun x hSw => by obtain ⟨⟨d0, d1, d2⟩, _⟩ := id hSw; (go_simp) <;> first | decide | exact IntWalk.i64_in _ (by omega)) (by assumption) ?_
  try simp only [Act.put, pw]
  refine wpAnyH_done (by kernel_rfl) ?_ _
  clear KC hHeld
  have HQ3 := Lib.hid (HQ2.out.below B6.out)
  have HJ3 := Lib.hid (HJ2.out.below B6.out)
  have HCB := Lib.hid (hcb.more (.cells #[.int .i64 n, .int .i64 9, .int .i64 0, .pointer (some ⟨(u0.heap.size + 1), 0, none⟩), .pointer (some ⟨q, 0, none⟩), .int .i64 0, .int .i64 0, .pointer none, .pointer none, .pointer none, .map none, .slice none 0 0, .pointer (some ⟨w2.heap.size, 0, none⟩)] 66))
  have HC3 := Lib.hid (Bx.new w3 [.int .i64 n, .int .i64 9, .int .i64 0, .pointer (some ⟨(u0.heap.size + 1), 0, none⟩), .pointer (some ⟨q, 0, none⟩), .int .i64 0, .int .i64 0, .pointer none, .pointer none, .pointer none, .map none, .slice none 0 0, .pointer (some ⟨w2.heap.size, 0, none⟩)] 66)
  have hs3 : w2.heap.size < w3.heap.size := hcb.lt
  have hs6 : w3.heap.size < (w3.alloc (.cells #[.int .i64 n, .int .i64 9, .int .i64 0, .pointer (some ⟨(u0.heap.size + 1), 0, none⟩), .pointer (some ⟨q, 0, none⟩), .int .i64 0, .int .i64 0, .pointer none, .pointer none, .pointer none, .map none, .slice none 0 0, .pointer (some ⟨w2.heap.size, 0, none⟩)] 66)).heap.size := HC3.out.lt
  have HB3 := Lib.hid (HB2.out.trans (B6.out.mono HB2.out.size))
  clear hcb B3 B6 HQ2 HJ2 HB2 HZ2
  go_wp2_with fail
  generalize w3.alloc (.cells #[.int .i64 n, .int .i64 9, .int .i64 0, .pointer (some ⟨(u0.heap.size + 1), 0, none⟩), .pointer (some ⟨q, 0, none⟩), .int .i64 0, .int .i64 0, .pointer none, .pointer none, .pointer none, .map none, .slice none 0 0, .pointer (some ⟨w2.heap.size, 0, none⟩)] 66) = w6 at *
  refine (cempties_any HC3.out).mono ?_
  rintro e w7 ⟨rfl, ⟨g, bm, x, h, p, bw, bt, mb, hc, hg, hx, hp, hm, l1, l2, l3, l4, l5, l6, l7, l8, l9, l10, l11⟩, t7⟩
  have HC7 := Lib.hid hc
  have HG7 := Lib.hid hg
  have HX7 := Lib.hid hx
  have HP7 := Lib.hid hp
  have HM7 := Lib.hid hm
  have hgg : ∀ i, G i → w.heap.size < i ∧ i ≠ q ∧ i < w2.heap.size := fun i hi => by
    have := HGG.out i hi
    omega
  have hqlt : q < w2.heap.size := by
    have := HQL.out
    exact this
  have HJ7 := Lib.hid (HJ3.out.turn t7 (fun i _ hG e => by have := hgg i hG; omega))
  have HQ7 := Lib.hid (HQ3.out.turn t7 (by omega))
  have HCB7 := Lib.hid (HCB.out.turn t7 (by omega))
  have HB7 := Lib.hid (((Turn.below HB3.out).then (S := fun i => w.heap.size ≤ i) t7 (fun i hi h => by omega)).fresh (fun i hi h => by omega))
  have hs7 := t7.size
  clear hc hg hx hp hm t7
  go_wp2_with fail
  go_ret
  have hch : Chain G ⟨w3.heap.size, u0.heap.size + 1, q, j, n, g, bm, x, h, p, bw, bt, mb, w2.heap.size⟩ := ⟨by simp only; omega, l2, l3, l4, l5, l6, l7, l8, l9, l10, hs3, hqlt, fun i hi => (hgg i hi).2.2⟩
  refine ⟨hue G ⟨w3.heap.size, u0.heap.size + 1, q, j, n, g, bm, x, h, p, bw, bt, mb, w2.heap.size⟩, ⟨w3.heap.size, u0.heap.size + 1, q, j, n, g, bm, x, h, p, bw, bt, mb, w2.heap.size⟩, rfl, ⟨hch.cols hn1 hn2, fun i hi => ?_, HC7.out, ⟨G, 0 + 18, .slice none 0 0, ⟨HQ7.out, HJ7.out, ⟨⟨none, 0, rfl, by simp, fun h => (h rfl).elim⟩, fun _ => rfl⟩, fun h => (hgg q h).2.1 rfl, fun i hi => ?_, fun h => (h rfl).elim⟩, fun i hi => hch.one hi, fun h => (h rfl).elim⟩, ⟨0, Nat.le_refl _, HG7.out⟩, HX7.out, ⟨0, _, _, Nat.le_refl _, HP7.out, fun k => ⟨Int.le_refl _, by simp, Int.le_refl _, by simp⟩⟩, ⟨0, Nat.le_refl _, _, HM7.out⟩, ⟨_, HCB7.out, rfl⟩⟩, fun i hi => ?_, HB7.out⟩
  · refine hch.none (fun h => by have := hgg i h; omega) (by simp only; omega) (.inr (by simp only; omega))
  · have := hgg i hi
    omega
  · refine hch.none (fun h => by have := hgg i h; omega) (by simp only; omega) (.inl (by simp only; omega))
end Go.Proofs.YtoichcickcgbgaaGreatDoor
namespace Go.Proofs.YtoichcickcgbgaaGreatDoor
open Go.RowKit
attribute [local go_sem] Oper.semAt_some
attribute [local go_sem] run_store_func
theorem SvL.last {t : Int} {gm gm' : Int → Option (Int × Int)} {js js' : List Jb} {l : List Rk} {x : Rk} (h : SvL t gm js (l ++ [x]) gm' js') : ∃ g1 j1, SvL t gm js l g1 j1 ∧ Sv1 t x g1 j1 gm' js' := by
  generalize hm : l ++ [x] = m at h
  cases h with
  | nil => simp at hm
  | snoc h1 h2 =>
    obtain ⟨rfl, e⟩ := List.append_inj' hm rfl
    obtain rfl := List.singleton_inj.1 e
    exact ⟨_, _, h1, h2⟩
theorem SvL.none {t : Int} {gm gm' : Int → Option (Int × Int)} {js js' : List Jb} (h : SvL t gm js [] gm' js') : gm' = gm ∧ js' = js := by
  generalize hm : ([] : List Rk) = m at h
  cases h with
  | nil => exact ⟨rfl, rfl⟩
  | snoc h1 h2 => simp at hm
def xa : Rk := ⟨⟨1, 1, 2, 2, 1⟩, false⟩
theorem rws_a : Rws ([] ++ [xa]) := ⟨⟨by simp, fun t h => by
  simp [xa] at h
  subst h
  unfold Tk.ok
  simp⟩, fun r h hs => by
  simp at h
  subst h
  simp [xa] at hs, fun a b h => by simp at h, .inr ⟨xa, rfl, rfl⟩⟩
theorem row_a : ∀ x ∈ [xa], RowOk x := fun x h => by
  simp at h
  subst h
  exact ⟨.inr rfl, by decide, by decide, by decide, by decide, by decide, by decide, .inl rfl⟩
theorem ji_a : JI [⟨1, 0, 2, 1⟩] := ⟨by simp, fun j h => by
  simp at h
  subst h
  simp⟩
set_option linter.unusedSimpArgs false in
set_option maxRecDepth 100000 in
set_option maxHeartbeats 4000000 in
theorem awake_any (w : World) : Calls Tryz.prog 4 #[] w fun e w' => e = .returned (.bool true) ∧ Below w.heap.size w w' := by
  have HN := Lib.hid (fun (y : World) => cnew_any 24 (by decide) (by decide) y)
  simp only [show ((24 : Nat) : Int) = 24 from rfl] at HN
  have HO := Lib.hid (fun (y : World) (col : Nat → Nat) (K : Ck) (h : Ctl y col K 24 0 [] (fun _ => none) [] 0) => do_op h (x := xa) rws_a ⟨by decide, by decide, by decide, by decide, by decide⟩)
  simp only [xa] at HO
  go_enter Tryz.func4, Tryz.ntmps4
  go_wp2_with fail
  refine (config_5 _).mono ?_
  rintro e w1 ⟨rfl, b1⟩
  have HB1 := Lib.hid b1
  clear b1
  go_wp2_with fail
  refine (HN.out _).mono ?_
  rintro e w2 ⟨col, K, rfl, hc, hcol, b2⟩
  have HC2 := Lib.hid hc
  have HB2 := Lib.hid (HB1.out.trans (b2.mono HB1.out.size))
  have HW2 : Hid (∀ i, Own col i → w.heap.size ≤ i) := fun i h => by
    have := HB1.out.size
    by_cases hi : i < w1.heap.size
    · exact (h (hcol i hi)).elim
    · omega
  clear hc b2 hcol HB1
  go_wp2_with fail
  refine (HO.out _ _ _ HC2.out).mono ?_
  rintro e w3 ⟨er, rfl, her, hc, t3⟩
  obtain ⟨rfl, col', hc3, hcol⟩ : er = 0 ∧ ∃ col', Ctl w3 col' K 24 0 ([] ++ [xa]) (fun _ => none) [] 0 ∧ ∀ i, i < w2.heap.size → col' i = col i := by
    rcases hc with ⟨h0, h⟩ | ⟨h0, _⟩
    · exact ⟨h0, h⟩
    · exact (h0 (by simpa using her)).elim
  have hB3 : Below w.heap.size w w3 := ((Turn.below HB2.out).then (S := fun i => w.heap.size ≤ i) t3 (fun i hi h => by have := HW2.out i h; omega)).fresh (fun i hi h => by omega)
  have HC3 := Lib.hid hc3
  have HW3 : Hid (∀ i, i < w.heap.size → ¬ Own col' i) := fun i hi h => by
    have h2 := HB2.out.size
    have := HW2.out i (by unfold Own at h ⊢; rw [← hcol i (by omega)]; exact h)
    omega
  have HB3 := Lib.hid hB3
  clear hc her t3 hc3 hcol hB3 HB2 HW2 HC2
  go_wp2_with fail
  refine (do_release HC3.out (by simp) (.inl ⟨by decide, rfl⟩) rfl (by decide)).mono ?_
  rintro e w4 ⟨⟨v4, rfl⟩, ⟨gm', js', hc, rfl⟩, t4⟩
  have HC4 := Lib.hid hc
  have HB4 := Lib.hid (((Turn.below HB3.out).then (S := fun i => w.heap.size ≤ i) t4 (fun i hi h => (HW3.out i hi h).elim)).fresh (fun i hi h => by omega))
  clear hc t4 HB3 HC3
  go_wp2_with fail
  refine (do_tick HC4.out (by simp) row_a ji_a (by decide) (by decide) (by decide)).mono ?_
  rintro e w5 ⟨i, b, gm2, js1, js2, v, rfl, ⟨g, cap, rfl, hg1, hg2, hg3, hg4⟩, hc, hsv, hrun, t5⟩
  obtain ⟨g1, j1, h1, h2⟩ := SvL.last (l := []) hsv
  obtain ⟨rfl, rfl⟩ := h1.none
  have hj : js1 = [⟨1, 0, 2, 1⟩] := by
    rcases h2 with ⟨_, h⟩ | ⟨h, _⟩
    · exact h
    · simp [xa] at h
  subst hj
  obtain ⟨rfl, rfl⟩ : i = 1 ∧ b = true := by
    rcases hrun with ⟨h, _⟩ | ⟨a, l, h, hi, hb, _⟩
    · simp at h
    · simp at h
      obtain ⟨rfl, rfl⟩ := h
      exact ⟨hi, by simpa using hb⟩
  have HB5 := Lib.hid (((Turn.below HB4.out).then (S := fun i => w.heap.size ≤ i) t5 (fun i hi h => (HW3.out i hi h).elim)).fresh (fun i hi h => by omega))
  have bA := (Below.refl w5.heap.size w5).alloc (Nat.le_refl _) (.cells #[.int .i64 0, .slice (some ⟨g, 0, none⟩) 1 cap, .int .i64 0, .int .i64 0, .int .i64 0, .int .i64 0, .int .i64 0, .bool false, .int .i64 0, .int .i64 0, .slice none 0 0] 40)
  have q0 := (World.cell?_of_block (a := ⟨g, 0, none⟩) (bA.block g hg2)).trans hg3
  have q1 := (World.cell?_of_block (a := ⟨g, 1, none⟩) (bA.block g hg2)).trans hg4
  have z1 := (Bx.new w5 [.int .i64 0, .slice (some ⟨g, 0, none⟩) 1 cap, .int .i64 0, .int .i64 0, .int .i64 0, .int .i64 0, .int .i64 0, .bool false, .int .i64 0, .int .i64 0, .slice none 0 0] 40).cell 1 rfl
  have HB6 := Lib.hid (HB5.out.trans (bA.mono HB5.out.size))
  clear hg1 hg3 hg4 hc hsv hrun t5 h1 h2 HB4 HC4 bA
  go_wp2_with fail
  go_ret
  exact ⟨rfl, HB6.out⟩
end Go.Proofs.YtoichcickcgbgaaGreatDoor
namespace Go.Proofs.YtoichcickcgbgaaGreatDoor
/-- What one server has come to ahead of slot n: R i is how much of it ran ahead of slot i; left is what its job has left; next is from when on it may be released. -/
structure Led (C T n : Nat) (R : Nat → Nat) (left next : Nat) : Prop where
  le : left ≤ C
  all : ∀ a, a ≤ n → ∃ m, R n + left ≤ R a + C + C * m ∧ (m = 0 ∨ (a + m * T ≤ next ∧ next + 1 ≤ n + T))
  past : ∀ a b, a ≤ b → b ≤ n → R b ≤ R a + C * ((b - a) / T + 2)
theorem Led.start (C T : Nat) (R : Nat → Nat) (next : Nat) : Led C T 0 R 0 next :=
  ⟨Nat.zero_le _, fun a ha => ⟨0, by obtain rfl : a = 0 := by omega
                                     omega, .inl rfl⟩, fun a b hab hb => by
    obtain rfl : b = 0 := by omega
    obtain rfl : a = 0 := by omega
    exact Nat.le_add_right _ _⟩
theorem Led.step {C T n : Nat} {R R' : Nat → Nat} {left next l1 nx ran left' : Nat} (hT : 0 < T) (h : Led C T n R left next)
    (hr : (l1 = left ∧ nx = next) ∨ (next ≤ n ∧ nx = n + T ∧ (l1 = left ∨ (left = 0 ∧ l1 ≤ C)))) (hl : left' + ran = l1) (hR : ∀ i, i ≤ n → R' i = R i) (hn : R' (n + 1) = R n + ran) :
    Led C T (n + 1) R' left' nx := by
  have hle : left' ≤ C := by
    have := h.le
    rcases hr with ⟨h1, _⟩ | ⟨_, _, h1 | ⟨_, h1⟩⟩ <;> omega
  have all : ∀ a, a ≤ n + 1 → ∃ m, R' (n + 1) + left' ≤ R' a + C + C * m ∧ (m = 0 ∨ (a + m * T ≤ nx ∧ nx + 1 ≤ n + 1 + T)) := by
    intro a ha
    by_cases hb : a = n + 1
    · subst hb
      exact ⟨0, by omega, .inl rfl⟩
    · obtain ⟨m, h1, h2⟩ := h.all a (by omega)
      rw [hR a (by omega), hn]
      rcases hr with ⟨h3, rfl⟩ | ⟨h3, rfl, h4⟩
      · refine ⟨m, by omega, ?_⟩
        rcases h2 with h2 | ⟨h2, h5⟩
        · exact .inl h2
        · exact .inr ⟨h2, by omega⟩
      · refine ⟨m + 1, ?_, .inr ⟨?_, by omega⟩⟩
        · rw [Nat.mul_add, Nat.mul_one]
          have := h.le
          rcases h4 with h4 | ⟨h4, h5⟩ <;> omega
        · rw [Nat.add_mul, Nat.one_mul]
          rcases h2 with rfl | ⟨h2, h5⟩
          · omega
          · omega
  refine ⟨hle, all, fun a b hab hb => ?_⟩
  by_cases hbn : b = n + 1
  · subst hbn
    obtain ⟨m, h1, h2⟩ := all a hab
    have hm : m ≤ (n + 1 - a) / T + 1 := by
      rcases h2 with rfl | ⟨h2, h5⟩
      · exact Nat.zero_le _
      · have h6 : (m - 1) * T ≤ n + 1 - a := by
          rw [Nat.sub_mul, Nat.one_mul]
          omega
        have := (Nat.le_div_iff_mul_le hT).2 h6
        omega
    have h7 : C * m ≤ C * ((n + 1 - a) / T + 1) := Nat.mul_le_mul_left _ hm
    have h8 : C * ((n + 1 - a) / T + 2) = C * ((n + 1 - a) / T + 1) + C := by rw [show (n + 1 - a) / T + 2 = ((n + 1 - a) / T + 1) + 1 from rfl, Nat.mul_add C _ 1, Nat.mul_one]
    omega
  · rw [hR a (by omega), hR b (by omega)]
    exact h.past a b hab (by omega)
end Go.Proofs.YtoichcickcgbgaaGreatDoor
