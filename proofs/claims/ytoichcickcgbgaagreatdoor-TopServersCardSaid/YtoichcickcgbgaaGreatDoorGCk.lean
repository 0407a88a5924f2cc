/-
  The control's tick: one slot.
-/
import Derived.Test.YtoichcickcgbgaaGreatDoorGCt
namespace Go.Proofs.YtoichcickcgbgaaGreatDoor
open Go.RowKit
attribute [local go_sem] Oper.semAt_some
attribute [local go_sem] run_store_func
theorem info51 : (Tryz.prog.info? 51).map (fun i => (i.zero, i.size, i.bytes)) = some (some (.agg #[.int .i64 0, .bool false]), 2, 16) := by kernel_rfl
/-- The reply to a tick. -/
def TickV (w : World) (B : Nat) (i : Int) (b : Bool) (v : Value) : Prop := ∃ g cap, v = .agg #[.int .i64 0, .slice (some ⟨g, 0, none⟩) 1 cap, .int .i64 0, .int .i64 0, .int .i64 0, .int .i64 0, .int .i64 0, .bool false, .int .i64 0, .int .i64 0, .slice none 0 0] ∧ B ≤ g ∧ g < w.heap.size ∧ w.cell? ⟨g, 0, none⟩ = some (.int .i64 i) ∧ w.cell? ⟨g, 1, none⟩ = some (.bool b)
theorem own_two {w : World} {B : Nat} {v : Value} {i : Int} {b : Bool} (h : w.ownsRow B 51 2 v 1 [.int .i64 i, .bool b]) : ∃ g cap, v = .slice (some ⟨g, 0, none⟩) 1 cap ∧ B ≤ g ∧ g < w.heap.size ∧ w.cell? ⟨g, 0, none⟩ = some (.int .i64 i) ∧ w.cell? ⟨g, 1, none⟩ = some (.bool b) := by
  rcases h.2 with ⟨_, h2⟩ | ⟨g, cap, cur, rfl, hB, hg, _⟩
  · simp at h2
  · exact ⟨g, cap, rfl, hB, (Array.getElem?_eq_some_iff.1 hg).1, h.cells (g := g) rfl 0 _ rfl, h.cells (g := g) rfl 1 _ rfl⟩
section
variable {w : World} {col : Nat → Nat} {K : Ck} {n0 t : Int} {rs : List Rk} {gm : Int → Option (Int × Int)} {js : List Jb} {u : Nat}
set_option linter.unusedSimpArgs false in
set_option maxRecDepth 100000 in
set_option maxHeartbeats 4000000 in
theorem ctick_any (H : Ctl w col K n0 t rs gm js u) (hl : rs.length ≤ 2) (hrow : ∀ x ∈ rs, RowOk x) (hj : JI js) (ht0 : 0 ≤ t) (ht1 : t ≤ 1000000) (hu : u < 1000) :
    Calls Tryz.prog 30 #[.pointer (some ⟨K.c, 0, none⟩), .agg #[.int .i64 4, .int .i64 0, .int .i64 0, .int .i64 0, .int .i64 0, .int .i64 0, .int .i64 0, .bool false, .int .i64 0, .int .i64 0, .int .i64 0, .int .i64 0, .int .i64 0, .int .i64 1, .slice none 0 0]] w fun e w' => ∃ i b gm' js1 js' v, e = .returned v ∧ TickV w' w.heap.size i b v ∧ Ctl w' col K n0 (t + 1) rs gm' js' (u + 8) ∧ SvL t gm js rs gm' js1 ∧ RunR js1 i b js' ∧ Turn (Own col) w w' := by
  have b0 := ((Below.refl w.heap.size w).alloc (Nat.le_refl _) (.cells #[.int .i64 4, .int .i64 0, .int .i64 0, .int .i64 0, .int .i64 0, .int .i64 0, .int .i64 0, .bool false, .int .i64 0, .int .i64 0, .int .i64 0, .int .i64 0, .int .i64 0, .int .i64 1, .slice none 0 0] 46)).alloc (by simp) (.cells #[.int .i64 0, .slice none 0 0, .int .i64 0, .int .i64 0, .int .i64 0, .int .i64 0, .int .i64 0, .bool false, .int .i64 0, .int .i64 0, .slice none 0 0] 40)
  have HM := Lib.hid ((Bx.new w [.int .i64 4, .int .i64 0, .int .i64 0, .int .i64 0, .int .i64 0, .int .i64 0, .int .i64 0, .bool false, .int .i64 0, .int .i64 0, .int .i64 0, .int .i64 0, .int .i64 0, .int .i64 1, .slice none 0 0] 46).more (.cells #[.int .i64 0, .slice none 0 0, .int .i64 0, .int .i64 0, .int .i64 0, .int .i64 0, .int .i64 0, .bool false, .int .i64 0, .int .i64 0, .slice none 0 0] 40))
  have hz := Bx.new (w.alloc (.cells #[.int .i64 4, .int .i64 0, .int .i64 0, .int .i64 0, .int .i64 0, .int .i64 0, .int .i64 0, .bool false, .int .i64 0, .int .i64 0, .int .i64 0, .int .i64 0, .int .i64 0, .int .i64 1, .slice none 0 0] 46)) [.int .i64 0, .slice none 0 0, .int .i64 0, .int .i64 0, .int .i64 0, .int .i64 0, .int .i64 0, .bool false, .int .i64 0, .int .i64 0, .slice none 0 0] 40
  simp only [World.size_alloc] at hz
  have HZ := Lib.hid hz
  have HH := Lib.hid (H.below b0)
  have HT := Lib.hid (Turn.below (S := Own col) b0)
  have hnew0 := H.new
  have hnew1 := H.fresh (w.heap.size + 1) (by omega)
  have hdt : decide (t + 1 > 1099511627776) = false := by simp; omega
  clear b0 H hz
  have c13 := HM.out.cell 13 rfl
  go_enter Tryz.func30, Tryz.ntmps30
  go_wp2_with fail
  generalize (w.alloc (.cells #[.int .i64 4, .int .i64 0, .int .i64 0, .int .i64 0, .int .i64 0, .int .i64 0, .int .i64 0, .bool false, .int .i64 0, .int .i64 0, .int .i64 0, .int .i64 0, .int .i64 0, .int .i64 1, .slice none 0 0] 46)).alloc (.cells #[.int .i64 0, .slice none 0 0, .int .i64 0, .int .i64 0, .int .i64 0, .int .i64 0, .int .i64 0, .bool false, .int .i64 0, .int .i64 0, .slice none 0 0] 40) = u0 at *
  have q3 : u0.drew.cell? ⟨K.c, 5, none⟩ = some (.int .i64 t) ∧ u0.drew.cell? ⟨w.heap.size, 13, none⟩ = some (.int .i64 1) := ⟨Bx.cell HH.out.box 5 rfl, HM.out.cell 13 rfl⟩
  refine wp_region_held_drew (S := fun y => y.cell? ⟨K.c, 5, none⟩ = some (.int .i64 t) ∧ y.cell? ⟨w.heap.size, 13, none⟩ = some (.int .i64 1)) (by kernel_rfl) (q3) (fun hHeld => ?_)
  refine wtk 0 17 (.pointer (some ⟨K.c, 0, none⟩)) rfl (by kernel_rfl) (fun _ _ _ h => h) (by rfl) (fun x hSw => by obtain ⟨d0, d1⟩ := id hSw; (go_simp) <;> first | decide | exact IntWalk.i64_in _ (by omega)) (by assumption) ?_
  try simp only [Act.put, pw]
  refine wtk 1 18 (.pointer (some ⟨K.c, 0, none⟩)) rfl (by kernel_rfl) (fun _ _ _ h => h) (by rfl) (fun x hSw => by obtain ⟨d0, d1⟩ := id hSw; (go_simp) <;> first | decide | exact IntWalk.i64_in _ (by omega)) (by assumption) ?_
  try simp only [Act.put, pw]
  refine wtk 2 19 (.pointer (some ⟨K.c, 5, none⟩)) rfl (by kernel_rfl) (fun _ _ _ h => h) (by rfl) (fun x hSw => by obtain ⟨d0, d1⟩ := id hSw; (go_simp) <;> first | decide | exact IntWalk.i64_in _ (by omega)) (by assumption) ?_
  try simp only [Act.put, pw]
  refine wtk 3 20 (.int .i64 t) rfl (by kernel_rfl) (fun _ _ _ h => h) (by rfl) (fun x hSw => by obtain ⟨d0, d1⟩ := id hSw; (go_simp) <;> first | decide | exact IntWalk.i64_in _ (by omega)) (by assumption) ?_
  try simp only [Act.put, pw]
  refine wtk 4 21 (.pointer (some ⟨w.heap.size, 13, none⟩)) rfl (by kernel_rfl) (fun _ _ _ h => h) (by rfl) (fun x hSw => by obtain ⟨d0, d1⟩ := id hSw; (go_simp) <;> first | decide | exact IntWalk.i64_in _ (by omega)) (by assumption) ?_
  try simp only [Act.put, pw]
  refine wtk 5 22 (.int .i64 1) rfl (by kernel_rfl) (fun _ _ _ h => h) (by rfl) (fun x hSw => by obtain ⟨d0, d1⟩ := id hSw; (go_simp) <;> first | decide | exact IntWalk.i64_in _ (by omega)) (by assumption) ?_
  try simp only [Act.put, pw]
  refine wtk 6 23 (.int .i64 (t + 1)) rfl (by kernel_rfl) (fun _ _ _ h => h) (by rfl) (fun x hSw => by obtain ⟨d0, d1⟩ := id hSw; (go_simp) <;> first | decide | exact IntWalk.i64_in _ (by omega)) (by assumption) ?_
  try simp only [Act.put, pw]
  refine wtk 7 24 (.bool false) rfl (by kernel_rfl) (fun _ _ _ h => h) (by rfl) (fun x hSw => by obtain ⟨d0, d1⟩ := id hSw; (go_simp) <;> first | decide | exact IntWalk.i64_in _ (by omega)) (by assumption) ?_
  try simp only [Act.put, pw]
  refine wtk 8 16 (.bool false) rfl (by kernel_rfl) (fun _ _ _ h => h) (by rfl) (fun x hSw => by obtain ⟨d0, d1⟩ := id hSw; (go_simp) <;> first | decide | exact IntWalk.i64_in _ (by omega)) (by assumption) ?_
  try simp only [Act.put, pw]
  refine wpAnyH_done (by kernel_rfl) ?_ _
  clear q3 hHeld c13
  have hs0 : w.heap.size + 1 < u0.heap.size := HZ.out.lt
  have b1 := ((bl0 u0).out.alloc (Nat.le_refl _) (.cells #[.int .i64 0, .slice none 0 0, .int .i64 0, .int .i64 0, .int .i64 0, .int .i64 0, .int .i64 0, .bool false, .int .i64 0, .int .i64 0, .slice none 0 0] 40)).drew
  have HM1 := Lib.hid (HM.out.below b1)
  have HZ1 := Lib.hid (HZ.out.below b1)
  have HH1 := Lib.hid (HH.out.below b1)
  have HT1 := Lib.hid (HT.out.trans (Turn.below b1))
  have HR1 := Lib.hid (show Bx (u0.alloc (.cells #[.int .i64 0, .slice none 0 0, .int .i64 0, .int .i64 0, .int .i64 0, .int .i64 0, .int .i64 0, .bool false, .int .i64 0, .int .i64 0, .slice none 0 0] 40)).drew u0.heap.size 40 [.int .i64 0, .slice none 0 0, .int .i64 0, .int .i64 0, .int .i64 0, .int .i64 0, .int .i64 0, .bool false, .int .i64 0, .int .i64 0, .slice none 0 0] from Bx.new u0 [.int .i64 0, .slice none 0 0, .int .i64 0, .int .i64 0, .int .i64 0, .int .i64 0, .int .i64 0, .bool false, .int .i64 0, .int .i64 0, .slice none 0 0] 40)
  have hnew2 : col u0.heap.size = 0 := HH.out.new
  clear b1 HM HZ HH HT
  have c13 := HM1.out.cell 13 rfl
  go_wp2_with fail
  generalize (u0.alloc (.cells #[.int .i64 0, .slice none 0 0, .int .i64 0, .int .i64 0, .int .i64 0, .int .i64 0, .int .i64 0, .bool false, .int .i64 0, .int .i64 0, .slice none 0 0] 40)).drew = u1 at *
  have hs1 : u0.heap.size < u1.heap.size := HR1.out.lt
  refine wp_loop_rounds 2 ?_
  rw [rounds_succ]
  go_wp2_with fail
  have c1 := HR1.out.cell 1 rfl
  obtain ⟨i0, hi, hz0, hz1, hz2⟩ := info_parts info51
  refine wp_region_held_drew (S := fun _ => True) (by kernel_rfl) (trivial) (fun hHeld => ?_)
  refine wtk 0 30 (.pointer (some ⟨u0.heap.size, 1, none⟩)) rfl (by kernel_rfl) (fun _ _ _ h => h) (by rfl) (fun x hSw => by (go_simp) <;> first | decide | exact IntWalk.i64_in _ (by omega)) (by assumption) ?_
  try simp only [Act.put, pw]
  refine wtk 2 32 (.pointer (some ⟨K.c, 0, none⟩)) rfl (by kernel_rfl) (fun _ _ _ h => h) (by rfl) (fun x hSw => by (go_simp) <;> first | decide | exact IntWalk.i64_in _ (by omega)) (by assumption) ?_
  try simp only [Act.put, pw]
  refine wpAnyH_ready (rs := [1, 3]) (by kernel_rfl) (by simp) (AllReadyH.cons rfl (fun KK hK => ?_) (AllReadyH.cons rfl (fun KK hK => ?_) AllReadyH.nil))
  · go_simp
    refine hK.out _ _ (trivial) (fun hHeld => ?_)
    clear hK KK
    try simp only [Act.put, pw]
    refine wpAnyH_ready (rs := [3]) (by kernel_rfl) (by simp) (AllReadyH.cons rfl (fun KK hK => ?_) AllReadyH.nil)
    go_simp
    refine (cslot_any (HH1.out.below (bl_drew (bl0 _)).out) hl hrow hj ht0 ht1 hu).mono ?_
    rintro e w2 ⟨ii, bb, gm', js1, js', rfl, hc2, hsv, hrun, t2⟩
    have hs2 : u1.heap.size ≤ w2.heap.size := t2.size
    have HC2 := Lib.hid hc2
    have HR2 := Lib.hid ((HR1.out.below (bl_drew (bl0 _)).out).turn t2 (fun h => h hnew2))
    have HZ2 := Lib.hid ((HZ1.out.below (bl_drew (bl0 _)).out).turn t2 (fun h => h hnew1))
    have HM2 := Lib.hid ((HM1.out.below (bl_drew (bl0 _)).out).turn t2 (fun h => h hnew0))
    have HT2 := Lib.hid ((HT1.out.drew).trans t2)
    have HSV := Lib.hid hsv
    have HRUN := Lib.hid hrun
    clear c1
    have c1 := HR2.out.cell 1 rfl
    refine hK.out _ _ (trivial) (fun hHeld => ?_)
    clear hK KK
    clear hc2 hsv hrun t2
    try simp only [Act.put, pw]
    refine wpAnyH_ready (rs := [4]) (by kernel_rfl) (by simp) (AllReadyH.cons rfl (fun KK hK => ?_) AllReadyH.nil)
    go_simp
    have bA := (Below.refl w2.heap.size w2).alloc (Nat.le_refl _) (.cells #[.int .i64 ii, .bool bb] 51)
    have HSA := Lib.hid (Bx.new w2 [.int .i64 ii, .bool bb] 51)
    have HCA := Lib.hid (HC2.out.below bA)
    have HRA := Lib.hid (HR2.out.below bA)
    have HZA := Lib.hid (HZ2.out.below bA)
    have HMA := Lib.hid (HM2.out.below bA)
    have HTA := Lib.hid (HT2.out.trans (Turn.below bA))
    have hsA := bA.size
    clear bA c1
    have c1 := HRA.out.cell 1 rfl
    refine hK.out _ _ (trivial) (fun hHeld => ?_)
    clear hK KK
    generalize w2.alloc (.cells #[.int .i64 ii, .bool bb] 51) = wA at *
    try simp only [Act.put, pw]
    refine wpAnyH_ready (rs := [5]) (by kernel_rfl) (by simp) (AllReadyH.cons rfl (fun KK hK => ?_) AllReadyH.nil)
    refine wp_append_own _ _ _ 35 rfl wA.heap.size 51 i0 _ 2 16 Tryz.underlying35 hi hz0 hz1 hz2 rfl (by decide) (.slice none 0 0) 0 [] rfl (World.ownsRow_nil _ _ _ _) ⟨w2.heap.size, 0, none⟩ 1 1 [.int .i64 ii, .bool bb] rfl rfl (range_add HSA.out.range) (by simp [Value.oneCell']) (by unfold maxLen; omega) (by omega) (Nat.le_refl _) ?_
    intro v5 w5 ho5 hg5 _
    obtain ⟨g, cap, rfl, hgB, hgs, hg0, hg1⟩ := own_two ho5
    have b5 : Below wA.heap.size wA w5 := ⟨hg5.os, hg5.tape, hg5.output, hg5.size, fun k hk => hg5.block k hk (by simp [Value.ownBlock])⟩
    have HC5 := Lib.hid (HCA.out.below b5)
    have HR5 := Lib.hid (HRA.out.below b5)
    have HZ5 := Lib.hid (HZA.out.below b5)
    have HM5 := Lib.hid (HMA.out.below b5)
    have HT5 := Lib.hid (HTA.out.trans (Turn.below b5))
    have hsz5 := b5.size
    have HG := Lib.hid (And.intro hgB (And.intro hgs (And.intro hg0 hg1)))
    clear ho5 hg5 b5 hgB hgs hg0 hg1 c1
    refine hK.out _ _ (trivial) (fun hHeld => ?_)
    clear hK KK
    try simp only [Act.put, pw]
    refine wtk 6 36 (.pointer (some ⟨u0.heap.size, 1, none⟩)) rfl (by kernel_rfl) (fun _ _ _ h => h) (by rfl) (fun x hSw => by (go_simp) <;> first | decide | exact IntWalk.i64_in _ (by omega)) (by assumption) ?_
    try simp only [Act.put, pw]
    refine wpAnyH_ready (rs := [7]) (by kernel_rfl) (by simp) (AllReadyH.cons rfl (fun KK hK => ?_) AllReadyH.nil)
    go_simp
    have f1 := HR5.out.free 1
    have z1 := HR5.out.cell 1 rfl
    go_simp
    refine hK.out _ _ (trivial) (fun hHeld => ?_)
    clear hK KK
    try simp only [Act.put, pw]
    refine wpAnyH_done (by kernel_rfl) ?_ _
    have t7 : Turn (fun i => i = u0.heap.size) w5 (w5.setCell ⟨u0.heap.size, 1, none⟩ (.slice (some ⟨g, 0, none⟩) 1 cap)) := Turn.set _ _ _ _ rfl
    have s7 := HR5.out.set 1 (.slice (some ⟨g, 0, none⟩) 1 cap) _ rfl
    have HC7 := Lib.hid (HC5.out.away t7 hnew2 (fun l h => Bx.ne h HR5.out (by decide) rfl))
    have HZ7 := Lib.hid (HZ5.out.turn t7 (by omega))
    have HM7 := Lib.hid (HM5.out.turn t7 (by omega))
    have HR7 := Lib.hid s7
    have HT7 := Lib.hid (HT5.out.then t7 (fun i hi e => by omega))
    have HG7 := Lib.hid (show w2.heap.size ≤ g ∧ g < (w5.setCell ⟨u0.heap.size, 1, none⟩ (.slice (some ⟨g, 0, none⟩) 1 cap)).heap.size ∧ (w5.setCell ⟨u0.heap.size, 1, none⟩ (.slice (some ⟨g, 0, none⟩) 1 cap)).cell? ⟨g, 0, none⟩ = some (.int .i64 ii) ∧ (w5.setCell ⟨u0.heap.size, 1, none⟩ (.slice (some ⟨g, 0, none⟩) 1 cap)).cell? ⟨g, 1, none⟩ = some (.bool bb) from by
      obtain ⟨h1, h2, h3, h4⟩ := HG.out
      have hb := t7.block g h2 (by omega)
      exact ⟨by omega, by simp only [World.size_setCell]; exact h2, (World.cell?_of_block hb).trans h3, (World.cell?_of_block hb).trans h4⟩)
    clear t7 s7 HC5 HZ5 HM5 HR5 HT5 HG
    go_wp2_with fail
    generalize w5.setCell ⟨u0.heap.size, 1, none⟩ (.slice (some ⟨g, 0, none⟩) 1 cap) = w7 at *
    have z0 := HR7.out.cell 0 rfl
    have f0 := HZ7.out.free 0
    have y0 := HZ7.out.cell 0 rfl
    have z1 := HR7.out.cell 1 rfl
    have f1 := HZ7.out.free 1
    have y1 := HZ7.out.cell 1 rfl
    have z2 := HR7.out.cell 2 rfl
    have f2 := HZ7.out.free 2
    have y2 := HZ7.out.cell 2 rfl
    have z3 := HR7.out.cell 3 rfl
    have f3 := HZ7.out.free 3
    have y3 := HZ7.out.cell 3 rfl
    have z4 := HR7.out.cell 4 rfl
    have f4 := HZ7.out.free 4
    have y4 := HZ7.out.cell 4 rfl
    have z5 := HR7.out.cell 5 rfl
    have f5 := HZ7.out.free 5
    have y5 := HZ7.out.cell 5 rfl
    have z6 := HR7.out.cell 6 rfl
    have f6 := HZ7.out.free 6
    have y6 := HZ7.out.cell 6 rfl
    have z7 := HR7.out.cell 7 rfl
    have f7 := HZ7.out.free 7
    have y7 := HZ7.out.cell 7 rfl
    have z8 := HR7.out.cell 8 rfl
    have f8 := HZ7.out.free 8
    have y8 := HZ7.out.cell 8 rfl
    have z9 := HR7.out.cell 9 rfl
    have f9 := HZ7.out.free 9
    have y9 := HZ7.out.cell 9 rfl
    have z10 := HR7.out.cell 10 rfl
    have f10 := HZ7.out.free 10
    have y10 := HZ7.out.cell 10 rfl
    rw [rounds_succ]
    go_wp2_with fail
    have s0 := Bx.set (w := w7) HZ7.out 0 (.int .i64 0) _ rfl
    have s1 := Bx.set (w := _) s0 1 (.slice (some ⟨g, 0, none⟩) 1 cap) _ rfl
    have s2 := Bx.set (w := _) s1 2 (.int .i64 0) _ rfl
    have s3 := Bx.set (w := _) s2 3 (.int .i64 0) _ rfl
    have s4 := Bx.set (w := _) s3 4 (.int .i64 0) _ rfl
    have s5 := Bx.set (w := _) s4 5 (.int .i64 0) _ rfl
    have s6 := Bx.set (w := _) s5 6 (.int .i64 0) _ rfl
    have s7 := Bx.set (w := _) s6 7 (.bool false) _ rfl
    have s8 := Bx.set (w := _) s7 8 (.int .i64 0) _ rfl
    have s9 := Bx.set (w := _) s8 9 (.int .i64 0) _ rfl
    have s10 := Bx.set (w := _) s9 10 (.slice none 0 0) _ rfl
    have e0 := s10.cell 0 rfl
    have e1 := s10.cell 1 rfl
    have e2 := s10.cell 2 rfl
    have e3 := s10.cell 3 rfl
    have e4 := s10.cell 4 rfl
    have e5 := s10.cell 5 rfl
    have e6 := s10.cell 6 rfl
    have e7 := s10.cell 7 rfl
    have e8 := s10.cell 8 rfl
    have e9 := s10.cell 9 rfl
    have e10 := s10.cell 10 rfl
    have ts : Turn (fun i => i = w.heap.size + 1) w7 (((((((((((w7.setCell ⟨w.heap.size + 1, 0, none⟩ (.int .i64 0)).setCell ⟨w.heap.size + 1, 1, none⟩ (.slice (some ⟨g, 0, none⟩) 1 cap)).setCell ⟨w.heap.size + 1, 2, none⟩ (.int .i64 0)).setCell ⟨w.heap.size + 1, 3, none⟩ (.int .i64 0)).setCell ⟨w.heap.size + 1, 4, none⟩ (.int .i64 0)).setCell ⟨w.heap.size + 1, 5, none⟩ (.int .i64 0)).setCell ⟨w.heap.size + 1, 6, none⟩ (.int .i64 0)).setCell ⟨w.heap.size + 1, 7, none⟩ (.bool false)).setCell ⟨w.heap.size + 1, 8, none⟩ (.int .i64 0)).setCell ⟨w.heap.size + 1, 9, none⟩ (.int .i64 0)).setCell ⟨w.heap.size + 1, 10, none⟩ (.slice none 0 0)) := (((((((((((Turn.set (S := fun i => i = w.heap.size + 1) _ _ _ _ rfl).trans (Turn.set _ _ _ _ rfl)).trans (Turn.set _ _ _ _ rfl)).trans (Turn.set _ _ _ _ rfl)).trans (Turn.set _ _ _ _ rfl)).trans (Turn.set _ _ _ _ rfl)).trans (Turn.set _ _ _ _ rfl)).trans (Turn.set _ _ _ _ rfl)).trans (Turn.set _ _ _ _ rfl)).trans (Turn.set _ _ _ _ rfl)).trans (Turn.set _ _ _ _ rfl))
    refine bodyPost_ret (v := .agg #[.int .i64 0, .slice (some ⟨g, 0, none⟩) 1 cap, .int .i64 0, .int .i64 0, .int .i64 0, .int .i64 0, .int .i64 0, .bool false, .int .i64 0, .int .i64 0, .slice none 0 0]) (by simp [results, Tryz.results30, go_sem, e0, e1, e2, e3, e4, e5, e6, e7, e8, e9, e10]) rfl ?_
    clear e0 e1 e2 e3 e4 e5 e6 e7 e8 e9 e10 s0 s1 s2 s3 s4 s5 s6 s7 s8 s9 s10
    obtain ⟨h1, h2, h3, h4⟩ := HG7.out
    have hb := ts.block g h2 (by omega)
    have hz := ts.size
    have hc9 := HC7.out.away ts hnew1 (fun l h => Bx.ne h HZ7.out (by decide) rfl)
    have ht9 := HT7.out.then ts (fun i hi e => by omega)
    have hg9 : w2.heap.size ≤ g := h1
    clear ts
    generalize (((((((((((w7.setCell ⟨w.heap.size + 1, 0, none⟩ (.int .i64 0)).setCell ⟨w.heap.size + 1, 1, none⟩ (.slice (some ⟨g, 0, none⟩) 1 cap)).setCell ⟨w.heap.size + 1, 2, none⟩ (.int .i64 0)).setCell ⟨w.heap.size + 1, 3, none⟩ (.int .i64 0)).setCell ⟨w.heap.size + 1, 4, none⟩ (.int .i64 0)).setCell ⟨w.heap.size + 1, 5, none⟩ (.int .i64 0)).setCell ⟨w.heap.size + 1, 6, none⟩ (.int .i64 0)).setCell ⟨w.heap.size + 1, 7, none⟩ (.bool false)).setCell ⟨w.heap.size + 1, 8, none⟩ (.int .i64 0)).setCell ⟨w.heap.size + 1, 9, none⟩ (.int .i64 0)).setCell ⟨w.heap.size + 1, 10, none⟩ (.slice none 0 0)) = w9 at *
    exact ⟨ii, bb, gm', js1, js', _, rfl, ⟨g, cap, rfl, by omega, by omega, (World.cell?_of_block (a := ⟨g, 0, none⟩) hb).trans h3, (World.cell?_of_block (a := ⟨g, 1, none⟩) hb).trans h4⟩, hc9, HSV.out, HRUN.out, ht9⟩
  · go_simp
    refine (cslot_any (HH1.out.below (bl_drew (bl0 _)).out) hl hrow hj ht0 ht1 hu).mono ?_
    rintro e w2 ⟨ii, bb, gm', js1, js', rfl, hc2, hsv, hrun, t2⟩
    have hs2 : u1.heap.size ≤ w2.heap.size := t2.size
    have HC2 := Lib.hid hc2
    have HR2 := Lib.hid ((HR1.out.below (bl_drew (bl0 _)).out).turn t2 (fun h => h hnew2))
    have HZ2 := Lib.hid ((HZ1.out.below (bl_drew (bl0 _)).out).turn t2 (fun h => h hnew1))
    have HM2 := Lib.hid ((HM1.out.below (bl_drew (bl0 _)).out).turn t2 (fun h => h hnew0))
    have HT2 := Lib.hid ((HT1.out.drew).trans t2)
    have HSV := Lib.hid hsv
    have HRUN := Lib.hid hrun
    clear c1
    have c1 := HR2.out.cell 1 rfl
    refine hK.out _ _ (trivial) (fun hHeld => ?_)
    clear hK KK
    clear hc2 hsv hrun t2
    try simp only [Act.put, pw]
    refine wpAnyH_ready (rs := [1, 4]) (by kernel_rfl) (by simp) (AllReadyH.cons rfl (fun KK hK => ?_) (AllReadyH.cons rfl (fun KK hK => ?_) AllReadyH.nil))
    · go_simp
      refine hK.out _ _ (trivial) (fun hHeld => ?_)
      clear hK KK
      try simp only [Act.put, pw]
      refine wpAnyH_ready (rs := [4]) (by kernel_rfl) (by simp) (AllReadyH.cons rfl (fun KK hK => ?_) AllReadyH.nil)
      go_simp
      have bA := (Below.refl w2.heap.size w2).alloc (Nat.le_refl _) (.cells #[.int .i64 ii, .bool bb] 51)
      have HSA := Lib.hid (Bx.new w2 [.int .i64 ii, .bool bb] 51)
      have HCA := Lib.hid (HC2.out.below bA)
      have HRA := Lib.hid (HR2.out.below bA)
      have HZA := Lib.hid (HZ2.out.below bA)
      have HMA := Lib.hid (HM2.out.below bA)
      have HTA := Lib.hid (HT2.out.trans (Turn.below bA))
      have hsA := bA.size
      clear bA c1
      have c1 := HRA.out.cell 1 rfl
      refine hK.out _ _ (trivial) (fun hHeld => ?_)
      clear hK KK
      generalize w2.alloc (.cells #[.int .i64 ii, .bool bb] 51) = wA at *
      try simp only [Act.put, pw]
      refine wpAnyH_ready (rs := [5]) (by kernel_rfl) (by simp) (AllReadyH.cons rfl (fun KK hK => ?_) AllReadyH.nil)
      refine wp_append_own _ _ _ 35 rfl wA.heap.size 51 i0 _ 2 16 Tryz.underlying35 hi hz0 hz1 hz2 rfl (by decide) (.slice none 0 0) 0 [] rfl (World.ownsRow_nil _ _ _ _) ⟨w2.heap.size, 0, none⟩ 1 1 [.int .i64 ii, .bool bb] rfl rfl (range_add HSA.out.range) (by simp [Value.oneCell']) (by unfold maxLen; omega) (by omega) (Nat.le_refl _) ?_
      intro v5 w5 ho5 hg5 _
      obtain ⟨g, cap, rfl, hgB, hgs, hg0, hg1⟩ := own_two ho5
      have b5 : Below wA.heap.size wA w5 := ⟨hg5.os, hg5.tape, hg5.output, hg5.size, fun k hk => hg5.block k hk (by simp [Value.ownBlock])⟩
      have HC5 := Lib.hid (HCA.out.below b5)
      have HR5 := Lib.hid (HRA.out.below b5)
      have HZ5 := Lib.hid (HZA.out.below b5)
      have HM5 := Lib.hid (HMA.out.below b5)
      have HT5 := Lib.hid (HTA.out.trans (Turn.below b5))
      have hsz5 := b5.size
      have HG := Lib.hid (And.intro hgB (And.intro hgs (And.intro hg0 hg1)))
      clear ho5 hg5 b5 hgB hgs hg0 hg1 c1
      refine hK.out _ _ (trivial) (fun hHeld => ?_)
      clear hK KK
      try simp only [Act.put, pw]
      refine wtk 6 36 (.pointer (some ⟨u0.heap.size, 1, none⟩)) rfl (by kernel_rfl) (fun _ _ _ h => h) (by rfl) (fun x hSw => by (go_simp) <;> first | decide | exact IntWalk.i64_in _ (by omega)) (by assumption) ?_
      try simp only [Act.put, pw]
      refine wpAnyH_ready (rs := [7]) (by kernel_rfl) (by simp) (AllReadyH.cons rfl (fun KK hK => ?_) AllReadyH.nil)
      go_simp
      have f1 := HR5.out.free 1
      have z1 := HR5.out.cell 1 rfl
      go_simp
      refine hK.out _ _ (trivial) (fun hHeld => ?_)
      clear hK KK
      try simp only [Act.put, pw]
      refine wpAnyH_done (by kernel_rfl) ?_ _
      have t7 : Turn (fun i => i = u0.heap.size) w5 (w5.setCell ⟨u0.heap.size, 1, none⟩ (.slice (some ⟨g, 0, none⟩) 1 cap)) := Turn.set _ _ _ _ rfl
      have s7 := HR5.out.set 1 (.slice (some ⟨g, 0, none⟩) 1 cap) _ rfl
      have HC7 := Lib.hid (HC5.out.away t7 hnew2 (fun l h => Bx.ne h HR5.out (by decide) rfl))
      have HZ7 := Lib.hid (HZ5.out.turn t7 (by omega))
      have HM7 := Lib.hid (HM5.out.turn t7 (by omega))
      have HR7 := Lib.hid s7
      have HT7 := Lib.hid (HT5.out.then t7 (fun i hi e => by omega))
      have HG7 := Lib.hid (show w2.heap.size ≤ g ∧ g < (w5.setCell ⟨u0.heap.size, 1, none⟩ (.slice (some ⟨g, 0, none⟩) 1 cap)).heap.size ∧ (w5.setCell ⟨u0.heap.size, 1, none⟩ (.slice (some ⟨g, 0, none⟩) 1 cap)).cell? ⟨g, 0, none⟩ = some (.int .i64 ii) ∧ (w5.setCell ⟨u0.heap.size, 1, none⟩ (.slice (some ⟨g, 0, none⟩) 1 cap)).cell? ⟨g, 1, none⟩ = some (.bool bb) from by
        obtain ⟨h1, h2, h3, h4⟩ := HG.out
        have hb := t7.block g h2 (by omega)
        exact ⟨by omega, by simp only [World.size_setCell]; exact h2, (World.cell?_of_block hb).trans h3, (World.cell?_of_block hb).trans h4⟩)
      clear t7 s7 HC5 HZ5 HM5 HR5 HT5 HG
      go_wp2_with fail
      generalize w5.setCell ⟨u0.heap.size, 1, none⟩ (.slice (some ⟨g, 0, none⟩) 1 cap) = w7 at *
      have z0 := HR7.out.cell 0 rfl
      have f0 := HZ7.out.free 0
      have y0 := HZ7.out.cell 0 rfl
      have z1 := HR7.out.cell 1 rfl
      have f1 := HZ7.out.free 1
      have y1 := HZ7.out.cell 1 rfl
      have z2 := HR7.out.cell 2 rfl
      have f2 := HZ7.out.free 2
      have y2 := HZ7.out.cell 2 rfl
      have z3 := HR7.out.cell 3 rfl
      have f3 := HZ7.out.free 3
      have y3 := HZ7.out.cell 3 rfl
      have z4 := HR7.out.cell 4 rfl
      have f4 := HZ7.out.free 4
      have y4 := HZ7.out.cell 4 rfl
      have z5 := HR7.out.cell 5 rfl
      have f5 := HZ7.out.free 5
      have y5 := HZ7.out.cell 5 rfl
      have z6 := HR7.out.cell 6 rfl
      have f6 := HZ7.out.free 6
      have y6 := HZ7.out.cell 6 rfl
      have z7 := HR7.out.cell 7 rfl
      have f7 := HZ7.out.free 7
      have y7 := HZ7.out.cell 7 rfl
      have z8 := HR7.out.cell 8 rfl
      have f8 := HZ7.out.free 8
      have y8 := HZ7.out.cell 8 rfl
      have z9 := HR7.out.cell 9 rfl
      have f9 := HZ7.out.free 9
      have y9 := HZ7.out.cell 9 rfl
      have z10 := HR7.out.cell 10 rfl
      have f10 := HZ7.out.free 10
      have y10 := HZ7.out.cell 10 rfl
      rw [rounds_succ]
      go_wp2_with fail
      have s0 := Bx.set (w := w7) HZ7.out 0 (.int .i64 0) _ rfl
      have s1 := Bx.set (w := _) s0 1 (.slice (some ⟨g, 0, none⟩) 1 cap) _ rfl
      have s2 := Bx.set (w := _) s1 2 (.int .i64 0) _ rfl
      have s3 := Bx.set (w := _) s2 3 (.int .i64 0) _ rfl
      have s4 := Bx.set (w := _) s3 4 (.int .i64 0) _ rfl
      have s5 := Bx.set (w := _) s4 5 (.int .i64 0) _ rfl
      have s6 := Bx.set (w := _) s5 6 (.int .i64 0) _ rfl
      have s7 := Bx.set (w := _) s6 7 (.bool false) _ rfl
      have s8 := Bx.set (w := _) s7 8 (.int .i64 0) _ rfl
      have s9 := Bx.set (w := _) s8 9 (.int .i64 0) _ rfl
      have s10 := Bx.set (w := _) s9 10 (.slice none 0 0) _ rfl
      have e0 := s10.cell 0 rfl
      have e1 := s10.cell 1 rfl
      have e2 := s10.cell 2 rfl
      have e3 := s10.cell 3 rfl
      have e4 := s10.cell 4 rfl
      have e5 := s10.cell 5 rfl
      have e6 := s10.cell 6 rfl
      have e7 := s10.cell 7 rfl
      have e8 := s10.cell 8 rfl
      have e9 := s10.cell 9 rfl
      have e10 := s10.cell 10 rfl
      have ts : Turn (fun i => i = w.heap.size + 1) w7 (((((((((((w7.setCell ⟨w.heap.size + 1, 0, none⟩ (.int .i64 0)).setCell ⟨w.heap.size + 1, 1, none⟩ (.slice (some ⟨g, 0, none⟩) 1 cap)).setCell ⟨w.heap.size + 1, 2, none⟩ (.int .i64 0)).setCell ⟨w.heap.size + 1, 3, none⟩ (.int .i64 0)).setCell ⟨w.heap.size + 1, 4, none⟩ (.int .i64 0)).setCell ⟨w.heap.size + 1, 5, none⟩ (.int .i64 0)).setCell ⟨w.heap.size + 1, 6, none⟩ (.int .i64 0)).setCell ⟨w.heap.size + 1, 7, none⟩ (.bool false)).setCell ⟨w.heap.size + 1, 8, none⟩ (.int .i64 0)).setCell ⟨w.heap.size + 1, 9, none⟩ (.int .i64 0)).setCell ⟨w.heap.size + 1, 10, none⟩ (.slice none 0 0)) := (((((((((((Turn.set (S := fun i => i = w.heap.size + 1) _ _ _ _ rfl).trans (Turn.set _ _ _ _ rfl)).trans (Turn.set _ _ _ _ rfl)).trans (Turn.set _ _ _ _ rfl)).trans (Turn.set _ _ _ _ rfl)).trans (Turn.set _ _ _ _ rfl)).trans (Turn.set _ _ _ _ rfl)).trans (Turn.set _ _ _ _ rfl)).trans (Turn.set _ _ _ _ rfl)).trans (Turn.set _ _ _ _ rfl)).trans (Turn.set _ _ _ _ rfl))
      refine bodyPost_ret (v := .agg #[.int .i64 0, .slice (some ⟨g, 0, none⟩) 1 cap, .int .i64 0, .int .i64 0, .int .i64 0, .int .i64 0, .int .i64 0, .bool false, .int .i64 0, .int .i64 0, .slice none 0 0]) (by simp [results, Tryz.results30, go_sem, e0, e1, e2, e3, e4, e5, e6, e7, e8, e9, e10]) rfl ?_
      clear e0 e1 e2 e3 e4 e5 e6 e7 e8 e9 e10 s0 s1 s2 s3 s4 s5 s6 s7 s8 s9 s10
      obtain ⟨h1, h2, h3, h4⟩ := HG7.out
      have hb := ts.block g h2 (by omega)
      have hz := ts.size
      have hc9 := HC7.out.away ts hnew1 (fun l h => Bx.ne h HZ7.out (by decide) rfl)
      have ht9 := HT7.out.then ts (fun i hi e => by omega)
      have hg9 : w2.heap.size ≤ g := h1
      clear ts
      generalize (((((((((((w7.setCell ⟨w.heap.size + 1, 0, none⟩ (.int .i64 0)).setCell ⟨w.heap.size + 1, 1, none⟩ (.slice (some ⟨g, 0, none⟩) 1 cap)).setCell ⟨w.heap.size + 1, 2, none⟩ (.int .i64 0)).setCell ⟨w.heap.size + 1, 3, none⟩ (.int .i64 0)).setCell ⟨w.heap.size + 1, 4, none⟩ (.int .i64 0)).setCell ⟨w.heap.size + 1, 5, none⟩ (.int .i64 0)).setCell ⟨w.heap.size + 1, 6, none⟩ (.int .i64 0)).setCell ⟨w.heap.size + 1, 7, none⟩ (.bool false)).setCell ⟨w.heap.size + 1, 8, none⟩ (.int .i64 0)).setCell ⟨w.heap.size + 1, 9, none⟩ (.int .i64 0)).setCell ⟨w.heap.size + 1, 10, none⟩ (.slice none 0 0)) = w9 at *
      exact ⟨ii, bb, gm', js1, js', _, rfl, ⟨g, cap, rfl, by omega, by omega, (World.cell?_of_block (a := ⟨g, 0, none⟩) hb).trans h3, (World.cell?_of_block (a := ⟨g, 1, none⟩) hb).trans h4⟩, hc9, HSV.out, HRUN.out, ht9⟩
    · go_simp
      have bA := (Below.refl w2.heap.size w2).alloc (Nat.le_refl _) (.cells #[.int .i64 ii, .bool bb] 51)
      have HSA := Lib.hid (Bx.new w2 [.int .i64 ii, .bool bb] 51)
      have HCA := Lib.hid (HC2.out.below bA)
      have HRA := Lib.hid (HR2.out.below bA)
      have HZA := Lib.hid (HZ2.out.below bA)
      have HMA := Lib.hid (HM2.out.below bA)
      have HTA := Lib.hid (HT2.out.trans (Turn.below bA))
      have hsA := bA.size
      clear bA c1
      have c1 := HRA.out.cell 1 rfl
      refine hK.out _ _ (trivial) (fun hHeld => ?_)
      clear hK KK
      generalize w2.alloc (.cells #[.int .i64 ii, .bool bb] 51) = wA at *
      try simp only [Act.put, pw]
      refine wpAnyH_ready (rs := [1]) (by kernel_rfl) (by simp) (AllReadyH.cons rfl (fun KK hK => ?_) AllReadyH.nil)
      go_simp
      refine hK.out _ _ (trivial) (fun hHeld => ?_)
      clear hK KK
      try simp only [Act.put, pw]
      refine wpAnyH_ready (rs := [5]) (by kernel_rfl) (by simp) (AllReadyH.cons rfl (fun KK hK => ?_) AllReadyH.nil)
      refine wp_append_own _ _ _ 35 rfl wA.heap.size 51 i0 _ 2 16 Tryz.underlying35 hi hz0 hz1 hz2 rfl (by decide) (.slice none 0 0) 0 [] rfl (World.ownsRow_nil _ _ _ _) ⟨w2.heap.size, 0, none⟩ 1 1 [.int .i64 ii, .bool bb] rfl rfl (range_add HSA.out.range) (by simp [Value.oneCell']) (by unfold maxLen; omega) (by omega) (Nat.le_refl _) ?_
      intro v5 w5 ho5 hg5 _
      obtain ⟨g, cap, rfl, hgB, hgs, hg0, hg1⟩ := own_two ho5
      have b5 : Below wA.heap.size wA w5 := ⟨hg5.os, hg5.tape, hg5.output, hg5.size, fun k hk => hg5.block k hk (by simp [Value.ownBlock])⟩
      have HC5 := Lib.hid (HCA.out.below b5)
      have HR5 := Lib.hid (HRA.out.below b5)
      have HZ5 := Lib.hid (HZA.out.below b5)
      have HM5 := Lib.hid (HMA.out.below b5)
      have HT5 := Lib.hid (HTA.out.trans (Turn.below b5))
      have hsz5 := b5.size
      have HG := Lib.hid (And.intro hgB (And.intro hgs (And.intro hg0 hg1)))
      clear ho5 hg5 b5 hgB hgs hg0 hg1 c1
      refine hK.out _ _ (trivial) (fun hHeld => ?_)
      clear hK KK
      try simp only [Act.put, pw]
      refine wtk 6 36 (.pointer (some ⟨u0.heap.size, 1, none⟩)) rfl (by kernel_rfl) (fun _ _ _ h => h) (by rfl) (fun x hSw => by (go_simp) <;> first | decide | exact IntWalk.i64_in _ (by omega)) (by assumption) ?_
      try simp only [Act.put, pw]
      refine wpAnyH_ready (rs := [7]) (by kernel_rfl) (by simp) (AllReadyH.cons rfl (fun KK hK => ?_) AllReadyH.nil)
      go_simp
      have f1 := HR5.out.free 1
      have z1 := HR5.out.cell 1 rfl
      go_simp
      refine hK.out _ _ (trivial) (fun hHeld => ?_)
      clear hK KK
      try simp only [Act.put, pw]
      refine wpAnyH_done (by kernel_rfl) ?_ _
      have t7 : Turn (fun i => i = u0.heap.size) w5 (w5.setCell ⟨u0.heap.size, 1, none⟩ (.slice (some ⟨g, 0, none⟩) 1 cap)) := Turn.set _ _ _ _ rfl
      have s7 := HR5.out.set 1 (.slice (some ⟨g, 0, none⟩) 1 cap) _ rfl
      have HC7 := Lib.hid (HC5.out.away t7 hnew2 (fun l h => Bx.ne h HR5.out (by decide) rfl))
      have HZ7 := Lib.hid (HZ5.out.turn t7 (by omega))
      have HM7 := Lib.hid (HM5.out.turn t7 (by omega))
      have HR7 := Lib.hid s7
      have HT7 := Lib.hid (HT5.out.then t7 (fun i hi e => by omega))
      have HG7 := Lib.hid (show w2.heap.size ≤ g ∧ g < (w5.setCell ⟨u0.heap.size, 1, none⟩ (.slice (some ⟨g, 0, none⟩) 1 cap)).heap.size ∧ (w5.setCell ⟨u0.heap.size, 1, none⟩ (.slice (some ⟨g, 0, none⟩) 1 cap)).cell? ⟨g, 0, none⟩ = some (.int .i64 ii) ∧ (w5.setCell ⟨u0.heap.size, 1, none⟩ (.slice (some ⟨g, 0, none⟩) 1 cap)).cell? ⟨g, 1, none⟩ = some (.bool bb) from by
        obtain ⟨h1, h2, h3, h4⟩ := HG.out
        have hb := t7.block g h2 (by omega)
        exact ⟨by omega, by simp only [World.size_setCell]; exact h2, (World.cell?_of_block hb).trans h3, (World.cell?_of_block hb).trans h4⟩)
      clear t7 s7 HC5 HZ5 HM5 HR5 HT5 HG
      go_wp2_with fail
      generalize w5.setCell ⟨u0.heap.size, 1, none⟩ (.slice (some ⟨g, 0, none⟩) 1 cap) = w7 at *
      have z0 := HR7.out.cell 0 rfl
      have f0 := HZ7.out.free 0
      have y0 := HZ7.out.cell 0 rfl
      have z1 := HR7.out.cell 1 rfl
      have f1 := HZ7.out.free 1
      have y1 := HZ7.out.cell 1 rfl
      have z2 := HR7.out.cell 2 rfl
      have f2 := HZ7.out.free 2
      have y2 := HZ7.out.cell 2 rfl
      have z3 := HR7.out.cell 3 rfl
      have f3 := HZ7.out.free 3
      have y3 := HZ7.out.cell 3 rfl
      have z4 := HR7.out.cell 4 rfl
      have f4 := HZ7.out.free 4
      have y4 := HZ7.out.cell 4 rfl
      have z5 := HR7.out.cell 5 rfl
      have f5 := HZ7.out.free 5
      have y5 := HZ7.out.cell 5 rfl
      have z6 := HR7.out.cell 6 rfl
      have f6 := HZ7.out.free 6
      have y6 := HZ7.out.cell 6 rfl
      have z7 := HR7.out.cell 7 rfl
      have f7 := HZ7.out.free 7
      have y7 := HZ7.out.cell 7 rfl
      have z8 := HR7.out.cell 8 rfl
      have f8 := HZ7.out.free 8
      have y8 := HZ7.out.cell 8 rfl
      have z9 := HR7.out.cell 9 rfl
      have f9 := HZ7.out.free 9
      have y9 := HZ7.out.cell 9 rfl
      have z10 := HR7.out.cell 10 rfl
      have f10 := HZ7.out.free 10
      have y10 := HZ7.out.cell 10 rfl
      rw [rounds_succ]
      go_wp2_with fail
      have s0 := Bx.set (w := w7) HZ7.out 0 (.int .i64 0) _ rfl
      have s1 := Bx.set (w := _) s0 1 (.slice (some ⟨g, 0, none⟩) 1 cap) _ rfl
      have s2 := Bx.set (w := _) s1 2 (.int .i64 0) _ rfl
      have s3 := Bx.set (w := _) s2 3 (.int .i64 0) _ rfl
      have s4 := Bx.set (w := _) s3 4 (.int .i64 0) _ rfl
      have s5 := Bx.set (w := _) s4 5 (.int .i64 0) _ rfl
      have s6 := Bx.set (w := _) s5 6 (.int .i64 0) _ rfl
      have s7 := Bx.set (w := _) s6 7 (.bool false) _ rfl
      have s8 := Bx.set (w := _) s7 8 (.int .i64 0) _ rfl
      have s9 := Bx.set (w := _) s8 9 (.int .i64 0) _ rfl
      have s10 := Bx.set (w := _) s9 10 (.slice none 0 0) _ rfl
      have e0 := s10.cell 0 rfl
      have e1 := s10.cell 1 rfl
      have e2 := s10.cell 2 rfl
      have e3 := s10.cell 3 rfl
      have e4 := s10.cell 4 rfl
      have e5 := s10.cell 5 rfl
      have e6 := s10.cell 6 rfl
      have e7 := s10.cell 7 rfl
      have e8 := s10.cell 8 rfl
      have e9 := s10.cell 9 rfl
      have e10 := s10.cell 10 rfl
      have ts : Turn (fun i => i = w.heap.size + 1) w7 (((((((((((w7.setCell ⟨w.heap.size + 1, 0, none⟩ (.int .i64 0)).setCell ⟨w.heap.size + 1, 1, none⟩ (.slice (some ⟨g, 0, none⟩) 1 cap)).setCell ⟨w.heap.size + 1, 2, none⟩ (.int .i64 0)).setCell ⟨w.heap.size + 1, 3, none⟩ (.int .i64 0)).setCell ⟨w.heap.size + 1, 4, none⟩ (.int .i64 0)).setCell ⟨w.heap.size + 1, 5, none⟩ (.int .i64 0)).setCell ⟨w.heap.size + 1, 6, none⟩ (.int .i64 0)).setCell ⟨w.heap.size + 1, 7, none⟩ (.bool false)).setCell ⟨w.heap.size + 1, 8, none⟩ (.int .i64 0)).setCell ⟨w.heap.size + 1, 9, none⟩ (.int .i64 0)).setCell ⟨w.heap.size + 1, 10, none⟩ (.slice none 0 0)) := (((((((((((Turn.set (S := fun i => i = w.heap.size + 1) _ _ _ _ rfl).trans (Turn.set _ _ _ _ rfl)).trans (Turn.set _ _ _ _ rfl)).trans (Turn.set _ _ _ _ rfl)).trans (Turn.set _ _ _ _ rfl)).trans (Turn.set _ _ _ _ rfl)).trans (Turn.set _ _ _ _ rfl)).trans (Turn.set _ _ _ _ rfl)).trans (Turn.set _ _ _ _ rfl)).trans (Turn.set _ _ _ _ rfl)).trans (Turn.set _ _ _ _ rfl))
      refine bodyPost_ret (v := .agg #[.int .i64 0, .slice (some ⟨g, 0, none⟩) 1 cap, .int .i64 0, .int .i64 0, .int .i64 0, .int .i64 0, .int .i64 0, .bool false, .int .i64 0, .int .i64 0, .slice none 0 0]) (by simp [results, Tryz.results30, go_sem, e0, e1, e2, e3, e4, e5, e6, e7, e8, e9, e10]) rfl ?_
      clear e0 e1 e2 e3 e4 e5 e6 e7 e8 e9 e10 s0 s1 s2 s3 s4 s5 s6 s7 s8 s9 s10
      obtain ⟨h1, h2, h3, h4⟩ := HG7.out
      have hb := ts.block g h2 (by omega)
      have hz := ts.size
      have hc9 := HC7.out.away ts hnew1 (fun l h => Bx.ne h HZ7.out (by decide) rfl)
      have ht9 := HT7.out.then ts (fun i hi e => by omega)
      have hg9 : w2.heap.size ≤ g := h1
      clear ts
      generalize (((((((((((w7.setCell ⟨w.heap.size + 1, 0, none⟩ (.int .i64 0)).setCell ⟨w.heap.size + 1, 1, none⟩ (.slice (some ⟨g, 0, none⟩) 1 cap)).setCell ⟨w.heap.size + 1, 2, none⟩ (.int .i64 0)).setCell ⟨w.heap.size + 1, 3, none⟩ (.int .i64 0)).setCell ⟨w.heap.size + 1, 4, none⟩ (.int .i64 0)).setCell ⟨w.heap.size + 1, 5, none⟩ (.int .i64 0)).setCell ⟨w.heap.size + 1, 6, none⟩ (.int .i64 0)).setCell ⟨w.heap.size + 1, 7, none⟩ (.bool false)).setCell ⟨w.heap.size + 1, 8, none⟩ (.int .i64 0)).setCell ⟨w.heap.size + 1, 9, none⟩ (.int .i64 0)).setCell ⟨w.heap.size + 1, 10, none⟩ (.slice none 0 0)) = w9 at *
      exact ⟨ii, bb, gm', js1, js', _, rfl, ⟨g, cap, rfl, by omega, by omega, (World.cell?_of_block (a := ⟨g, 0, none⟩) hb).trans h3, (World.cell?_of_block (a := ⟨g, 1, none⟩) hb).trans h4⟩, hc9, HSV.out, HRUN.out, ht9⟩
end
end Go.Proofs.YtoichcickcgbgaaGreatDoor
