/-
  A table with one row more.
-/
import Derived.Test.YtoichcickcgbgaaGreatDoorGPtCc
import Derived.Deep.RegionHeld3
namespace Go.Proofs.YtoichcickcgbgaaGreatDoor
open Go.RowKit
attribute [local go_sem] Oper.semAt_some
/-- What append of nothing leaves: the slice itself. -/
theorem sl_cut {g cap : Nat} (hc : 1 ≤ cap) (w : World) : (Instr.slice 77 (.slice (some ⟨g, 0, none⟩) 1 cap) none (some (.int .i64 1)) (some (.int .i64 1))).run Tryz.prog w = .ok (.slice (some ⟨g, 0, none⟩) 1 1) w := by
  have h1 : ¬ (cap : Int) < 1 := by omega
  simp [Instr.slice, go_sem, h1]
theorem sl_rest {g cap : Nat} (w : World) : (Instr.slice 77 (.slice (some ⟨g, 0, none⟩) 1 cap) (some (.int .i64 1)) none none).run Tryz.prog w = .ok (.slice (some (if cap = 1 then ⟨g, 0, none⟩ else ⟨g, 6, none⟩)) 0 (cap - 1)) w := by
  simp [Instr.slice, go_sem]
  split <;> rfl
set_option maxRecDepth 100000 in
set_option maxHeartbeats 1000000 in
theorem concat_2 {w : World} {s ga h c : Nat} {ad : Addr} {a x : Rk} (h0 : w.cell? ⟨s, 0, none⟩ = some (.slice (some ⟨ga, 0, none⟩) 1 1)) (h1 : w.cell? ⟨s, 1, none⟩ = some (.slice (some ⟨h, 0, none⟩) 1 1)) (h2 : w.cell? ⟨s, 2, none⟩ = some (.slice (some ad) 0 c)) (hs : s < w.heap.size) (hra : w.rangeAt ga 0 (rc a)) (hga : ga < w.heap.size) (hr : w.rangeAt h 0 (rc x)) (hh : h < w.heap.size) :
    Calls Tryz.prog 179 #[.slice (some ⟨s, 0, none⟩) 3 3] w fun e w' => ∃ v, e = .returned v ∧ Sx rc w' v [a, x] ∧ (∀ g, v.ownBlock = some g → w.heap.size ≤ g) ∧ Below w.heap.size w w' := by
  have HR := Lib.hid hr
  have HA := Lib.hid hra
  have Hs := Lib.hid (show ∀ x, Below w.heap.size w x → x.cell? ⟨s, 0, none⟩ = some (.slice (some ⟨ga, 0, none⟩) 1 1) ∧ x.cell? ⟨s, 1, none⟩ = some (.slice (some ⟨h, 0, none⟩) 1 1) ∧ x.cell? ⟨s, 2, none⟩ = some (.slice (some ad) 0 c) from fun x hx => ⟨(World.cell?_of_block (hx.block s hs)).trans h0, (World.cell?_of_block (hx.block s hs)).trans h1, (World.cell?_of_block (hx.block s hs)).trans h2⟩)
  clear hr hra
  go_enter Tryz.func179, Tryz.ntmps179
  go_wp2_with fail
  refine wp_loop_rounds 4 ?_
  rw [rounds_succ]
  go_wp2_with fail
  rw [rounds_succ]
  go_wp2_with fail
  rw [rounds_succ]
  go_wp2_with fail
  rw [rounds_succ]
  go_wp2_with fail
  refine (grow_row 2 (by omega) (by omega) _).mono ?_
  rintro e w1 ⟨v, rfl, ho, hne, b1⟩
  obtain ⟨h0, h1, h2⟩ := Hs.out w1 b1
  obtain ⟨k, cp, rfl⟩ : ∃ k cp, v = .slice (some ⟨k, 0, none⟩) 0 cp := by
    rcases ho.2 with ⟨h, _⟩ | ⟨g, cap, cur, h, _⟩
    · exact absurd h hne
    · exact ⟨g, cap, h⟩
  have QA := Lib.hid (rangeAt_block HA.out (b1.block ga hga))
  have B1 := Lib.hid b1
  have HO := Lib.hid ho
  clear hne b1 ho
  obtain ⟨i0, hi, hz0, hz1, hz2⟩ := info_parts info37
  go_wp2_with fail
  refine wp_loop_rounds 4 ?_
  rw [rounds_succ]
  go_wp2_with (at_builtin; go_loud (refine wpList_append_own _ rfl _ _ 77 rfl w.heap.size 37 i0 _ 6 48 Tryz.underlying77 hi hz0 hz1 hz2 rfl (by decide) _ 0 [] rfl HO.out ⟨ga, 0, none⟩ 1 1 (rc a) rfl rfl (range_add QA.out) (by simpa using rc_one [a]) (by unfold maxLen; omega) (by omega) B1.out.size ?_))
  intro v2 w2 ho2 hg2 _
  have b2 : Below w.heap.size w w2 := B1.out.grown hg2 B1.out.size fun j hj => by
    have : k = j := by simpa [Value.ownBlock] using hj
    exact this ▸ own_fresh HO.out k rfl
  obtain ⟨k2, cp2, rfl⟩ := ownsRow_succ ho2
  obtain ⟨h0, h1, h2⟩ := Hs.out w2 b2
  have QX := Lib.hid (rangeAt_block HR.out (b2.block h hh))
  have B2 := Lib.hid b2
  have HO2 := Lib.hid ho2
  clear b2 ho2 hg2 QA
  go_wp2_with fail
  rw [rounds_succ]
  go_wp2_with (at_builtin; go_loud (refine wpList_append_own _ rfl _ _ 77 rfl w.heap.size 37 i0 _ 6 48 Tryz.underlying77 hi hz0 hz1 hz2 rfl (by decide) _ 1 _ rfl HO2.out ⟨h, 0, none⟩ 1 1 (rc x) rfl rfl (range_add QX.out) (by simpa using rc_one [x]) (by unfold maxLen; omega) (by omega) B2.out.size ?_))
  intro v3 w3 ho3 hg3 _
  have b3 : Below w.heap.size w w3 := B2.out.grown hg3 B2.out.size fun j hj => by
    have : k2 = j := by simpa [Value.ownBlock] using hj
    exact this ▸ own_fresh HO2.out k2 rfl
  obtain ⟨k3, cp3, rfl⟩ := ownsRow_succ ho3
  obtain ⟨h0, h1, h2⟩ := Hs.out w3 b3
  have B3 := Lib.hid b3
  have HO3 := Lib.hid ho3
  clear b3 ho3 hg3 QX
  go_wp2_with fail
  rw [rounds_succ]
  go_wp2_with (at_builtin; go_loud (refine wpList_append_own _ rfl _ _ 77 rfl w.heap.size 37 i0 _ 6 48 Tryz.underlying77 hi hz0 hz1 hz2 rfl (by decide) _ 2 _ rfl HO3.out ad 0 c [] rfl rfl (fun j u h => by simp at h) (by simp) (by unfold maxLen; omega) (by omega) B3.out.size ?_))
  intro v4 w4 ho4 hg4 _
  have b4 : Below w.heap.size w w4 := B3.out.grown hg4 B3.out.size fun j hj => by
    have : k3 = j := by simpa [Value.ownBlock] using hj
    exact this ▸ own_fresh HO3.out k3 rfl
  have B4 := Lib.hid b4
  have HO4 := Lib.hid ho4
  clear b4 ho4 hg4
  go_wp2_with fail
  rw [rounds_succ]
  go_wp2_with fail
  go_ret
  exact ⟨_, rfl, Sx.of_own (f := rc) (xs := [a, x]) (by simpa using HO4.out) rfl, own_fresh HO4.out, B4.out⟩
theorem tkeep2 {F : Nat → Prop} {w : World} {C : World → Prop} (K : Hid (∀ x, Hid (Turn F w x) → C x)) {x : World} (h : Hid (Turn F w x)) : C x ∧ Hid (Turn F w x) := ⟨K.out x h, h⟩
set_option maxRecDepth 100000 in
set_option maxHeartbeats 1000000 in
theorem with_0 {w : World} {h : Nat} {x : Rk} (hr : w.rangeAt h 0 (rc x)) (hh : h < w.heap.size) :
    Calls Tryz.prog 131 #[.agg #[.slice none 0 0, .int .i64 0], .int .i64 0, .int .i64 0, .slice (some ⟨h, 0, none⟩) 1 1] w fun e w' => ∃ v, e = .returned (.agg #[v, .int .i64 0]) ∧ Sx rc w' v [x] ∧ (∀ g, v.ownBlock = some g → w.heap.size ≤ g) ∧ Below w.heap.size w w' := by
  have bb := ((Below.refl w.heap.size w).alloc (Nat.le_refl _) (.cells #[.slice none 0 0, .int .i64 0] 79)).alloc (by simp) (.cells #[.slice none 0 0, .int .i64 0] 79)
  have T0 := Lib.hid ((Bx.new w [.slice none 0 0, .int .i64 0] 79).more (.cells #[.slice none 0 0, .int .i64 0] 79))
  have Z0 := Lib.hid (Bx.new (w.alloc (.cells #[.slice none 0 0, .int .i64 0] 79)) [.slice none 0 0, .int .i64 0] 79)
  rw [World.size_alloc] at Z0
  have hz := bb.size
  have hs0 : w.heap.size + 2 ≤ ((w.alloc (.cells #[.slice none 0 0, .int .i64 0] 79)).alloc (.cells #[.slice none 0 0, .int .i64 0] 79)).heap.size := by simp
  have HX0 := Lib.hid (rangeAt_block hr (bb.block h hh))
  have slc : True := trivial
  have slr : True := trivial
  have BB := Lib.hid bb
  clear bb hr
  go_enter Tryz.func131, Tryz.ntmps131
  go_wp2_with fail
  generalize (w.alloc (.cells #[.slice none 0 0, .int .i64 0] 79)).alloc (.cells #[.slice none 0 0, .int .i64 0] 79) = w0 at *
  have HT0 : Hid (Turn (fun k => k = w.heap.size + 1) w0 w0.drew) := (Turn.refl _ _).drew
  have KC : Hid (∀ y, Hid (Turn (fun k => k = w.heap.size + 1) w0 y) → (y.cell? ⟨w.heap.size, 0, none⟩ = some (.slice none 0 0) ∧ y.cell? ⟨w.heap.size, 1, none⟩ = some (.int .i64 0))) := fun y h => ⟨(T0.out.turn h.out (by omega)).cell 0 rfl, (T0.out.turn h.out (by omega)).cell 1 rfl⟩
  have bn : Below w0.heap.size w0 (w0.alloc (.cells #[.slice none 0 0, .slice (some ⟨h, 0, none⟩) 1 1, .slice none 0 0] 77)).drew := ((Below.refl w0.heap.size w0).alloc (Nat.le_refl _) _).drew
  have HT1 : Hid (Turn (fun k => k = w.heap.size + 1) w0 (w0.alloc (.cells #[.slice none 0 0, .slice (some ⟨h, 0, none⟩) 1 1, .slice none 0 0] 77)).drew) := Turn.below bn
  have NB : Hid (Bx (w0.alloc (.cells #[.slice none 0 0, .slice (some ⟨h, 0, none⟩) 1 1, .slice none 0 0] 77)).drew w0.heap.size 77 [.slice none 0 0, .slice (some ⟨h, 0, none⟩) 1 1, .slice none 0 0]) := Bx.new w0 [.slice none 0 0, .slice (some ⟨h, 0, none⟩) 1 1, .slice none 0 0] 77
  have NZ := Lib.hid (Z0.out.below bn)
  have HX1 := Lib.hid (rangeAt_block HX0.out (bn.block h (by omega)))
  have hh1 : h < (w0.alloc (.cells #[.slice none 0 0, .slice (some ⟨h, 0, none⟩) 1 1, .slice none 0 0] 77)).drew.heap.size := Nat.lt_of_lt_of_le hh (by have := bn.size; omega)
  have hbn := bn.size
  clear bn
  refine wp_region_held_drew (S := fun y => (y.cell? ⟨w.heap.size, 0, none⟩ = some (.slice none 0 0) ∧ y.cell? ⟨w.heap.size, 1, none⟩ = some (.int .i64 0)) ∧ Hid (Turn (fun k => k = w.heap.size + 1) w0 y)) (by kernel_rfl) (tkeep2 KC HT0) (fun hHeld => ?_)
  refine wtk 0 9 (.pointer (some ⟨w.heap.size, 0, none⟩)) rfl (by kernel_rfl) (fun _ _ _ h => h) (by rfl) (fun x hSw => by obtain ⟨⟨d0, d1⟩, _⟩ := id hSw; (go_simp) <;> first | decide) (by assumption) ?_
  try simp only [Act.put, pw]
  refine wtk 1 10 (.slice none 0 0) rfl (by kernel_rfl) (fun _ _ _ h => h) (by rfl) (fun x hSw => by obtain ⟨⟨d0, d1⟩, _⟩ := id hSw; (go_simp) <;> first | decide) (by assumption) ?_
  try simp only [Act.put, pw]
  refine wtk 2 11 (.int .i64 0) rfl (by kernel_rfl) (fun _ _ _ h => h) (by rfl) (fun x hSw => by obtain ⟨⟨d0, d1⟩, _⟩ := id hSw; (go_simp) <;> first | decide) (by assumption) ?_
  try simp only [Act.put, pw]
  refine wtk 3 12 (.int .i64 0) rfl (by kernel_rfl) (fun _ _ _ h => h) (by rfl) (fun x hSw => by obtain ⟨⟨d0, d1⟩, _⟩ := id hSw; (go_simp) <;> first | decide) (by assumption) ?_
  try simp only [Act.put, pw]
  refine wtk 4 13 (.slice none 0 0) rfl (by kernel_rfl) (fun _ _ _ h => h) (by rfl) (fun x hSw => by obtain ⟨⟨d0, d1⟩, _⟩ := id hSw; (go_simp) <;> first | decide) (by assumption) ?_
  try simp only [Act.put, pw]
  refine wtk 5 14 (.slice (some ⟨h, 0, none⟩) 1 1) rfl (by kernel_rfl) (fun _ _ _ h => h) (by rfl) (fun x hSw => by obtain ⟨⟨d0, d1⟩, _⟩ := id hSw; (go_simp) <;> first | decide) (by assumption) ?_
  try simp only [Act.put, pw]
  refine wtk 6 15 (.pointer (some ⟨w.heap.size, 0, none⟩)) rfl (by kernel_rfl) (fun _ _ _ h => h) (by rfl) (fun x hSw => by obtain ⟨⟨d0, d1⟩, _⟩ := id hSw; (go_simp) <;> first | decide) (by assumption) ?_
  try simp only [Act.put, pw]
  refine wtk 7 16 (.slice none 0 0) rfl (by kernel_rfl) (fun _ _ _ h => h) (by rfl) (fun x hSw => by obtain ⟨⟨d0, d1⟩, _⟩ := id hSw; (go_simp) <;> first | decide) (by assumption) ?_
  try simp only [Act.put, pw]
  refine wtk 8 17 (.int .i64 0) rfl (by kernel_rfl) (fun _ _ _ h => h) (by rfl) (fun x hSw => by obtain ⟨⟨d0, d1⟩, _⟩ := id hSw; (go_simp) <;> first | decide) (by assumption) ?_
  try simp only [Act.put, pw]
  refine wtk 9 18 (.slice none 0 0) rfl (by kernel_rfl) (fun _ _ _ h => h) (by rfl) (fun x hSw => by obtain ⟨⟨d0, d1⟩, _⟩ := id hSw; (go_simp) <;> first | decide) (by assumption) ?_
  try simp only [Act.put, pw]
  refine wtk 12 21 (.pointer (some ⟨w.heap.size, 1, none⟩)) rfl (by kernel_rfl) (fun _ _ _ h => h) (by rfl) (fun x hSw => by obtain ⟨⟨d0, d1⟩, _⟩ := id hSw; (go_simp) <;> first | decide) (by assumption) ?_
  try simp only [Act.put, pw]
  refine wtk 13 22 (.int .i64 0) rfl (by kernel_rfl) (fun _ _ _ h => h) (by rfl) (fun x hSw => by obtain ⟨⟨d0, d1⟩, _⟩ := id hSw; (go_simp) <;> first | decide) (by assumption) ?_
  try simp only [Act.put, pw]
  refine wpAnyH_ready (rs := [10]) (by kernel_rfl) (by simp) (AllReadyH.cons rfl (fun K hK => ?_) AllReadyH.nil)
  go_simp
  refine hK.out _ _ (tkeep2 KC HT1) (fun hHeld => ?_)
  clear hK K
  try simp only [Act.put, pw]
  refine wpAnyH_ready (rs := [11]) (by kernel_rfl) (by simp) (AllReadyH.cons rfl (fun K hK => ?_) AllReadyH.nil)
  go_simp
  refine (concat_1 ((NB.out).cell 0 rfl) (NB.out.cell 1 rfl) (NB.out.cell 2 rfl) NB.out.lt HX1.out hh1).mono ?_
  rintro e y2 ⟨v2, rfl, hS2, hf2, b2⟩
  obtain ⟨k2, cp2, rfl, _⟩ := hS2.one
  have HT2 : Hid (Turn (fun k => k = w.heap.size + 1) w0 y2) := HT1.out.then (Turn.below (S := fun _ => False) b2) fun _ _ h => h.elim
  have HZ2 := Lib.hid (NZ.out.below b2)
  have HS2 := Lib.hid hS2
  have HF2 := Lib.hid hf2
  have hz2 := b2.size
  refine hK.out _ _ (tkeep2 KC HT2) (fun hHeld => ?_)
  clear hK K
  clear hS2 hf2 b2
  try simp only [Act.put, pw]
  refine wtk 14 23 (.agg #[.slice (some ⟨k2, 0, none⟩) 1 cp2, .int .i64 0]) rfl (by kernel_rfl) (fun _ _ _ h => h) (by rfl) (fun x hSw => by obtain ⟨⟨d0, d1⟩, _⟩ := id hSw; (go_simp) <;> first | decide) (by assumption) ?_
  try simp only [Act.put, pw]
  have z0 := HZ2.out.cell 0 rfl
  have z1 := HZ2.out.cell 1 rfl
  have fz0 := HZ2.out.free 0
  have fz1 := HZ2.out.free 1
  refine wpAnyH_ready (rs := [15]) (by kernel_rfl) (by simp) (AllReadyH.cons rfl (fun K hK => ?_) AllReadyH.nil)
  go_simp
  have HT3 : Hid (Turn (fun k => k = w.heap.size + 1) w0 ((y2.setCell ⟨w.heap.size + 1, 0, none⟩ (.slice (some ⟨k2, 0, none⟩) 1 cp2)).setCell ⟨w.heap.size + 1, 1, none⟩ (.int .i64 0))) := HT2.out.trans ((Turn.set (S := (fun k => k = w.heap.size + 1)) y2 (w.heap.size + 1) _ _ rfl).trans (Turn.set (S := (fun k => k = w.heap.size + 1)) _ (w.heap.size + 1) _ _ rfl))
  refine hK.out _ _ (tkeep2 KC HT3) (fun hHeld => ?_)
  clear hK K
  try simp only [Act.put, pw]
  refine wpAnyH_done (by kernel_rfl) ?_ _
  clear hHeld KC z0 z1 fz0 fz1
  go_wp2_with fail
  have R1 := (HZ2.out.set 0 (.slice (some ⟨k2, 0, none⟩) 1 cp2) [.slice (some ⟨k2, 0, none⟩) 1 cp2, .int .i64 0] rfl).set 1 (.int .i64 0) _ rfl
  have e0 := R1.cell 0 rfl
  have e1 := R1.cell 1 rfl
  have tt : Turn (fun k => k = w.heap.size + 1) y2 ((y2.setCell ⟨w.heap.size + 1, 0, none⟩ (.slice (some ⟨k2, 0, none⟩) 1 cp2)).setCell ⟨w.heap.size + 1, 1, none⟩ (.int .i64 0)) := (Turn.set (S := (fun k => k = w.heap.size + 1)) y2 (w.heap.size + 1) _ _ rfl).trans (Turn.set (S := (fun k => k = w.heap.size + 1)) _ (w.heap.size + 1) _ _ rfl)
  refine bodyPost_ret (v := .agg #[.slice (some ⟨k2, 0, none⟩) 1 cp2, .int .i64 0]) (by simp [results, Tryz.results131, go_sem, e0, e1]) rfl ⟨_, rfl, HS2.out.turn tt fun k hk hl => ?_, fun k hk => ?_, ?_⟩
  · have := HF2.out k hk; omega
  · have := HF2.out k hk; omega
  · exact HT3.out.to BB.out (by omega) fun k hk => by omega
set_option maxRecDepth 100000 in
set_option maxHeartbeats 1000000 in
theorem with_1 {w : World} {g cap : Nat} {a : Rk} {h : Nat} {x : Rk} (hcap : 1 ≤ cap) (hra : w.rangeAt g 0 (rc a)) (hga : g < w.heap.size) (hr : w.rangeAt h 0 (rc x)) (hh : h < w.heap.size) :
    Calls Tryz.prog 131 #[.agg #[.slice (some ⟨g, 0, none⟩) 1 cap, .int .i64 0], .int .i64 1, .int .i64 1, .slice (some ⟨h, 0, none⟩) 1 1] w fun e w' => ∃ v, e = .returned (.agg #[v, .int .i64 0]) ∧ Sx rc w' v [a, x] ∧ (∀ g, v.ownBlock = some g → w.heap.size ≤ g) ∧ Below w.heap.size w w' := by
  have bb := ((Below.refl w.heap.size w).alloc (Nat.le_refl _) (.cells #[.slice (some ⟨g, 0, none⟩) 1 cap, .int .i64 0] 79)).alloc (by simp) (.cells #[.slice none 0 0, .int .i64 0] 79)
  have T0 := Lib.hid ((Bx.new w [.slice (some ⟨g, 0, none⟩) 1 cap, .int .i64 0] 79).more (.cells #[.slice none 0 0, .int .i64 0] 79))
  have Z0 := Lib.hid (Bx.new (w.alloc (.cells #[.slice (some ⟨g, 0, none⟩) 1 cap, .int .i64 0] 79)) [.slice none 0 0, .int .i64 0] 79)
  rw [World.size_alloc] at Z0
  have hz := bb.size
  have hs0 : w.heap.size + 2 ≤ ((w.alloc (.cells #[.slice (some ⟨g, 0, none⟩) 1 cap, .int .i64 0] 79)).alloc (.cells #[.slice none 0 0, .int .i64 0] 79)).heap.size := by simp
  have HX0 := Lib.hid (rangeAt_block hr (bb.block h hh))
  have HA0 := Lib.hid (rangeAt_block hra (bb.block g hga))
  have slc := sl_cut (g := g) hcap
  obtain ⟨ad, cq, slr⟩ : ∃ ad cq, ∀ w, (Instr.slice 77 (.slice (some ⟨g, 0, none⟩) 1 cap) (some (.int .i64 1)) none none).run Tryz.prog w = .ok (.slice (some ad) 0 cq) w := ⟨_, _, sl_rest⟩
  clear hra
  have BB := Lib.hid bb
  clear bb hr
  go_enter Tryz.func131, Tryz.ntmps131
  go_wp2_with fail
  generalize (w.alloc (.cells #[.slice (some ⟨g, 0, none⟩) 1 cap, .int .i64 0] 79)).alloc (.cells #[.slice none 0 0, .int .i64 0] 79) = w0 at *
  have HT0 : Hid (Turn (fun k => k = w.heap.size + 1) w0 w0.drew) := (Turn.refl _ _).drew
  have KC : Hid (∀ y, Hid (Turn (fun k => k = w.heap.size + 1) w0 y) → (y.cell? ⟨w.heap.size, 0, none⟩ = some (.slice (some ⟨g, 0, none⟩) 1 cap) ∧ y.cell? ⟨w.heap.size, 1, none⟩ = some (.int .i64 0))) := fun y h => ⟨(T0.out.turn h.out (by omega)).cell 0 rfl, (T0.out.turn h.out (by omega)).cell 1 rfl⟩
  have bn : Below w0.heap.size w0 (w0.alloc (.cells #[.slice (some ⟨g, 0, none⟩) 1 1, .slice (some ⟨h, 0, none⟩) 1 1, .slice (some ad) 0 cq] 77)).drew := ((Below.refl w0.heap.size w0).alloc (Nat.le_refl _) _).drew
  have HT1 : Hid (Turn (fun k => k = w.heap.size + 1) w0 (w0.alloc (.cells #[.slice (some ⟨g, 0, none⟩) 1 1, .slice (some ⟨h, 0, none⟩) 1 1, .slice (some ad) 0 cq] 77)).drew) := Turn.below bn
  have NB : Hid (Bx (w0.alloc (.cells #[.slice (some ⟨g, 0, none⟩) 1 1, .slice (some ⟨h, 0, none⟩) 1 1, .slice (some ad) 0 cq] 77)).drew w0.heap.size 77 [.slice (some ⟨g, 0, none⟩) 1 1, .slice (some ⟨h, 0, none⟩) 1 1, .slice (some ad) 0 cq]) := Bx.new w0 [.slice (some ⟨g, 0, none⟩) 1 1, .slice (some ⟨h, 0, none⟩) 1 1, .slice (some ad) 0 cq] 77
  have NZ := Lib.hid (Z0.out.below bn)
  have HX1 := Lib.hid (rangeAt_block HX0.out (bn.block h (by omega)))
  have hh1 : h < (w0.alloc (.cells #[.slice (some ⟨g, 0, none⟩) 1 1, .slice (some ⟨h, 0, none⟩) 1 1, .slice (some ad) 0 cq] 77)).drew.heap.size := Nat.lt_of_lt_of_le hh (by have := bn.size; omega)
  have HA1 := Lib.hid (rangeAt_block HA0.out (bn.block g (by omega)))
  have hga1 : g < (w0.alloc (.cells #[.slice (some ⟨g, 0, none⟩) 1 1, .slice (some ⟨h, 0, none⟩) 1 1, .slice (some ad) 0 cq] 77)).drew.heap.size := Nat.lt_of_lt_of_le hga (by have := bn.size; omega)
  have hbn := bn.size
  clear bn
  refine wp_region_held_drew (S := fun y => (y.cell? ⟨w.heap.size, 0, none⟩ = some (.slice (some ⟨g, 0, none⟩) 1 cap) ∧ y.cell? ⟨w.heap.size, 1, none⟩ = some (.int .i64 0)) ∧ Hid (Turn (fun k => k = w.heap.size + 1) w0 y)) (by kernel_rfl) (tkeep2 KC HT0) (fun hHeld => ?_)
  refine wtk 0 9 (.pointer (some ⟨w.heap.size, 0, none⟩)) rfl (by kernel_rfl) (fun _ _ _ h => h) (by rfl) (fun x hSw => by obtain ⟨⟨d0, d1⟩, _⟩ := id hSw; (go_simp) <;> first | exact slc _ | exact slr _) (by assumption) ?_
  try simp only [Act.put, pw]
  refine wtk 1 10 (.slice (some ⟨g, 0, none⟩) 1 cap) rfl (by kernel_rfl) (fun _ _ _ h => h) (by rfl) (fun x hSw => by obtain ⟨⟨d0, d1⟩, _⟩ := id hSw; (go_simp) <;> first | exact slc _ | exact slr _) (by assumption) ?_
  try simp only [Act.put, pw]
  refine wtk 2 11 (.int .i64 1) rfl (by kernel_rfl) (fun _ _ _ h => h) (by rfl) (fun x hSw => by obtain ⟨⟨d0, d1⟩, _⟩ := id hSw; (go_simp) <;> first | exact slc _ | exact slr _) (by assumption) ?_
  try simp only [Act.put, pw]
  refine wtk 3 12 (.int .i64 1) rfl (by kernel_rfl) (fun _ _ _ h => h) (by rfl) (fun x hSw => by obtain ⟨⟨d0, d1⟩, _⟩ := id hSw; (go_simp) <;> first | exact slc _ | exact slr _) (by assumption) ?_
  try simp only [Act.put, pw]
  refine wtk 4 13 (.slice (some ⟨g, 0, none⟩) 1 1) rfl (by kernel_rfl) (fun _ _ _ h => h) (by rfl) (fun x hSw => by obtain ⟨⟨d0, d1⟩, _⟩ := id hSw; (go_simp) <;> first | exact slc _ | exact slr _) (by assumption) ?_
  try simp only [Act.put, pw]
  refine wtk 5 14 (.slice (some ⟨h, 0, none⟩) 1 1) rfl (by kernel_rfl) (fun _ _ _ h => h) (by rfl) (fun x hSw => by obtain ⟨⟨d0, d1⟩, _⟩ := id hSw; (go_simp) <;> first | exact slc _ | exact slr _) (by assumption) ?_
  try simp only [Act.put, pw]
  refine wtk 6 15 (.pointer (some ⟨w.heap.size, 0, none⟩)) rfl (by kernel_rfl) (fun _ _ _ h => h) (by rfl) (fun x hSw => by obtain ⟨⟨d0, d1⟩, _⟩ := id hSw; (go_simp) <;> first | exact slc _ | exact slr _) (by assumption) ?_
  try simp only [Act.put, pw]
  refine wtk 7 16 (.slice (some ⟨g, 0, none⟩) 1 cap) rfl (by kernel_rfl) (fun _ _ _ h => h) (by rfl) (fun x hSw => by obtain ⟨⟨d0, d1⟩, _⟩ := id hSw; (go_simp) <;> first | exact slc _ | exact slr _) (by assumption) ?_
  try simp only [Act.put, pw]
  refine wtk 8 17 (.int .i64 1) rfl (by kernel_rfl) (fun _ _ _ h => h) (by rfl) (fun x hSw => by obtain ⟨⟨d0, d1⟩, _⟩ := id hSw; (go_simp) <;> first | exact slc _ | exact slr _) (by assumption) ?_
  try simp only [Act.put, pw]
  refine wtk 9 18 (.slice (some ad) 0 cq) rfl (by kernel_rfl) (fun _ _ _ h => h) (by rfl) (fun x hSw => by obtain ⟨⟨d0, d1⟩, _⟩ := id hSw; (go_simp) <;> first | exact slc _ | exact slr _) (by assumption) ?_
  try simp only [Act.put, pw]
  refine wtk 12 21 (.pointer (some ⟨w.heap.size, 1, none⟩)) rfl (by kernel_rfl) (fun _ _ _ h => h) (by rfl) (fun x hSw => by obtain ⟨⟨d0, d1⟩, _⟩ := id hSw; (go_simp) <;> first | exact slc _ | exact slr _) (by assumption) ?_
  try simp only [Act.put, pw]
  refine wtk 13 22 (.int .i64 0) rfl (by kernel_rfl) (fun _ _ _ h => h) (by rfl) (fun x hSw => by obtain ⟨⟨d0, d1⟩, _⟩ := id hSw; (go_simp) <;> first | exact slc _ | exact slr _) (by assumption) ?_
  try simp only [Act.put, pw]
  refine wpAnyH_ready (rs := [10]) (by kernel_rfl) (by simp) (AllReadyH.cons rfl (fun K hK => ?_) AllReadyH.nil)
  go_simp
  refine hK.out _ _ (tkeep2 KC HT1) (fun hHeld => ?_)
  clear hK K
  try simp only [Act.put, pw]
  refine wpAnyH_ready (rs := [11]) (by kernel_rfl) (by simp) (AllReadyH.cons rfl (fun K hK => ?_) AllReadyH.nil)
  go_simp
  refine (concat_2 (NB.out.cell 0 rfl) (NB.out.cell 1 rfl) (NB.out.cell 2 rfl) NB.out.lt HA1.out hga1 HX1.out hh1).mono ?_
  rintro e y2 ⟨v2, rfl, hS2, hf2, b2⟩
  obtain ⟨k2, cp2, rfl, _⟩ := hS2.two
  have HT2 : Hid (Turn (fun k => k = w.heap.size + 1) w0 y2) := HT1.out.then (Turn.below (S := fun _ => False) b2) fun _ _ h => h.elim
  have HZ2 := Lib.hid (NZ.out.below b2)
  have HS2 := Lib.hid hS2
  have HF2 := Lib.hid hf2
  have hz2 := b2.size
  refine hK.out _ _ (tkeep2 KC HT2) (fun hHeld => ?_)
  clear hK K
  clear hS2 hf2 b2
  try simp only [Act.put, pw]
  refine wtk 14 23 (.agg #[.slice (some ⟨k2, 0, none⟩) 2 cp2, .int .i64 0]) rfl (by kernel_rfl) (fun _ _ _ h => h) (by rfl) (fun x hSw => by obtain ⟨⟨d0, d1⟩, _⟩ := id hSw; (go_simp) <;> first | exact slc _ | exact slr _) (by assumption) ?_
  try simp only [Act.put, pw]
  have z0 := HZ2.out.cell 0 rfl
  have z1 := HZ2.out.cell 1 rfl
  have fz0 := HZ2.out.free 0
  have fz1 := HZ2.out.free 1
  refine wpAnyH_ready (rs := [15]) (by kernel_rfl) (by simp) (AllReadyH.cons rfl (fun K hK => ?_) AllReadyH.nil)
  go_simp
  have HT3 : Hid (Turn (fun k => k = w.heap.size + 1) w0 ((y2.setCell ⟨w.heap.size + 1, 0, none⟩ (.slice (some ⟨k2, 0, none⟩) 2 cp2)).setCell ⟨w.heap.size + 1, 1, none⟩ (.int .i64 0))) := HT2.out.trans ((Turn.set (S := (fun k => k = w.heap.size + 1)) y2 (w.heap.size + 1) _ _ rfl).trans (Turn.set (S := (fun k => k = w.heap.size + 1)) _ (w.heap.size + 1) _ _ rfl))
  refine hK.out _ _ (tkeep2 KC HT3) (fun hHeld => ?_)
  clear hK K
  try simp only [Act.put, pw]
  refine wpAnyH_done (by kernel_rfl) ?_ _
  clear hHeld KC z0 z1 fz0 fz1
  go_wp2_with fail
  have R1 := (HZ2.out.set 0 (.slice (some ⟨k2, 0, none⟩) 2 cp2) [.slice (some ⟨k2, 0, none⟩) 2 cp2, .int .i64 0] rfl).set 1 (.int .i64 0) _ rfl
  have e0 := R1.cell 0 rfl
  have e1 := R1.cell 1 rfl
  have tt : Turn (fun k => k = w.heap.size + 1) y2 ((y2.setCell ⟨w.heap.size + 1, 0, none⟩ (.slice (some ⟨k2, 0, none⟩) 2 cp2)).setCell ⟨w.heap.size + 1, 1, none⟩ (.int .i64 0)) := (Turn.set (S := (fun k => k = w.heap.size + 1)) y2 (w.heap.size + 1) _ _ rfl).trans (Turn.set (S := (fun k => k = w.heap.size + 1)) _ (w.heap.size + 1) _ _ rfl)
  refine bodyPost_ret (v := .agg #[.slice (some ⟨k2, 0, none⟩) 2 cp2, .int .i64 0]) (by simp [results, Tryz.results131, go_sem, e0, e1]) rfl ⟨_, rfl, HS2.out.turn tt fun k hk hl => ?_, fun k hk => ?_, ?_⟩
  · have := HF2.out k hk; omega
  · have := HF2.out k hk; omega
  · exact HT3.out.to BB.out (by omega) fun k hk => by omega
end Go.Proofs.YtoichcickcgbgaaGreatDoor
