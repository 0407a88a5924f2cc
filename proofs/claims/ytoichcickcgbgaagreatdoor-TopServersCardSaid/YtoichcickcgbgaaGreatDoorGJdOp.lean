/-
  judge: First, Fits, all, With.
  The writer of numbers below 256.
  An op that admits a task.
-/
import Derived.Test.YtoichcickcgbgaaGreatDoorGMo
import Derived.Test.YtoichcickcgbgaaGreatDoorGWi
import Derived.Deep.RegionHeld3
namespace Go.Proofs.YtoichcickcgbgaaGreatDoor
open Go.RowKit
attribute [local go_sem] Oper.semAt_some
/-- An own slice of 0 tasks with room for n. -/
theorem grow_task (n : Nat) (h0 : 0 < n) (hn : n ≤ 1000) (w : World) :
    Calls Tryz.prog 227 #[.slice none 0 0, .int .i64 n] w fun e w' => ∃ v, e = .returned v ∧ w'.ownsRow w.heap.size 32 5 v 0 [] ∧ v ≠ .slice none 0 0 ∧ Below w.heap.size w w' := by
  obtain ⟨i0, hi, hz0, hz1, hz2⟩ := info_parts info32
  refine (Any8.slices_Grow_grow Sh.growTask i0 _ hi hz0 (by rw [hz1]; decide) none 0 0 n [] w (by omega) (by omega) (by rw [hz2]; omega) (by omega) (by simp) (fun _ => rfl) (fun a h => by cases h)).mono ?_
  rintro e w' ⟨rfl, rfl⟩
  refine ⟨_, rfl, ⟨rfl, .inr ⟨w.heap.size, _, _, rfl, Nat.le_refl _, World.alloc_heap_new _ _, Nat.zero_le _, ?_, ?_, by simp⟩⟩, by simp, ((Below.refl _ _).drew).alloc (Nat.le_refl _) _⟩
  · exact grownCap_le_maxLen _ _ _ _ (by unfold maxLen; omega)
  · have := grownCap_ge w (0 + n) 0 32
    show (_ : Array Value).size = grownCap w (0 + n) 0 32 * 5
    change 0 + n ≤ grownCap w (0 + n) 0 32 at this
    rw [Array.size_append, Array.size_append, size_zeroCells, size_zeroCells]
    show 0 + (0 + n - 0) * 5 + (grownCap w (0 + n) 0 32 - (0 + n)) * 5 = _
    generalize grownCap w (0 + n) 0 32 = c at *
    omega
set_option maxRecDepth 100000 in
set_option maxHeartbeats 1000000 in
theorem tconcat {w : World} {s g c : Nat} {ts : List Tk} (h0 : w.cell? ⟨s, 0, none⟩ = some (.slice (some ⟨g, 0, none⟩) ts.length c)) (h1 : w.cell? ⟨s, 1, none⟩ = some (.slice none 0 0)) (hs : s < w.heap.size) (hr : w.rangeAt g 0 (ts.flatMap tc)) (hg : g < w.heap.size) (hn : 0 < ts.length) (hn2 : ts.length ≤ 2) :
    Calls Tryz.prog 211 #[.slice (some ⟨s, 0, none⟩) 2 2] w fun e w' => ∃ v, e = .returned v ∧ Sx tc w' v ts ∧ Below w.heap.size w w' := by
  have HR := Lib.hid hr
  have Hs := Lib.hid (show ∀ x, Below w.heap.size w x → x.cell? ⟨s, 0, none⟩ = some (.slice (some ⟨g, 0, none⟩) ts.length c) ∧ x.cell? ⟨s, 1, none⟩ = some (.slice none 0 0) from fun x hx => ⟨(World.cell?_of_block (hx.block s hs)).trans h0, (World.cell?_of_block (hx.block s hs)).trans h1⟩)
  have hlen := flat_len tc 5 (fun _ => rfl) ts
  have hone := tc_one ts
  have HL := Lib.hid hlen
  have HO1 := Lib.hid hone
  obtain ⟨n, hn3⟩ : ∃ n, ts.length = n := ⟨_, rfl⟩
  rw [hn3] at h0 hn hn2
  have Hs : Hid (∀ x, Below w.heap.size w x → x.cell? ⟨s, 0, none⟩ = some (.slice (some ⟨g, 0, none⟩) n c) ∧ x.cell? ⟨s, 1, none⟩ = some (.slice none 0 0)) := fun x hx => by have := Hs.out x hx; rwa [hn3] at this
  have HN := Lib.hid hn3
  have hneg : decide ((n : Int) < 0) = false := by simp
  clear hr hlen hone hn3
  go_enter Tryz.func211, Tryz.ntmps211
  go_wp2_with fail
  refine wp_loop_rounds 3 ?_
  rw [rounds_succ]
  go_wp2_with fail
  rw [rounds_succ]
  go_wp2_with fail
  rw [rounds_succ]
  go_wp2_with fail
  refine (grow_task n (by omega) (by omega) _).mono ?_
  rintro e w1 ⟨v, rfl, ho, hne, b1⟩
  obtain ⟨h0, h1⟩ := Hs.out w1 b1
  obtain ⟨k, cp, rfl⟩ : ∃ k cp, v = .slice (some ⟨k, 0, none⟩) 0 cp := by
    rcases ho.2 with ⟨h, _⟩ | ⟨g, cap, cur, h, _⟩
    · exact absurd h hne
    · exact ⟨g, cap, h⟩
  have q := rangeAt_block HR.out (b1.block g hg)
  have Q := Lib.hid q
  have B1 := Lib.hid b1
  have HO := Lib.hid ho
  clear hne b1 ho q
  go_wp2_with fail
  refine wp_loop_rounds 3 ?_
  rw [rounds_succ]
  obtain ⟨i0, hi, hz0, hz1, hz2⟩ := info_parts info32
  go_wp2_with (at_builtin; go_loud (refine wpList_append_own _ rfl _ _ 161 rfl w.heap.size 32 i0 _ 5 40 Tryz.underlying161 hi hz0 hz1 hz2 rfl (by decide) _ 0 [] rfl HO.out ⟨g, 0, none⟩ n c (ts.flatMap tc) rfl (by rw [HL.out, HN.out]) (range_add Q.out) HO1.out (by unfold maxLen; omega) (by omega) B1.out.size ?_))
  intro v2 w2 ho2 hg2 _
  have b2 : Below w.heap.size w w2 := B1.out.grown hg2 B1.out.size fun j hj => by
    have : k = j := by simpa [Value.ownBlock] using hj
    exact this ▸ own_fresh HO.out k rfl
  obtain ⟨k2, cp2, rfl⟩ : ∃ k cp, v2 = .slice (some ⟨k, 0, none⟩) n cp := by
    rcases ho2.2 with ⟨_, h⟩ | ⟨g, cap, cur, h, _⟩
    · omega
    · exact ⟨g, cap, by simpa using h⟩
  have hc2 := own_cap ho2
  have hc3 : n ≤ cp2 := by omega
  obtain ⟨h0, h1⟩ := Hs.out w2 b2
  have B2 := Lib.hid b2
  have HO2 := Lib.hid ho2
  clear b2 ho2 hg2
  go_wp2_with fail
  rw [rounds_succ]
  go_wp2_with fail
  rw [rounds_succ]
  go_wp2_with fail
  go_ret
  exact ⟨_, rfl, Sx.of_own (f := tc) (xs := ts) (n := n) (by simpa using HO2.out) HN.out, B2.out⟩
set_option maxRecDepth 100000 in
theorem all_any {w : World} {v : Value} {ts : List Tk} (h : Sx tc w v ts) (hk : Tks ts) (hne : ts ≠ []) :
    Calls Tryz.prog 183 #[v, .slice none 0 0] w fun e w' => ∃ er : Int, e = .returned (.int .i64 er) ∧ (ts.length ≠ 2 → er = 0) ∧ Below w.heap.size w w' := by
  obtain ⟨oa, cap, rfl, ha, h2⟩ := h
  obtain ⟨g, rfl, hg, hc, hr⟩ := h2 hne
  have hB := (Below.refl w.heap.size w).alloc (Nat.le_refl _) (.cells #[.slice (some ⟨g, 0, none⟩) ts.length cap, .slice none 0 0] 161)
  have hS := Bx.new w [.slice (some ⟨g, 0, none⟩) ts.length cap, .slice none 0 0] 161
  have HC := Lib.hid (tconcat (hS.cell 0 rfl) (hS.cell 1 rfl) hS.lt (rangeAt_block hr (hB.block g hg)) (Nat.lt_of_lt_of_le hg hB.size) (List.length_pos_iff.2 hne) hk.len)
  have HB := Lib.hid hB
  have hle := hk.len
  have hgt : decide ((ts.length : Int) > 16) = false := by simp; omega
  clear hB hS hr h2
  go_enter Tryz.func183, Tryz.ntmps183
  go_wp2_with fail
  refine HC.out.mono ?_
  rintro e w1 ⟨v1, rfl, hx, b1⟩
  have HX := Lib.hid hx
  have HB1 := Lib.hid (HB.out.trans (b1.mono HB.out.size))
  clear HB HC b1 hx
  obtain ⟨oa1, cap1, rfl, -, -⟩ := id HX.out
  go_wp2_with fail
  refine (test_any HX.out hk).mono ?_
  rintro e w2 ⟨er, rfl, her, b2⟩
  have HE := Lib.hid her
  have HB2 := Lib.hid (HB1.out.trans (b2.mono HB1.out.size))
  clear her b2
  go_wp2_with fail
  go_ret
  exact ⟨_, rfl, HE.out, HB2.out⟩
set_option maxRecDepth 100000 in
theorem isErr_any (x : Int) (w : World) : Calls Tryz.prog 175 #[.int .i64 x] w fun e w' => e = .returned (.bool (x != 0)) ∧ w = w' := by
  go_enter Tryz.func175, Tryz.ntmps175
  go_wp2_with fail
  go_ret
  exact ⟨rfl, rfl⟩
set_option maxRecDepth 100000 in
theorem idxErr_any {w : World} {b : Nat} {es : List Int} (hb : Bx w b 305 (eis es)) (hl : es.length = 4) :
    Calls Tryz.prog 174 #[.slice (some ⟨b, 0, none⟩) 4 4, .func (.func 175) #[] #[]] w fun e w' => ∃ r : Int, e = .returned (.int .i64 r) ∧ (r = -1 ∨ ∃ k : Nat, k < 4 ∧ r = k) ∧ ((∀ x ∈ es, x = 0) → r = -1) ∧ w = w' := by
  have HB := Lib.hid hb
  clear hb
  go_enter Tryz.func174, Tryz.ntmps174
  go_wp2_with fail
  go_loopw [8] (fun i wr => ∃ k : Nat, k ≤ 4 ∧ i = .int .i64 k ∧ Hid (w = wr)) (fun i _ => 4 - (intOf i).toNat)
  case atStart => exact ⟨0, by omega, rfl, Lib.hid rfl⟩
  case round =>
    obtain ⟨k, hk4, rfl, hw⟩ := hrel
    have hw := hw.out
    subst hw
    by_cases hlt : k < 4
    · have hd : decide ((k : Int) < 4) = true := by simp; omega
      obtain ⟨u0, hu0⟩ : ∃ u0, es[k]? = some u0 := ⟨es[k]'(by omega), List.getElem?_eq_getElem _⟩
      have hu := List.mem_of_getElem? hu0
      have c0 := HB.out.cell k (v := .int .i64 u0) (by simp [eis, hu0])
      have HU := Lib.hid hu
      clear hu hu0
      by_cases hz : u0 = 0
      · subst hz
        go_wp2_with fail
        refine (isErr_any _ _).mono ?_
        rintro e w1 ⟨rfl, rfl⟩
        go_wp2_with fail
        go_roundw
        case rel => exact ⟨k + 1, by omega, by go_num, trivial⟩
        case measure => simp [intOf]; omega
      · have hz2 : (u0 != 0) = true := by simpa using hz
        go_wp2_with fail
        refine (isErr_any _ _).mono ?_
        rintro e w1 ⟨rfl, rfl⟩
        go_wp2_with fail
        go_ret
        exact ⟨_, rfl, .inr ⟨k, hlt, rfl⟩, fun h => absurd (h _ HU.out) hz, rfl⟩
    · obtain rfl : k = 4 := by omega
      go_wp2_with fail
      go_ret
      exact ⟨_, rfl, .inl rfl, fun _ => rfl, rfl⟩
theorem Rws.kok {rs : List Rk} (h : Rws rs) {r : Rk} (hr : r ∈ rs) : r.k.ok := (h.tks.ok r.k (List.mem_map.2 ⟨r, hr, rfl⟩)).1
theorem Rws.outm {rs : List Rk} (h : Rws rs) {j : Nat} (hj : j < 4) : (∀ x ∈ rs.map (·.k), outM j x = false) ∨ ∃ a, rs.map (·.k) = [a] ∧ outM j a = true := by
  rcases h.modes with hm | ⟨a, rfl, ha⟩
  · refine .inl fun x hx => ?_
    obtain ⟨r, hr, rfl⟩ := List.mem_map.1 hx
    exact outM_15 (hm r hr) hj
  · by_cases h0 : j = 0
    · subst h0
      exact .inl h.out0
    · exact .inr ⟨a.k, rfl, outM_1' ha hj (by omega)⟩
/-- A table of such rows may be. -/
theorem tchk_any {w : World} {v : Value} {rs : List Rk} (h : Sx rc w v rs) (hk : Rws rs) :
    Calls Tryz.prog 34 #[.agg #[v, .int .i64 0]] w fun e w' => e = .returned (.bool true) ∧ Below w.heap.size w w' := by
  rcases rs with _ | ⟨a, _ | ⟨b, _ | ⟨c, l⟩⟩⟩
  · obtain ⟨oa, cap, rfl, _, _⟩ := h
    exact tchk_0 w oa cap
  · obtain ⟨g, cap, rfl, hg, hc, hr⟩ := h.one
    cases hs : a.s
    · exact tchk_1f hg hr hs (hk.kok (by simp)) (hk.srv a (by simp))
    · exact tchk_1t hg hr hs (hk.kok (by simp)) (hk.srv a (by simp))
  · obtain ⟨g, cap, rfl, hg, hc, hr⟩ := h.two
    obtain ⟨h1, h2, h3⟩ := hk.two a b rfl
    exact tchk_2tt hg hr h1 (hk.kok (by simp)) (hk.srv a (by simp)) h2 (hk.kok (by simp)) (hk.srv b (by simp)) h3
  · have := hk.len
    simp at this
set_option maxRecDepth 100000 in
set_option maxHeartbeats 1000000 in
theorem first_any {w : World} {v : Value} {rs : List Rk} (h : Sx rc w v rs) (hk : Rws rs) :
    Calls Tryz.prog 127 #[.agg #[v, .int .i64 0]] w fun e w' => ∃ m er : Int, e = .returned (.tuple #[.int .i64 m, .int .i64 er]) ∧ (rs.length ≠ 2 → er = 0) ∧ Below w.heap.size w w' := by
  have hb0 := (Below.refl w.heap.size w).alloc (Nat.le_refl _) (.cells #[v, .int .i64 0] 79)
  have hA := Bx.new w [v, .int .i64 0] 79
  have HX := Lib.hid (h.below hb0)
  have HB := Lib.hid hb0
  have HA := Lib.hid hA
  obtain ⟨oa, cap, rfl, -, -⟩ := h
  have HC := Lib.hid (tchk_any HX.out hk)
  clear hb0 hA
  go_enter Tryz.func127, Tryz.ntmps127
  go_wp2_with fail
  refine HC.out.mono ?_
  rintro e w1 ⟨rfl, b1⟩
  have HX1 := Lib.hid (HX.out.below b1)
  have hA1 := HA.out.below b1
  have HA1 := Lib.hid hA1
  have HB1 := Lib.hid (HB.out.trans (b1.mono HB.out.size))
  have cA0 := hA1.cell 0 rfl
  have cA1 := hA1.cell 1 rfl
  clear HX HB HA HC b1 hA1
  have HT := Lib.hid (tasks_any HX1.out hk.len)
  go_wp2_with fail
  refine HT.out.mono ?_
  rintro e w2 ⟨v2, rfl, hF, b2⟩
  have HF := Lib.hid hF
  have HB2 := Lib.hid (HB1.out.trans (b2.mono HB1.out.size))
  clear HX1 HB1 HA1 HT b2 hF cA0 cA1
  go_wp2_with fail
  refine (modes_any HF.out.sx hk.tks (fun j hj => hk.outm hj)).mono ?_
  rintro e w3 ⟨es, rfl, hl, hz, b3⟩
  have HZ := Lib.hid hz
  have HB3 := Lib.hid (HB2.out.trans (b3.mono HB2.out.size))
  clear HF HB2 b3 hz
  obtain ⟨x0, x1, x2, x3, rfl⟩ : ∃ a b c d, es = [a, b, c, d] := by
    match es, hl with
    | [a, b, c, d], _ => exact ⟨a, b, c, d, rfl⟩
  have hv : (Value.agg (eis [x0, x1, x2, x3]).toArray) = .agg #[.int .i64 x0, .int .i64 x1, .int .i64 x2, .int .i64 x3] := rfl
  rw [hv]
  clear hv
  have HO := Lib.hid (Bx.new w3 [.int .i64 x0, .int .i64 x1, .int .i64 x2, .int .i64 x3] 305)
  have HB4 := Lib.hid (HB3.out.alloc HB3.out.size (.cells #[.int .i64 x0, .int .i64 x1, .int .i64 x2, .int .i64 x3] 305))
  go_wp2_with fail
  refine (idxErr_any (es := [x0, x1, x2, x3]) HO.out rfl).mono ?_
  rintro e w4 ⟨r, rfl, hr, hr2, rfl⟩
  have HR2 := Lib.hid hr2
  clear hr2
  rcases hr with rfl | ⟨k, hk4, rfl⟩
  · go_wp2_with fail
    go_ret2
    exact ⟨_, _, rfl, fun _ => rfl, HB4.out⟩
  · have hkn : decide ((k : Int) < 0) = false := by simp
    have hO := HO.out
    obtain ⟨u0, hu0⟩ : ∃ u0, [x0, x1, x2, x3][k]? = some u0 := ⟨_, List.getElem?_eq_getElem hk4⟩
    have hu := List.mem_of_getElem? hu0
    have HU := Lib.hid hu
    have c0 := hO.cell k (v := .int .i64 u0) (by show (List.map (fun x => Value.int .i64 x) [x0, x1, x2, x3])[k]? = _; rw [List.getElem?_map, hu0]; rfl)
    clear hu0 hu hO
    go_wp2_with fail
    go_region
    go_wp2_with fail
    go_ret2
    refine ⟨_, _, rfl, fun h => ?_, HB4.out.drew⟩
    have := HR2.out (HZ.out (by simpa using h))
    omega
/-- What Fits tells: something; of fewer than two rows: they fit. -/
theorem fits_any {w : World} {v : Value} {rs : List Rk} (h : Sx rc w v rs) (hk : Rws rs) :
    Calls Tryz.prog 87 #[.agg #[v, .int .i64 0]] w fun e w' => ∃ er : Int, e = .returned (.int .i64 er) ∧ (rs.length ≠ 2 → er = 0) ∧ Below w.heap.size w w' := by
  have hb0 := (Below.refl w.heap.size w).alloc (Nat.le_refl _) (.cells #[v, .int .i64 0] 79)
  have HB := Lib.hid hb0
  have HC := Lib.hid (first_any (h.below hb0) hk)
  obtain ⟨oa, cap, rfl, -, -⟩ := h
  clear hb0
  go_enter Tryz.func87, Tryz.ntmps87
  go_wp2_with fail
  refine HC.out.mono ?_
  rintro e w1 ⟨m, er, rfl, her, b1⟩
  have HE := Lib.hid her
  have HB1 := Lib.hid (HB.out.trans (b1.mono HB.out.size))
  clear her b1
  go_wp2_with fail
  go_ret
  exact ⟨_, rfl, HE.out, HB1.out⟩
set_option maxRecDepth 100000 in
theorem with_any {w : World} {v : Value} {rs : List Rk} (h : Sx rc w v rs) (hk : Rws rs) (hne : rs ≠ []) :
    Calls Tryz.prog 136 #[.agg #[v, .int .i64 0], .slice none 0 0] w fun e w' => ∃ er : Int, e = .returned (.int .i64 er) ∧ (rs.length ≠ 2 → er = 0) ∧ Below w.heap.size w w' := by
  have hb0 := (Below.refl w.heap.size w).alloc (Nat.le_refl _) (.cells #[v, .int .i64 0] 79)
  have HB := Lib.hid hb0
  have HA := Lib.hid (Bx.new w [v, .int .i64 0] 79)
  have HX := Lib.hid (h.below hb0)
  obtain ⟨oa, cap, rfl, -, -⟩ := h
  have HC := Lib.hid (fits_any HX.out hk)
  clear hb0
  go_enter Tryz.func136, Tryz.ntmps136
  go_wp2_with fail
  refine HC.out.mono ?_
  rintro e w1 ⟨er, rfl, her, b1⟩
  have HE := Lib.hid her
  have hA1 := HA.out.below b1
  have cA0 := hA1.cell 0 rfl
  have cA1 := hA1.cell 1 rfl
  have HX1 := Lib.hid (HX.out.below b1)
  have HB1 := Lib.hid (HB.out.trans (b1.mono HB.out.size))
  clear her b1 hA1 HX HB HA HC
  by_cases he : er = 0
  · subst he
    have HI := Lib.hid (in_any HX1.out hk)
    go_wp2_with fail
    refine HI.out.mono ?_
    rintro e w2 ⟨v2, rfl, hx2, -, b2⟩
    have HX2 := Lib.hid hx2
    have HB2 := Lib.hid (HB1.out.trans (b2.mono HB1.out.size))
    clear cA0 cA1 hx2 b2 HI
    obtain ⟨oa2, cap2, hv2, -, -⟩ := id HX2.out
    rw [List.length_map] at hv2
    subst hv2
    go_wp2_with fail
    refine (all_any HX2.out hk.tks (by simpa using hne)).mono ?_
    rintro e w3 ⟨er, rfl, her, b3⟩
    have HE3 := Lib.hid her
    have HB3 := Lib.hid (HB2.out.trans (b3.mono HB2.out.size))
    clear her b3
    go_wp2_with fail
    go_ret
    exact ⟨_, rfl, by simpa using HE3.out, HB3.out⟩
  · have hd : (er != 0) = true := by simpa using he
    go_wp2_with fail
    go_ret
    exact ⟨_, rfl, HE.out, HB1.out⟩
end Go.Proofs.YtoichcickcgbgaaGreatDoor
namespace Go.Proofs.YtoichcickcgbgaaGreatDoor
open Go.RowKit
attribute [local go_sem] Oper.semAt_some
/-- A writer at b that has the bytes l. -/
def Wt (B b : Nat) (l : List UInt8) (w : World) : Prop := Lib.IsBuilder 111 5 B b (Lib.byteCells l) w
theorem Wt.new (w : World) : Wt w.heap.size w.heap.size [] (w.alloc (.cells #[.pointer none, .slice none 0 0] 111)) := by
  exact .inl ⟨Nat.le_refl _, .slice none 0 0, heap_alloc_new _ _, ⟨rfl, .inl ⟨rfl, rfl⟩⟩, by simp [Value.ownBlock]⟩
/-- The bytes of a number below 256. -/
def numB (x : Nat) : List UInt8 := if x = 0 then [0] else [1, UInt8.ofNat x]
theorem numB_len (x : Nat) : (numB x).length ≤ 2 ∧ numB x ≠ [] := by unfold numB; split <;> simp
set_option maxRecDepth 100000 in
theorem bl1 (n : Nat) (h : n < 256) (h0 : n ≠ 0) : 1 ≤ Lib.bitLen n ∧ Lib.bitLen n ≤ 8 := by
  have : ∀ k : Fin 256, k.val ≠ 0 → 1 ≤ Lib.bitLen k.val ∧ Lib.bitLen k.val ≤ 8 := by decide
  exact this ⟨n, h⟩ h0
set_option maxRecDepth 100000 in
theorem size_any (x : Nat) (hx : x < 256) (w : World) :
    Calls Tryz.prog 67 #[.int .u64 x] w fun e w' => e = .returned (.int .i64 (if x = 0 then 0 else 1)) ∧ w = w' := by
  go_enter Tryz.func67, Tryz.ntmps67
  go_wp2_with fail
  refine (Sh.bits_Len64 _ _ (by omega) (by omega)).mono ?_
  rintro e w' ⟨rfl, rfl⟩
  by_cases h0 : x = 0
  · subst h0
    have e : ((Lib.bitLen (((0 : Nat) : Int).toNat) : Nat) : Int) = 0 := by decide
    rw [e]
    go_wp2_with fail
    go_ret
    exact ⟨by simp, rfl⟩
  · have h1 := bl1 x hx h0
    rw [Int.toNat_natCast]
    generalize Lib.bitLen x = m at *
    have h2 : ((m : Int) + 8 - 1).tdiv 8 = 1 := by rw [Int.tdiv_eq_ediv_of_nonneg (by omega)]; omega
    go_wp2_with fail
    go_ret
    exact ⟨rfl, rfl⟩
set_option maxRecDepth 100000 in
theorem wstr_any {B b : Nat} {l : List UInt8} {w : World} (h : Wt B b l w) (h0 : l ≠ []) :
    Calls Tryz.prog 38 #[.pointer (some ⟨b, 0, none⟩)] w fun e w' => e = .returned (.string ⟨l.toArray⟩) ∧ Below B w w' := by
  have H := Lib.hid h
  clear h
  go_enter Tryz.func38, Tryz.ntmps38
  go_wp2_with fail
  refine (bstr_any B b l _ H.out h0).mono ?_
  rintro e w' ⟨rfl, b1⟩
  go_wp2_with fail
  go_ret
  exact ⟨rfl, b1⟩
end Go.Proofs.YtoichcickcgbgaaGreatDoor
namespace Go.Proofs.YtoichcickcgbgaaGreatDoor
open Go.RowKit
attribute [local go_sem] Oper.semAt_some
/-- The op that admits a row. -/
def av (x : Rk) : Value := .agg #[.int .i64 1, .int .i64 x.k.id, .int .i64 x.k.c, .int .i64 x.k.d, .int .i64 x.k.t, .int .i64 x.k.m, .bool x.s, .int .i64 0, .int .i64 0, .int .i64 0]
def iv (x : Rk) : Value := .iface 298 (rv x)
def Gk (x : Rk) : Prop := x.k.ok ∧ (x.s = true → x.k.d = x.k.t)
set_option maxRecDepth 100000 in
theorem of_any (x : Rk) (w : World) :
    Calls Tryz.prog 171 #[av x] w fun e w' => e = .returned (iv x) ∧ Below w.heap.size w w' := by
  obtain ⟨⟨id, c, d, t, m⟩, s⟩ := x
  have hx : av ⟨⟨id, c, d, t, m⟩, s⟩ = .agg #[.int .i64 1, .int .i64 id, .int .i64 c, .int .i64 d, .int .i64 t, .int .i64 m, .bool s, .int .i64 0, .int .i64 0, .int .i64 0] := rfl
  rw [hx]
  clear hx
  go_enter Tryz.func171, Tryz.ntmps171
  go_wp2_with fail
  go_ret
  exact ⟨rfl, (Below.refl _ _).alloc (Nat.le_refl _) _⟩
set_option maxRecDepth 100000 in
theorem op_any (x : Rk) (w : World) :
    Calls Tryz.prog 305 #[rv x] w fun e w' => e = .returned (av x) ∧ Below w.heap.size w w' := by
  obtain ⟨⟨id, c, d, t, m⟩, s⟩ := x
  have hx : rv ⟨⟨id, c, d, t, m⟩, s⟩ = .agg #[.int .i64 id, .int .i64 c, .int .i64 d, .int .i64 t, .int .i64 m, .bool s] := rfl
  rw [hx]
  clear hx
  go_enter Tryz.func305, Tryz.ntmps305
  go_wp2_with fail
  have hE := Bx.new (w.alloc (.cells #[.int .i64 id, .int .i64 c, .int .i64 d, .int .i64 t, .int .i64 m, .bool s] 298)) [.int .i64 1, .int .i64 id, .int .i64 c, .int .i64 d, .int .i64 t, .int .i64 m, .bool s, .int .i64 0, .int .i64 0, .int .i64 0] 43
  rw [World.size_alloc] at hE
  have e0 := hE.cell 0 rfl
  have e1 := hE.cell 1 rfl
  have e2 := hE.cell 2 rfl
  have e3 := hE.cell 3 rfl
  have e4 := hE.cell 4 rfl
  have e5 := hE.cell 5 rfl
  have e6 := hE.cell 6 rfl
  have e7 := hE.cell 7 rfl
  have e8 := hE.cell 8 rfl
  have e9 := hE.cell 9 rfl
  exact bodyPost_ret (v := .agg #[.int .i64 1, .int .i64 id, .int .i64 c, .int .i64 d, .int .i64 t, .int .i64 m, .bool s, .int .i64 0, .int .i64 0, .int .i64 0]) (by simp [results, Tryz.results305, go_sem]) rfl ⟨rfl, ((Below.refl _ _).alloc (Nat.le_refl _) _).alloc (by simp) _⟩
@[local go_sem] theorem m_op (v : Value) (w : World) : (method 531 298 v "horarium/ops.op").run Tryz.prog w = .ok (305, v) w := by kernel_rfl
set_option maxRecDepth 100000 in
theorem bare_any (x : Rk) (w : World) :
    Calls Tryz.prog 176 #[av x] w fun e w' => e = .returned (av x) ∧ Below w.heap.size w w' := by
  have hx : av x = .agg #[.int .i64 1, .int .i64 x.k.id, .int .i64 x.k.c, .int .i64 x.k.d, .int .i64 x.k.t, .int .i64 x.k.m, .bool x.s, .int .i64 0, .int .i64 0, .int .i64 0] := rfl
  rw [hx]
  clear hx
  have bb := ((Below.refl w.heap.size w).alloc (Nat.le_refl _) (.cells #[.int .i64 1, .int .i64 x.k.id, .int .i64 x.k.c, .int .i64 x.k.d, .int .i64 x.k.t, .int .i64 x.k.m, .bool x.s, .int .i64 0, .int .i64 0, .int .i64 0] 43)).alloc (by simp) (.cells #[.int .i64 0, .int .i64 0, .int .i64 0, .int .i64 0, .int .i64 0, .int .i64 0, .bool false, .int .i64 0, .int .i64 0, .int .i64 0] 43)
  have Z0 := Lib.hid (Bx.new (w.alloc (.cells #[.int .i64 1, .int .i64 x.k.id, .int .i64 x.k.c, .int .i64 x.k.d, .int .i64 x.k.t, .int .i64 x.k.m, .bool x.s, .int .i64 0, .int .i64 0, .int .i64 0] 43)) [.int .i64 0, .int .i64 0, .int .i64 0, .int .i64 0, .int .i64 0, .int .i64 0, .bool false, .int .i64 0, .int .i64 0, .int .i64 0] 43)
  rw [World.size_alloc] at Z0
  have BB := Lib.hid bb
  have hz := bb.size
  clear bb
  go_enter Tryz.func176, Tryz.ntmps176
  go_wp2_with fail
  generalize (w.alloc (.cells #[.int .i64 1, .int .i64 x.k.id, .int .i64 x.k.c, .int .i64 x.k.d, .int .i64 x.k.t, .int .i64 x.k.m, .bool x.s, .int .i64 0, .int .i64 0, .int .i64 0] 43)).alloc (.cells #[.int .i64 0, .int .i64 0, .int .i64 0, .int .i64 0, .int .i64 0, .int .i64 0, .bool false, .int .i64 0, .int .i64 0, .int .i64 0] 43) = w0 at *
  refine (of_any x _).mono ?_
  rintro e w1 ⟨rfl, b1⟩
  have B1 := Lib.hid b1
  clear b1
  simp only [iv, rv]
  go_wp2_with fail
  refine (op_any x _).mono ?_
  rintro e w2 ⟨rfl, b2⟩
  have B2 := Lib.hid b2
  have Z2 := Lib.hid ((Z0.out.below B1.out).below B2.out)
  clear b2
  simp only [av]
  have c0 := Z2.out.cell 0 rfl
  have f0 := Z2.out.free 0
  have c1 := Z2.out.cell 1 rfl
  have f1 := Z2.out.free 1
  have c2 := Z2.out.cell 2 rfl
  have f2 := Z2.out.free 2
  have c3 := Z2.out.cell 3 rfl
  have f3 := Z2.out.free 3
  have c4 := Z2.out.cell 4 rfl
  have f4 := Z2.out.free 4
  have c5 := Z2.out.cell 5 rfl
  have f5 := Z2.out.free 5
  have c6 := Z2.out.cell 6 rfl
  have f6 := Z2.out.free 6
  have c7 := Z2.out.cell 7 rfl
  have f7 := Z2.out.free 7
  have c8 := Z2.out.cell 8 rfl
  have f8 := Z2.out.free 8
  have c9 := Z2.out.cell 9 rfl
  have f9 := Z2.out.free 9
  go_wp2_with fail
  clear c0 f0 c1 f1 c2 f2 c3 f3 c4 f4 c5 f5 c6 f6 c7 f7 c8 f8 c9 f9
  have r0 := Bx.set (w := w2) Z2.out 0 (.int .i64 1) _ rfl
  have r1 := Bx.set (w := _) r0 1 (.int .i64 x.k.id) _ rfl
  have r2 := Bx.set (w := _) r1 2 (.int .i64 x.k.c) _ rfl
  have r3 := Bx.set (w := _) r2 3 (.int .i64 x.k.d) _ rfl
  have r4 := Bx.set (w := _) r3 4 (.int .i64 x.k.t) _ rfl
  have r5 := Bx.set (w := _) r4 5 (.int .i64 x.k.m) _ rfl
  have r6 := Bx.set (w := _) r5 6 (.bool x.s) _ rfl
  have r7 := Bx.set (w := _) r6 7 (.int .i64 0) _ rfl
  have r8 := Bx.set (w := _) r7 8 (.int .i64 0) _ rfl
  have r9 := Bx.set (w := _) r8 9 (.int .i64 0) _ rfl
  have e0 := r9.cell 0 rfl
  have e1 := r9.cell 1 rfl
  have e2 := r9.cell 2 rfl
  have e3 := r9.cell 3 rfl
  have e4 := r9.cell 4 rfl
  have e5 := r9.cell 5 rfl
  have e6 := r9.cell 6 rfl
  have e7 := r9.cell 7 rfl
  have e8 := r9.cell 8 rfl
  have e9 := r9.cell 9 rfl
  have BW := (BB.out.trans (B1.out.mono hz)).trans (B2.out.mono (Nat.le_trans hz B1.out.size))
  refine bodyPost_ret (v := .agg #[.int .i64 1, .int .i64 x.k.id, .int .i64 x.k.c, .int .i64 x.k.d, .int .i64 x.k.t, .int .i64 x.k.m, .bool x.s, .int .i64 0, .int .i64 0, .int .i64 0]) (by simp [results, Tryz.results176, go_sem, e0, e1, e2, e3, e4, e5, e6, e7, e8, e9]) rfl ⟨rfl, ?_⟩
  exact ((((((((((BW.setCell (p := ⟨w.heap.size + 1, 0, none⟩) (by simp) _).setCell (p := ⟨w.heap.size + 1, 1, none⟩) (by simp) _).setCell (p := ⟨w.heap.size + 1, 2, none⟩) (by simp) _).setCell (p := ⟨w.heap.size + 1, 3, none⟩) (by simp) _).setCell (p := ⟨w.heap.size + 1, 4, none⟩) (by simp) _).setCell (p := ⟨w.heap.size + 1, 5, none⟩) (by simp) _).setCell (p := ⟨w.heap.size + 1, 6, none⟩) (by simp) _).setCell (p := ⟨w.heap.size + 1, 7, none⟩) (by simp) _).setCell (p := ⟨w.heap.size + 1, 8, none⟩) (by simp) _).setCell (p := ⟨w.heap.size + 1, 9, none⟩) (by simp) _)
set_option maxRecDepth 100000 in
theorem right_any (x : Rk) (hx : Gk x) (w : World) :
    Calls Tryz.prog 307 #[rv x] w fun e w' => e = .returned (.bool true) ∧ Below w.heap.size w w' := by
  obtain ⟨hk, he⟩ := hx
  have bb := (Below.refl w.heap.size w).alloc (Nat.le_refl _) (.cells #[.int .i64 x.k.id, .int .i64 x.k.c, .int .i64 x.k.d, .int .i64 x.k.t, .int .i64 x.k.m, .bool x.s] 298)
  have R0 := Lib.hid (Bx.new w [.int .i64 x.k.id, .int .i64 x.k.c, .int .i64 x.k.d, .int .i64 x.k.t, .int .i64 x.k.m, .bool x.s] 298)
  have BB := Lib.hid bb
  have hv : rv x = .agg #[.int .i64 x.k.id, .int .i64 x.k.c, .int .i64 x.k.d, .int .i64 x.k.t, .int .i64 x.k.m, .bool x.s] := rfl
  rw [hv]
  have hz := bb.size
  clear hv bb
  obtain ⟨k, s⟩ := x
  cases s
  · go_enter Tryz.func307, Tryz.ntmps307
    go_wp2_with fail
    generalize w.alloc (.cells #[.int .i64 k.id, .int .i64 k.c, .int .i64 k.d, .int .i64 k.t, .int .i64 k.m, .bool false] 298) = w0 at *
    refine (chk_any (x := k) hk _).mono ?_
    rintro e w1 ⟨rfl, b1⟩
    have q2 := (R0.out.below b1).cell 2 rfl
    have q3 := (R0.out.below b1).cell 3 rfl
    have q5 := (R0.out.below b1).cell 5 rfl
    have B1 := Lib.hid b1
    clear b1
    go_wp2_with fail
    go_ret
    exact ⟨rfl, BB.out.trans (B1.out.mono hz)⟩
  · have hq := Lib.hid (he rfl)
    clear he
    have hd : (k.d == k.t) = true := by have := hq.out; dsimp only at this; simp [this]
    go_enter Tryz.func307, Tryz.ntmps307
    go_wp2_with fail
    generalize w.alloc (.cells #[.int .i64 k.id, .int .i64 k.c, .int .i64 k.d, .int .i64 k.t, .int .i64 k.m, .bool true] 298) = w0 at *
    refine (chk_any (x := k) hk _).mono ?_
    rintro e w1 ⟨rfl, b1⟩
    have q2 := (R0.out.below b1).cell 2 rfl
    have q3 := (R0.out.below b1).cell 3 rfl
    have q5 := (R0.out.below b1).cell 5 rfl
    have B1 := Lib.hid b1
    clear b1
    go_wp2_with fail
    go_ret
    exact ⟨rfl, BB.out.trans (B1.out.mono hz)⟩
@[local go_sem] theorem m_right (v : Value) (w : World) : (method 531 298 v "horarium/ops.right").run Tryz.prog w = .ok (307, v) w := by kernel_rfl
set_option maxRecDepth 100000 in
set_option maxHeartbeats 1000000 in
theorem ochk_any (x : Rk) (hx : Gk x) (w : World) :
    Calls Tryz.prog 128 #[av x] w fun e w' => e = .returned (.bool true) ∧ Below w.heap.size w w' := by
  have bb := (Below.refl w.heap.size w).alloc (Nat.le_refl _) (.cells #[.int .i64 1, .int .i64 x.k.id, .int .i64 x.k.c, .int .i64 x.k.d, .int .i64 x.k.t, .int .i64 x.k.m, .bool x.s, .int .i64 0, .int .i64 0, .int .i64 0] 43)
  have R0 := Lib.hid (Bx.new w [.int .i64 1, .int .i64 x.k.id, .int .i64 x.k.c, .int .i64 x.k.d, .int .i64 x.k.t, .int .i64 x.k.m, .bool x.s, .int .i64 0, .int .i64 0, .int .i64 0] 43)
  have BB := Lib.hid bb
  have hv : av x = .agg #[.int .i64 1, .int .i64 x.k.id, .int .i64 x.k.c, .int .i64 x.k.d, .int .i64 x.k.t, .int .i64 x.k.m, .bool x.s, .int .i64 0, .int .i64 0, .int .i64 0] := rfl
  rw [hv]
  have hz := bb.size
  clear hv bb
  go_enter Tryz.func128, Tryz.ntmps128
  go_wp2_with fail
  generalize w.alloc (.cells #[.int .i64 1, .int .i64 x.k.id, .int .i64 x.k.c, .int .i64 x.k.d, .int .i64 x.k.t, .int .i64 x.k.m, .bool x.s, .int .i64 0, .int .i64 0, .int .i64 0] 43) = w0 at *
  have KC : Hid (∀ y, Hid (Below w0.heap.size w0 y) → (y.cell? ⟨w.heap.size, 0, none⟩ = some (.int .i64 1) ∧ y.cell? ⟨w.heap.size, 1, none⟩ = some (.int .i64 x.k.id) ∧ y.cell? ⟨w.heap.size, 2, none⟩ = some (.int .i64 x.k.c) ∧ y.cell? ⟨w.heap.size, 3, none⟩ = some (.int .i64 x.k.d) ∧ y.cell? ⟨w.heap.size, 4, none⟩ = some (.int .i64 x.k.t) ∧ y.cell? ⟨w.heap.size, 5, none⟩ = some (.int .i64 x.k.m) ∧ y.cell? ⟨w.heap.size, 6, none⟩ = some (.bool x.s) ∧ y.cell? ⟨w.heap.size, 7, none⟩ = some (.int .i64 0) ∧ y.cell? ⟨w.heap.size, 8, none⟩ = some (.int .i64 0) ∧ y.cell? ⟨w.heap.size, 9, none⟩ = some (.int .i64 0))) := fun y h => ⟨(R0.out.bl h).cell 0 rfl, (R0.out.bl h).cell 1 rfl, (R0.out.bl h).cell 2 rfl, (R0.out.bl h).cell 3 rfl, (R0.out.bl h).cell 4 rfl, (R0.out.bl h).cell 5 rfl, (R0.out.bl h).cell 6 rfl, (R0.out.bl h).cell 7 rfl, (R0.out.bl h).cell 8 rfl, (R0.out.bl h).cell 9 rfl⟩
  refine wp_region_held_drew (S := fun y => (y.cell? ⟨w.heap.size, 0, none⟩ = some (.int .i64 1) ∧ y.cell? ⟨w.heap.size, 1, none⟩ = some (.int .i64 x.k.id) ∧ y.cell? ⟨w.heap.size, 2, none⟩ = some (.int .i64 x.k.c) ∧ y.cell? ⟨w.heap.size, 3, none⟩ = some (.int .i64 x.k.d) ∧ y.cell? ⟨w.heap.size, 4, none⟩ = some (.int .i64 x.k.t) ∧ y.cell? ⟨w.heap.size, 5, none⟩ = some (.int .i64 x.k.m) ∧ y.cell? ⟨w.heap.size, 6, none⟩ = some (.bool x.s) ∧ y.cell? ⟨w.heap.size, 7, none⟩ = some (.int .i64 0) ∧ y.cell? ⟨w.heap.size, 8, none⟩ = some (.int .i64 0) ∧ y.cell? ⟨w.heap.size, 9, none⟩ = some (.int .i64 0)) ∧ Hid (Below w0.heap.size w0 y)) (by kernel_rfl) (skeep KC (bl_drew (bl0 _))) (fun hHeld => ?_)
  refine wtk 0 3 (.agg #[.int .i64 1, .int .i64 x.k.id, .int .i64 x.k.c, .int .i64 x.k.d, .int .i64 x.k.t, .int .i64 x.k.m, .bool x.s, .int .i64 0, .int .i64 0, .int .i64 0]) rfl (by kernel_rfl) (fun _ _ _ h => h) (by rfl) (fun x hSw => by obtain ⟨⟨d0, d1, d2, d3, d4, d5, d6, d7, d8, d9⟩, _⟩ := id hSw; (go_simp) <;> first | decide | simp) (by assumption) ?_
  try simp only [Act.put, pw]
  refine wtk 1 4 (.agg #[.int .i64 1, .int .i64 x.k.id, .int .i64 x.k.c, .int .i64 x.k.d, .int .i64 x.k.t, .int .i64 x.k.m, .bool x.s, .int .i64 0, .int .i64 0, .int .i64 0]) rfl (by kernel_rfl) (fun _ _ _ h => h) (by rfl) (fun x hSw => by obtain ⟨⟨d0, d1, d2, d3, d4, d5, d6, d7, d8, d9⟩, _⟩ := id hSw; (go_simp) <;> first | decide | simp) (by assumption) ?_
  try simp only [Act.put, pw]
  refine wpAnyH_ready (rs := [2]) (by kernel_rfl) (by simp) (AllReadyH.cons rfl (fun K hK => ?_) AllReadyH.nil)
  go_simp
  refine (bare_any x _).mono ?_
  rintro e w1 ⟨rfl, b1⟩
  have HB1 := bl_below (bl_drew (bl0 _)) b1
  refine hK.out _ _ (skeep KC HB1) (fun hHeld => ?_)
  clear hK K
  clear b1
  simp only [av]
  try simp only [Act.put, pw]
  refine wtk 3 6 (.bool true) rfl (by kernel_rfl) (fun _ _ _ h => h) (by rfl) (fun x hSw => by obtain ⟨⟨d0, d1, d2, d3, d4, d5, d6, d7, d8, d9⟩, _⟩ := id hSw; (go_simp) <;> first | decide | simp) (by assumption) ?_
  try simp only [Act.put, pw]
  refine wtk 4 7 (.bool true) rfl (by kernel_rfl) (fun _ _ _ h => h) (by rfl) (fun x hSw => by obtain ⟨⟨d0, d1, d2, d3, d4, d5, d6, d7, d8, d9⟩, _⟩ := id hSw; (go_simp) <;> first | decide | simp) (by assumption) ?_
  try simp only [Act.put, pw]
  refine wtk 5 8 (.agg #[.int .i64 1, .int .i64 x.k.id, .int .i64 x.k.c, .int .i64 x.k.d, .int .i64 x.k.t, .int .i64 x.k.m, .bool x.s, .int .i64 0, .int .i64 0, .int .i64 0]) rfl (by kernel_rfl) (fun _ _ _ h => h) (by rfl) (fun x hSw => by obtain ⟨⟨d0, d1, d2, d3, d4, d5, d6, d7, d8, d9⟩, _⟩ := id hSw; (go_simp) <;> first | decide | simp) (by assumption) ?_
  try simp only [Act.put, pw]
  refine wpAnyH_ready (rs := [6]) (by kernel_rfl) (by simp) (AllReadyH.cons rfl (fun K hK => ?_) AllReadyH.nil)
  go_simp
  refine (of_any x _).mono ?_
  rintro e w2 ⟨rfl, b2⟩
  have HB2 := bl_below HB1 b2
  refine hK.out _ _ (skeep KC HB2) (fun hHeld => ?_)
  clear hK K
  clear b2
  simp only [iv, rv]
  try simp only [Act.put, pw]
  refine wpAnyH_ready (rs := [7]) (by kernel_rfl) (by simp) (AllReadyH.cons rfl (fun K hK => ?_) AllReadyH.nil)
  go_simp
  refine (right_any x hx _).mono ?_
  rintro e w3 ⟨rfl, b3⟩
  have HB3 := bl_below HB2 b3
  refine hK.out _ _ (skeep KC HB3) (fun hHeld => ?_)
  clear hK K
  clear b3
  try simp only [Act.put, pw]
  refine wtk 8 11 (.bool true) rfl (by kernel_rfl) (fun _ _ _ h => h) (by rfl) (fun x hSw => by obtain ⟨⟨d0, d1, d2, d3, d4, d5, d6, d7, d8, d9⟩, _⟩ := id hSw; (go_simp) <;> first | decide | simp) (by assumption) ?_
  try simp only [Act.put, pw]
  refine wtk 9 2 (.bool true) rfl (by kernel_rfl) (fun _ _ _ h => h) (by rfl) (fun x hSw => by obtain ⟨⟨d0, d1, d2, d3, d4, d5, d6, d7, d8, d9⟩, _⟩ := id hSw; (go_simp) <;> first | decide | simp) (by assumption) ?_
  try simp only [Act.put, pw]
  refine wpAnyH_done (by kernel_rfl) ?_ _
  clear hHeld KC
  go_wp2_with fail
  go_ret
  exact ⟨rfl, BB.out.trans (HB3.out.mono hz)⟩
end Go.Proofs.YtoichcickcgbgaaGreatDoor
