/-
  The control's serves: what the servers release in a slot.
-/
import Derived.Test.YtoichcickcgbgaaGreatDoorGCrCp
namespace Go.Proofs.YtoichcickcgbgaaGreatDoor
open Go.RowKit
attribute [local go_sem] Oper.semAt_some
attribute [local go_sem] run_f0
section
variable {w : World} {col : Nat → Nat} {K : Ck} {n0 t : Int} {rs : List Rk} {gm : Int → Option (Int × Int)} {js : List Jb} {u : Nat}
set_option maxRecDepth 100000 in
set_option maxHeartbeats 4000000 in
theorem cserves_any (H : Ctl w col K n0 t rs gm js u) (hl : rs.length ≤ 2) (hrow : ∀ x ∈ rs, RowOk x) (hj : JI js) (ht0 : 0 ≤ t) (ht1 : t ≤ 1000000) (hu : u < 1000) :
    Calls Tryz.prog 95 #[.pointer (some ⟨K.c, 0, none⟩)] w fun e w' => e = .returned (.tuple #[]) ∧ (∃ gm' js', Ctl w' col K n0 t rs gm' js' (u + 8) ∧ SvL t gm js rs gm' js') ∧ Turn (Own col) w w' := by
  have HH := Lib.hid H
  have HJI := Lib.hid hj
  have HROW := Lib.hid hrow
  have hd0 : decide (t < 0) = false := by simp; omega
  have q1 : w.drew.cell? ⟨K.c, 5, none⟩ = some (.int .i64 t) ∧ w.drew.cell? ⟨K.c, 6, none⟩ = some (.int .i64 0) := ⟨Bx.cell H.box 5 rfl, Bx.cell H.box 6 rfl⟩
  clear H hj hrow
  go_enter Tryz.func95, Tryz.ntmps95
  go_wp2_with fail
  go_step3
  go_wp2_with fail
  refine wp_region_held_drew (S := fun y => y.cell? ⟨K.c, 5, none⟩ = some (.int .i64 t) ∧ y.cell? ⟨K.c, 6, none⟩ = some (.int .i64 0)) (by kernel_rfl) (q1) (fun hHeld => ?_)
  refine wtk 0 4 (.pointer (some ⟨K.c, 0, none⟩)) rfl (by kernel_rfl) (fun _ _ _ h => h) (by rfl) (fun x hSw => by obtain ⟨d0, d1⟩ := id hSw; (go_simp) <;> first | decide | exact IntWalk.i64_in _ (by omega)) (by assumption) ?_
  try simp only [Act.put, pw]
  refine wtk 1 5 (.pointer (some ⟨K.c, 0, none⟩)) rfl (by kernel_rfl) (fun _ _ _ h => h) (by rfl) (fun x hSw => by obtain ⟨d0, d1⟩ := id hSw; (go_simp) <;> first | decide | exact IntWalk.i64_in _ (by omega)) (by assumption) ?_
  try simp only [Act.put, pw]
  refine wtk 2 6 (.pointer (some ⟨K.c, 5, none⟩)) rfl (by kernel_rfl) (fun _ _ _ h => h) (by rfl) (fun x hSw => by obtain ⟨d0, d1⟩ := id hSw; (go_simp) <;> first | decide | exact IntWalk.i64_in _ (by omega)) (by assumption) ?_
  try simp only [Act.put, pw]
  refine wtk 3 7 (.int .i64 t) rfl (by kernel_rfl) (fun _ _ _ h => h) (by rfl) (fun x hSw => by obtain ⟨d0, d1⟩ := id hSw; (go_simp) <;> first | decide | exact IntWalk.i64_in _ (by omega)) (by assumption) ?_
  try simp only [Act.put, pw]
  refine wtk 4 8 (.pointer (some ⟨K.c, 0, none⟩)) rfl (by kernel_rfl) (fun _ _ _ h => h) (by rfl) (fun x hSw => by obtain ⟨d0, d1⟩ := id hSw; (go_simp) <;> first | decide | exact IntWalk.i64_in _ (by omega)) (by assumption) ?_
  try simp only [Act.put, pw]
  refine wtk 5 9 (.pointer (some ⟨K.c, 0, none⟩)) rfl (by kernel_rfl) (fun _ _ _ h => h) (by rfl) (fun x hSw => by obtain ⟨d0, d1⟩ := id hSw; (go_simp) <;> first | decide | exact IntWalk.i64_in _ (by omega)) (by assumption) ?_
  try simp only [Act.put, pw]
  refine wtk 6 10 (.pointer (some ⟨K.c, 6, none⟩)) rfl (by kernel_rfl) (fun _ _ _ h => h) (by rfl) (fun x hSw => by obtain ⟨d0, d1⟩ := id hSw; (go_simp) <;> first | decide | exact IntWalk.i64_in _ (by omega)) (by assumption) ?_
  try simp only [Act.put, pw]
  refine wtk 7 11 (.int .i64 0) rfl (by kernel_rfl) (fun _ _ _ h => h) (by rfl) (fun x hSw => by obtain ⟨d0, d1⟩ := id hSw; (go_simp) <;> first | decide | exact IntWalk.i64_in _ (by omega)) (by assumption) ?_
  try simp only [Act.put, pw]
  refine wtk 8 12 (.bool false) rfl (by kernel_rfl) (fun _ _ _ h => h) (by rfl) (fun x hSw => by obtain ⟨d0, d1⟩ := id hSw; (go_simp) <;> first | decide | exact IntWalk.i64_in _ (by omega)) (by assumption) ?_
  try simp only [Act.put, pw]
  refine wpAnyH_done (by kernel_rfl) ?_ _
  clear q1 hHeld
  have HH := Lib.hid (HH.out.below (bl_drew (bl0 _)).out)
  have HT := Lib.hid (show Turn (Own col) w w.drew from (Turn.refl _ _).drew)
  generalize w.drew = w0 at *
  have hfr0 : Hid (w.heap.size ≤ w0.heap.size) := HT.out.size
  go_wp2_with fail
  go_step3
  go_wp2_with fail
  refine (ctable_any HH.out hl).mono ?_
  rintro e w1 ⟨oa, nn, cap, rfl, hv, hf, b1⟩
  have HH1 := Lib.hid (HH.out.below b1)
  have HT1 := Lib.hid (HT.out.trans (Turn.below b1))
  have HNB := Lib.hid (fun (hne : rs ≠ []) g (hg : Value.ownBlock (.slice oa nn cap) = some g) => (HH.out.fresh g (hf g hg) : col g = 0))
  obtain ⟨oa', cap', e1, -, h2⟩ := hv.1
  cases e1
  have H2 := Lib.hid h2
  generalize hn : rs.length = n at *
  have HN := Lib.hid hn
  clear hv hf b1 h2 hn HH HT
  go_wp2_with fail
  go_loopw [17] (fun s17 wr => ∃ (k : Nat) (gm' : Int → Option (Int × Int)) (js' : List Jb), s17 = .int .i64 k ∧ k ≤ n ∧ Hid (SvL t gm js (rs.take k) gm' js') ∧ Hid (Ctl wr col K n0 t rs gm' js' (u + 4 * k)) ∧ Hid (JI js') ∧ Hid (Turn (Own col) w1 wr)) (fun s17 _ => n - (intOf s17).toNat)
  case atStart => exact ⟨0, gm, js, rfl, by omega, SvL.nil, HH1, HJI, Turn.refl _ _⟩
  case round =>
    obtain ⟨k, gm', js', rfl, hk, hS, hC, hJ, hT⟩ := hrel
    by_cases hlt : k < n
    · have hd : decide ((k : Int) < (n : Int)) = true := by simp; omega
      have hri : (k : Int) < (n : Int) := by omega
      have hne : rs ≠ [] := fun e => by have := HN.out; rw [e] at this; simp at this; omega
      obtain ⟨g, rfl, hg, -, hr⟩ := H2.out hne
      have hcg := HNB.out hne g rfl
      obtain ⟨⟨kk, s⟩, hx⟩ : ∃ x, rs[k]! = x := ⟨_, rfl⟩
      have hmem : (⟨kk, s⟩ : Rk) ∈ rs := by
        rw [← hx, getElem!_pos rs k (by have := HN.out; omega)]
        exact List.getElem_mem _
      have htk : rs.take (k + 1) = rs.take k ++ [⟨kk, s⟩] := by
        rw [← hx, getElem!_pos rs k (by have := HN.out; omega)]
        exact (List.take_append_getElem _).symm
      have HR := Lib.hid (HROW.out _ hmem)
      have hr2 := rangeAt_block hr (hT.out.block g hg (fun h => h hcg))
      have ck : ∀ i u, (rc ⟨kk, s⟩)[i]? = some u → wr.cell? ⟨g, k * 6 + i, none⟩ = some u := fun i u hu => by
        have := hr2 (k * 6 + i) u (chunk_at rc 6 (fun _ => rfl) rs k (by have := HN.out; omega) i u (by rw [hx]; exact hu))
        rwa [Nat.zero_add] at this
      have q0 := ck 0 _ rfl
      have q1 := ck 1 _ rfl
      have q2 := ck 2 _ rfl
      have q3 := ck 3 _ rfl
      have q4 := ck 4 _ rfl
      have q5 := ck 5 _ rfl
      simp only [Nat.add_zero] at q0 q1 q2 q3 q4 q5
      clear hr hr2 ck hx
      have bA := (Below.refl wr.heap.size wr).alloc (Nat.le_refl _) (.cells #[.int .i64 kk.id, .int .i64 kk.c, .int .i64 kk.d, .int .i64 kk.t, .int .i64 kk.m, .bool s] 37)
      have HZ := Lib.hid (Bx.new wr [.int .i64 kk.id, .int .i64 kk.c, .int .i64 kk.d, .int .i64 kk.t, .int .i64 kk.m, .bool s] 37)
      have HC := Lib.hid (hC.out.below bA)
      have HTT := Lib.hid (hT.out.trans (Turn.below bA))
      have hnew := hC.out.new
      clear bA hC hT
      cases s
      · go_wp2_with fail
        generalize wr.alloc (.cells #[.int .i64 kk.id, .int .i64 kk.c, .int .i64 kk.d, .int .i64 kk.t, .int .i64 kk.m, .bool false] 37) = u2 at *
        have r5 : u2.drew.cell? ⟨wr.heap.size, 5, none⟩ = some (.bool false) := HZ.out.cell 5 rfl
        refine wp_region_held_drew (S := fun y => y.cell? ⟨wr.heap.size, 5, none⟩ = some (.bool false)) (by kernel_rfl) (r5) (fun hHeld => ?_)
        refine wtk 0 21 (.pointer (some ⟨wr.heap.size, 5, none⟩)) rfl (by kernel_rfl) (fun _ _ _ h => h) (by rfl) (fun x hSw => by have d0 := hSw; (go_simp) <;> first | decide | exact IntWalk.i64_in _ (by omega)) (by assumption) ?_
        try simp only [Act.put, pw]
        refine wtk 1 22 (.bool false) rfl (by kernel_rfl) (fun _ _ _ h => h) (by rfl) (fun x hSw => by have d0 := hSw; (go_simp) <;> first | decide | exact IntWalk.i64_in _ (by omega)) (by assumption) ?_
        try simp only [Act.put, pw]
        refine wtk 2 23 (.bool true) rfl (by kernel_rfl) (fun _ _ _ h => h) (by rfl) (fun x hSw => by have d0 := hSw; (go_simp) <;> first | decide | exact IntWalk.i64_in _ (by omega)) (by assumption) ?_
        try simp only [Act.put, pw]
        refine wtk 3 24 (.bool true) rfl (by kernel_rfl) (fun _ _ _ h => h) (by rfl) (fun x hSw => by have d0 := hSw; (go_simp) <;> first | decide | exact IntWalk.i64_in _ (by omega)) (by assumption) ?_
        try simp only [Act.put, pw]
        refine wtu 4 25 rfl (by kernel_rfl) (fun _ _ _ h => h) (by rfl) (by assumption) ?_
        try simp only [Act.put, pw]
        refine wtu 5 26 rfl (by kernel_rfl) (fun _ _ _ h => h) (by rfl) (by assumption) ?_
        try simp only [Act.put, pw]
        refine wtu 6 27 rfl (by kernel_rfl) (fun _ _ _ h => h) (by rfl) (by assumption) ?_
        try simp only [Act.put, pw]
        refine wtu 7 28 rfl (by kernel_rfl) (fun _ _ _ h => h) (by rfl) (by assumption) ?_
        try simp only [Act.put, pw]
        refine wtk 8 29 (.bool true) rfl (by kernel_rfl) (fun _ _ _ h => h) (by rfl) (fun x hSw => by have d0 := hSw; (go_simp) <;> first | decide | exact IntWalk.i64_in _ (by omega)) (by assumption) ?_
        try simp only [Act.put, pw]
        refine wtk 9 30 (.bool true) rfl (by kernel_rfl) (fun _ _ _ h => h) (by rfl) (fun x hSw => by have d0 := hSw; (go_simp) <;> first | decide | exact IntWalk.i64_in _ (by omega)) (by assumption) ?_
        try simp only [Act.put, pw]
        refine wtu 10 31 rfl (by kernel_rfl) (fun _ _ _ h => h) (by rfl) (by assumption) ?_
        try simp only [Act.put, pw]
        refine wtu 11 32 rfl (by kernel_rfl) (fun _ _ _ h => h) (by rfl) (by assumption) ?_
        try simp only [Act.put, pw]
        refine wtu 12 33 rfl (by kernel_rfl) (fun _ _ _ h => h) (by rfl) (by assumption) ?_
        try simp only [Act.put, pw]
        refine wtu 13 34 rfl (by kernel_rfl) (fun _ _ _ h => h) (by rfl) (by assumption) ?_
        try simp only [Act.put, pw]
        refine wtu 14 35 rfl (by kernel_rfl) (fun _ _ _ h => h) (by rfl) (by assumption) ?_
        try simp only [Act.put, pw]
        refine wtu 15 36 rfl (by kernel_rfl) (fun _ _ _ h => h) (by rfl) (by assumption) ?_
        try simp only [Act.put, pw]
        refine wtu 16 37 rfl (by kernel_rfl) (fun _ _ _ h => h) (by rfl) (by assumption) ?_
        try simp only [Act.put, pw]
        refine wtu 17 38 rfl (by kernel_rfl) (fun _ _ _ h => h) (by rfl) (by assumption) ?_
        try simp only [Act.put, pw]
        refine wtu 18 39 rfl (by kernel_rfl) (fun _ _ _ h => h) (by rfl) (by assumption) ?_
        try simp only [Act.put, pw]
        refine wtk 19 40 (.bool true) rfl (by kernel_rfl) (fun _ _ _ h => h) (by rfl) (fun x hSw => by have d0 := hSw; (go_simp) <;> first | decide | exact IntWalk.i64_in _ (by omega)) (by assumption) ?_
        try simp only [Act.put, pw]
        refine wtk 20 41 (.bool true) rfl (by kernel_rfl) (fun _ _ _ h => h) (by rfl) (fun x hSw => by have d0 := hSw; (go_simp) <;> first | decide | exact IntWalk.i64_in _ (by omega)) (by assumption) ?_
        try simp only [Act.put, pw]
        refine wtu 21 42 rfl (by kernel_rfl) (fun _ _ _ h => h) (by rfl) (by assumption) ?_
        try simp only [Act.put, pw]
        refine wtu 22 43 rfl (by kernel_rfl) (fun _ _ _ h => h) (by rfl) (by assumption) ?_
        try simp only [Act.put, pw]
        refine wtu 23 44 rfl (by kernel_rfl) (fun _ _ _ h => h) (by rfl) (by assumption) ?_
        try simp only [Act.put, pw]
        refine wtu 24 45 rfl (by kernel_rfl) (fun _ _ _ h => h) (by rfl) (by assumption) ?_
        try simp only [Act.put, pw]
        refine wtu 25 46 rfl (by kernel_rfl) (fun _ _ _ h => h) (by rfl) (by assumption) ?_
        try simp only [Act.put, pw]
        refine wtu 26 47 rfl (by kernel_rfl) (fun _ _ _ h => h) (by rfl) (by assumption) ?_
        try simp only [Act.put, pw]
        refine wtu 27 48 rfl (by kernel_rfl) (fun _ _ _ h => h) (by rfl) (by assumption) ?_
        try simp only [Act.put, pw]
        refine wtu 28 49 rfl (by kernel_rfl) (fun _ _ _ h => h) (by rfl) (by assumption) ?_
        try simp only [Act.put, pw]
        refine wtu 29 50 rfl (by kernel_rfl) (fun _ _ _ h => h) (by rfl) (by assumption) ?_
        try simp only [Act.put, pw]
        refine wtu 30 51 rfl (by kernel_rfl) (fun _ _ _ h => h) (by rfl) (by assumption) ?_
        try simp only [Act.put, pw]
        refine wtu 31 52 rfl (by kernel_rfl) (fun _ _ _ h => h) (by rfl) (by assumption) ?_
        try simp only [Act.put, pw]
        refine wtu 32 53 rfl (by kernel_rfl) (fun _ _ _ h => h) (by rfl) (by assumption) ?_
        try simp only [Act.put, pw]
        refine wtu 33 54 rfl (by kernel_rfl) (fun _ _ _ h => h) (by rfl) (by assumption) ?_
        try simp only [Act.put, pw]
        refine wtk 34 55 (.bool true) rfl (by kernel_rfl) (fun _ _ _ h => h) (by rfl) (fun x hSw => by have d0 := hSw; (go_simp) <;> first | decide | exact IntWalk.i64_in _ (by omega)) (by assumption) ?_
        try simp only [Act.put, pw]
        refine wpAnyH_done (by kernel_rfl) ?_ _
        clear r5 hHeld
        go_wp2_with fail
        go_roundw
        case rel => exact ⟨k + 1, gm', js', by go_num, by omega, Lib.hid (by rw [htk]; exact hS.out.snoc (.inl ⟨rfl, rfl⟩)), Lib.hid ((HC.out.below (bl_drew (bl0 _)).out).more (by omega)), hJ, Lib.hid HTT.out.drew⟩
        case measure => simp [intOf]; omega
      · go_wp2_with fail
        generalize wr.alloc (.cells #[.int .i64 kk.id, .int .i64 kk.c, .int .i64 kk.d, .int .i64 kk.t, .int .i64 kk.m, .bool true] 37) = u2 at *
        obtain ⟨pn, pf, pt, hpn, hP, hpb⟩ := HC.out.pool
        obtain ⟨y, hy⟩ : ∃ y, pf kk.id = y := ⟨_, rfl⟩
        obtain ⟨z, hz⟩ : ∃ z, Grd.nx gm' kk.id = z := ⟨_, rfl⟩
        have hidw : (Lit.int .i64 kk.id).wf = true := WalkArith.wf_i64 (by have h := HR.out.id; simp only at h; omega)
        have HP := Lib.hid hP
        have HPB := Lib.hid hpb
        have HY := Lib.hid hy
        have HZZ := Lib.hid hz
        clear hP hpb hy hz
        have KC : Hid (∀ y, Hid (Below u2.heap.size u2 y) → (y.cell? ⟨K.c, 5, none⟩ = some (.int .i64 t) ∧ y.cell? ⟨K.c, 7, none⟩ = some (.pointer (some ⟨K.g, 0, none⟩)) ∧ y.cell? ⟨K.c, 9, none⟩ = some (.pointer (some ⟨K.p, 0, none⟩)) ∧ y.cell? ⟨wr.heap.size, 0, none⟩ = some (.int .i64 kk.id) ∧ y.cell? ⟨wr.heap.size, 1, none⟩ = some (.int .i64 kk.c) ∧ y.cell? ⟨wr.heap.size, 2, none⟩ = some (.int .i64 kk.d) ∧ y.cell? ⟨wr.heap.size, 3, none⟩ = some (.int .i64 kk.t) ∧ y.cell? ⟨wr.heap.size, 4, none⟩ = some (.int .i64 kk.m) ∧ y.cell? ⟨wr.heap.size, 5, none⟩ = some (.bool true))) := fun y h => ⟨(Bx.below HC.out.box h.out).cell 5 rfl, (Bx.below HC.out.box h.out).cell 7 rfl, (Bx.below HC.out.box h.out).cell 9 rfl, (HZ.out.below h.out).cell 0 rfl, (HZ.out.below h.out).cell 1 rfl, (HZ.out.below h.out).cell 2 rfl, (HZ.out.below h.out).cell 3 rfl, (HZ.out.below h.out).cell 4 rfl, (HZ.out.below h.out).cell 5 rfl⟩
        have B1 : Hid (Below u2.heap.size u2 u2.drew) := bl_drew (bl0 _)
        by_cases hy0 : y = 0
        · subst hy0
          refine wp_region_held_drew (S := fun y => (y.cell? ⟨K.c, 5, none⟩ = some (.int .i64 t) ∧ y.cell? ⟨K.c, 7, none⟩ = some (.pointer (some ⟨K.g, 0, none⟩)) ∧ y.cell? ⟨K.c, 9, none⟩ = some (.pointer (some ⟨K.p, 0, none⟩)) ∧ y.cell? ⟨wr.heap.size, 0, none⟩ = some (.int .i64 kk.id) ∧ y.cell? ⟨wr.heap.size, 1, none⟩ = some (.int .i64 kk.c) ∧ y.cell? ⟨wr.heap.size, 2, none⟩ = some (.int .i64 kk.d) ∧ y.cell? ⟨wr.heap.size, 3, none⟩ = some (.int .i64 kk.t) ∧ y.cell? ⟨wr.heap.size, 4, none⟩ = some (.int .i64 kk.m) ∧ y.cell? ⟨wr.heap.size, 5, none⟩ = some (.bool true)) ∧ Hid (Below u2.heap.size u2 y)) (by kernel_rfl) (skeep KC B1) (fun hHeld => ?_)
          refine wtk 0 21 (.pointer (some ⟨wr.heap.size, 5, none⟩)) rfl (by kernel_rfl) (fun _ _ _ h => h) (by rfl) (fun x hSw => by obtain ⟨⟨d0, d1, d2, d3, d4, d5, d6, d7, d8⟩, _⟩ := id hSw; (go_simp) <;> first | decide | exact IntWalk.i64_in _ (by omega)) (by assumption) ?_
          try simp only [Act.put, pw]
          refine wtk 1 22 (.bool true) rfl (by kernel_rfl) (fun _ _ _ h => h) (by rfl) (fun x hSw => by obtain ⟨⟨d0, d1, d2, d3, d4, d5, d6, d7, d8⟩, _⟩ := id hSw; (go_simp) <;> first | decide | exact IntWalk.i64_in _ (by omega)) (by assumption) ?_
          try simp only [Act.put, pw]
          refine wtk 2 23 (.bool false) rfl (by kernel_rfl) (fun _ _ _ h => h) (by rfl) (fun x hSw => by obtain ⟨⟨d0, d1, d2, d3, d4, d5, d6, d7, d8⟩, _⟩ := id hSw; (go_simp) <;> first | decide | exact IntWalk.i64_in _ (by omega)) (by assumption) ?_
          try simp only [Act.put, pw]
          refine wtk 3 24 (.bool false) rfl (by kernel_rfl) (fun _ _ _ h => h) (by rfl) (fun x hSw => by obtain ⟨⟨d0, d1, d2, d3, d4, d5, d6, d7, d8⟩, _⟩ := id hSw; (go_simp) <;> first | decide | exact IntWalk.i64_in _ (by omega)) (by assumption) ?_
          try simp only [Act.put, pw]
          refine wtk 4 25 (.pointer (some ⟨K.c, 0, none⟩)) rfl (by kernel_rfl) (fun _ _ _ h => h) (by rfl) (fun x hSw => by obtain ⟨⟨d0, d1, d2, d3, d4, d5, d6, d7, d8⟩, _⟩ := id hSw; (go_simp) <;> first | decide | exact IntWalk.i64_in _ (by omega)) (by assumption) ?_
          try simp only [Act.put, pw]
          refine wtk 5 26 (.agg #[.int .i64 kk.id, .int .i64 kk.c, .int .i64 kk.d, .int .i64 kk.t, .int .i64 kk.m, .bool true]) rfl (by kernel_rfl) (fun _ _ _ h => h) (by rfl) (fun x hSw => by obtain ⟨⟨d0, d1, d2, d3, d4, d5, d6, d7, d8⟩, _⟩ := id hSw; (go_simp) <;> first | decide | exact IntWalk.i64_in _ (by omega)) (by assumption) ?_
          try simp only [Act.put, pw]
          refine wpAnyH_ready (rs := [6]) (by kernel_rfl) (by simp) (AllReadyH.cons rfl (fun KK hK => ?_) AllReadyH.nil)
          go_simp
          refine (cin_any (HC.out.below B1.out) (by have := HN.out; omega) ⟨kk, true⟩ HR.out.m).mono ?_
          rintro e w3 ⟨rfl, b3⟩
          have B3 := bl_below B1 b3
          refine hK.out _ _ (skeep KC B3) (fun hHeld => ?_)
          clear hK KK
          clear b3
          try simp only [Act.put, pw]
          refine wtk 7 28 (.bool false) rfl (by kernel_rfl) (fun _ _ _ h => h) (by rfl) (fun x hSw => by obtain ⟨⟨d0, d1, d2, d3, d4, d5, d6, d7, d8⟩, _⟩ := id hSw; (go_simp) <;> first | decide | exact IntWalk.i64_in _ (by omega)) (by assumption) ?_
          try simp only [Act.put, pw]
          refine wtk 8 29 (.bool false) rfl (by kernel_rfl) (fun _ _ _ h => h) (by rfl) (fun x hSw => by obtain ⟨⟨d0, d1, d2, d3, d4, d5, d6, d7, d8⟩, _⟩ := id hSw; (go_simp) <;> first | decide | exact IntWalk.i64_in _ (by omega)) (by assumption) ?_
          try simp only [Act.put, pw]
          refine wtk 9 30 (.bool false) rfl (by kernel_rfl) (fun _ _ _ h => h) (by rfl) (fun x hSw => by obtain ⟨⟨d0, d1, d2, d3, d4, d5, d6, d7, d8⟩, _⟩ := id hSw; (go_simp) <;> first | decide | exact IntWalk.i64_in _ (by omega)) (by assumption) ?_
          try simp only [Act.put, pw]
          refine wtk 10 31 (.pointer (some ⟨K.c, 0, none⟩)) rfl (by kernel_rfl) (fun _ _ _ h => h) (by rfl) (fun x hSw => by obtain ⟨⟨d0, d1, d2, d3, d4, d5, d6, d7, d8⟩, _⟩ := id hSw; (go_simp) <;> first | decide | exact IntWalk.i64_in _ (by omega)) (by assumption) ?_
          try simp only [Act.put, pw]
          refine wtk 11 32 (.pointer (some ⟨K.c, 0, none⟩)) rfl (by kernel_rfl) (fun _ _ _ h => h) (by rfl) (fun x hSw => by obtain ⟨⟨d0, d1, d2, d3, d4, d5, d6, d7, d8⟩, _⟩ := id hSw; (go_simp) <;> first | decide | exact IntWalk.i64_in _ (by omega)) (by assumption) ?_
          try simp only [Act.put, pw]
          refine wtk 12 33 (.pointer (some ⟨K.c, 9, none⟩)) rfl (by kernel_rfl) (fun _ _ _ h => h) (by rfl) (fun x hSw => by obtain ⟨⟨d0, d1, d2, d3, d4, d5, d6, d7, d8⟩, _⟩ := id hSw; (go_simp) <;> first | decide | exact IntWalk.i64_in _ (by omega)) (by assumption) ?_
          try simp only [Act.put, pw]
          refine wtk 13 34 (.pointer (some ⟨K.p, 0, none⟩)) rfl (by kernel_rfl) (fun _ _ _ h => h) (by rfl) (fun x hSw => by obtain ⟨⟨d0, d1, d2, d3, d4, d5, d6, d7, d8⟩, _⟩ := id hSw; (go_simp) <;> first | decide | exact IntWalk.i64_in _ (by omega)) (by assumption) ?_
          try simp only [Act.put, pw]
          refine wtk 14 35 (.pointer (some ⟨wr.heap.size, 0, none⟩)) rfl (by kernel_rfl) (fun _ _ _ h => h) (by rfl) (fun x hSw => by obtain ⟨⟨d0, d1, d2, d3, d4, d5, d6, d7, d8⟩, _⟩ := id hSw; (go_simp) <;> first | decide | exact IntWalk.i64_in _ (by omega)) (by assumption) ?_
          try simp only [Act.put, pw]
          refine wtk 15 36 (.pointer (some ⟨wr.heap.size, 0, none⟩)) rfl (by kernel_rfl) (fun _ _ _ h => h) (by rfl) (fun x hSw => by obtain ⟨⟨d0, d1, d2, d3, d4, d5, d6, d7, d8⟩, _⟩ := id hSw; (go_simp) <;> first | decide | exact IntWalk.i64_in _ (by omega)) (by assumption) ?_
          try simp only [Act.put, pw]
          refine wtk 16 37 (.int .i64 kk.id) rfl (by kernel_rfl) (fun _ _ _ h => h) (by rfl) (fun x hSw => by obtain ⟨⟨d0, d1, d2, d3, d4, d5, d6, d7, d8⟩, _⟩ := id hSw; (go_simp) <;> first | decide | exact IntWalk.i64_in _ (by omega)) (by assumption) ?_
          try simp only [Act.put, pw]
          refine wpAnyH_ready (rs := [17]) (by kernel_rfl) (by simp) (AllReadyH.cons rfl (fun KK hK => ?_) AllReadyH.nil)
          go_simp
          refine (Pool.backV (HP.out.below B3.out) kk.id hidw 0 HY.out).mono ?_
          rintro e w4 ⟨rfl, rfl⟩
          refine hK.out _ _ (skeep KC B3) (fun hHeld => ?_)
          clear hK KK
          try simp only [Act.put, pw]
          refine wtk 18 39 (.bool true) rfl (by kernel_rfl) (fun _ _ _ h => h) (by rfl) (fun x hSw => by obtain ⟨⟨d0, d1, d2, d3, d4, d5, d6, d7, d8⟩, _⟩ := id hSw; (go_simp) <;> first | decide | exact IntWalk.i64_in _ (by omega)) (by assumption) ?_
          try simp only [Act.put, pw]
          refine wtk 19 40 (.bool true) rfl (by kernel_rfl) (fun _ _ _ h => h) (by rfl) (fun x hSw => by obtain ⟨⟨d0, d1, d2, d3, d4, d5, d6, d7, d8⟩, _⟩ := id hSw; (go_simp) <;> first | decide | exact IntWalk.i64_in _ (by omega)) (by assumption) ?_
          try simp only [Act.put, pw]
          refine wtk 20 41 (.bool true) rfl (by kernel_rfl) (fun _ _ _ h => h) (by rfl) (fun x hSw => by obtain ⟨⟨d0, d1, d2, d3, d4, d5, d6, d7, d8⟩, _⟩ := id hSw; (go_simp) <;> first | decide | exact IntWalk.i64_in _ (by omega)) (by assumption) ?_
          try simp only [Act.put, pw]
          refine wtu 21 42 rfl (by kernel_rfl) (fun _ _ _ h => h) (by rfl) (by assumption) ?_
          try simp only [Act.put, pw]
          refine wtu 22 43 rfl (by kernel_rfl) (fun _ _ _ h => h) (by rfl) (by assumption) ?_
          try simp only [Act.put, pw]
          refine wtu 23 44 rfl (by kernel_rfl) (fun _ _ _ h => h) (by rfl) (by assumption) ?_
          try simp only [Act.put, pw]
          refine wtu 24 45 rfl (by kernel_rfl) (fun _ _ _ h => h) (by rfl) (by assumption) ?_
          try simp only [Act.put, pw]
          refine wtu 25 46 rfl (by kernel_rfl) (fun _ _ _ h => h) (by rfl) (by assumption) ?_
          try simp only [Act.put, pw]
          refine wtu 26 47 rfl (by kernel_rfl) (fun _ _ _ h => h) (by rfl) (by assumption) ?_
          try simp only [Act.put, pw]
          refine wtu 27 48 rfl (by kernel_rfl) (fun _ _ _ h => h) (by rfl) (by assumption) ?_
          try simp only [Act.put, pw]
          refine wtu 28 49 rfl (by kernel_rfl) (fun _ _ _ h => h) (by rfl) (by assumption) ?_
          try simp only [Act.put, pw]
          refine wtu 29 50 rfl (by kernel_rfl) (fun _ _ _ h => h) (by rfl) (by assumption) ?_
          try simp only [Act.put, pw]
          refine wtu 30 51 rfl (by kernel_rfl) (fun _ _ _ h => h) (by rfl) (by assumption) ?_
          try simp only [Act.put, pw]
          refine wtu 31 52 rfl (by kernel_rfl) (fun _ _ _ h => h) (by rfl) (by assumption) ?_
          try simp only [Act.put, pw]
          refine wtu 32 53 rfl (by kernel_rfl) (fun _ _ _ h => h) (by rfl) (by assumption) ?_
          try simp only [Act.put, pw]
          refine wtu 33 54 rfl (by kernel_rfl) (fun _ _ _ h => h) (by rfl) (by assumption) ?_
          try simp only [Act.put, pw]
          refine wtk 34 55 (.bool true) rfl (by kernel_rfl) (fun _ _ _ h => h) (by rfl) (fun x hSw => by obtain ⟨⟨d0, d1, d2, d3, d4, d5, d6, d7, d8⟩, _⟩ := id hSw; (go_simp) <;> first | decide | exact IntWalk.i64_in _ (by omega)) (by assumption) ?_
          try simp only [Act.put, pw]
          refine wpAnyH_done (by kernel_rfl) ?_ _
          go_wp2_with fail
          go_roundw
          case rel => exact ⟨k + 1, gm', js', by go_num, by omega, Lib.hid (by rw [htk]; exact hS.out.snoc (.inl ⟨rfl, rfl⟩)), Lib.hid ((HC.out.below B3.out).more (by omega)), hJ, Lib.hid (HTT.out.trans (Turn.below B3.out))⟩
          case measure => simp [intOf]; omega
        · have hdy : (y == 0) = false := by simpa using hy0
          by_cases hzt : z > t
          · have hdz : decide (z > t) = true := by simpa using hzt
            refine wp_region_held_drew (S := fun y => (y.cell? ⟨K.c, 5, none⟩ = some (.int .i64 t) ∧ y.cell? ⟨K.c, 7, none⟩ = some (.pointer (some ⟨K.g, 0, none⟩)) ∧ y.cell? ⟨K.c, 9, none⟩ = some (.pointer (some ⟨K.p, 0, none⟩)) ∧ y.cell? ⟨wr.heap.size, 0, none⟩ = some (.int .i64 kk.id) ∧ y.cell? ⟨wr.heap.size, 1, none⟩ = some (.int .i64 kk.c) ∧ y.cell? ⟨wr.heap.size, 2, none⟩ = some (.int .i64 kk.d) ∧ y.cell? ⟨wr.heap.size, 3, none⟩ = some (.int .i64 kk.t) ∧ y.cell? ⟨wr.heap.size, 4, none⟩ = some (.int .i64 kk.m) ∧ y.cell? ⟨wr.heap.size, 5, none⟩ = some (.bool true)) ∧ Hid (Below u2.heap.size u2 y)) (by kernel_rfl) (skeep KC B1) (fun hHeld => ?_)
            refine wtk 0 21 (.pointer (some ⟨wr.heap.size, 5, none⟩)) rfl (by kernel_rfl) (fun _ _ _ h => h) (by rfl) (fun x hSw => by obtain ⟨⟨d0, d1, d2, d3, d4, d5, d6, d7, d8⟩, _⟩ := id hSw; (go_simp) <;> first | decide | exact IntWalk.i64_in _ (by omega)) (by assumption) ?_
            try simp only [Act.put, pw]
            refine wtk 1 22 (.bool true) rfl (by kernel_rfl) (fun _ _ _ h => h) (by rfl) (fun x hSw => by obtain ⟨⟨d0, d1, d2, d3, d4, d5, d6, d7, d8⟩, _⟩ := id hSw; (go_simp) <;> first | decide | exact IntWalk.i64_in _ (by omega)) (by assumption) ?_
            try simp only [Act.put, pw]
            refine wtk 2 23 (.bool false) rfl (by kernel_rfl) (fun _ _ _ h => h) (by rfl) (fun x hSw => by obtain ⟨⟨d0, d1, d2, d3, d4, d5, d6, d7, d8⟩, _⟩ := id hSw; (go_simp) <;> first | decide | exact IntWalk.i64_in _ (by omega)) (by assumption) ?_
            try simp only [Act.put, pw]
            refine wtk 3 24 (.bool false) rfl (by kernel_rfl) (fun _ _ _ h => h) (by rfl) (fun x hSw => by obtain ⟨⟨d0, d1, d2, d3, d4, d5, d6, d7, d8⟩, _⟩ := id hSw; (go_simp) <;> first | decide | exact IntWalk.i64_in _ (by omega)) (by assumption) ?_
            try simp only [Act.put, pw]
            refine wtk 4 25 (.pointer (some ⟨K.c, 0, none⟩)) rfl (by kernel_rfl) (fun _ _ _ h => h) (by rfl) (fun x hSw => by obtain ⟨⟨d0, d1, d2, d3, d4, d5, d6, d7, d8⟩, _⟩ := id hSw; (go_simp) <;> first | decide | exact IntWalk.i64_in _ (by omega)) (by assumption) ?_
            try simp only [Act.put, pw]
            refine wtk 5 26 (.agg #[.int .i64 kk.id, .int .i64 kk.c, .int .i64 kk.d, .int .i64 kk.t, .int .i64 kk.m, .bool true]) rfl (by kernel_rfl) (fun _ _ _ h => h) (by rfl) (fun x hSw => by obtain ⟨⟨d0, d1, d2, d3, d4, d5, d6, d7, d8⟩, _⟩ := id hSw; (go_simp) <;> first | decide | exact IntWalk.i64_in _ (by omega)) (by assumption) ?_
            try simp only [Act.put, pw]
            refine wpAnyH_ready (rs := [6]) (by kernel_rfl) (by simp) (AllReadyH.cons rfl (fun KK hK => ?_) AllReadyH.nil)
            go_simp
            refine (cin_any (HC.out.below B1.out) (by have := HN.out; omega) ⟨kk, true⟩ HR.out.m).mono ?_
            rintro e w3 ⟨rfl, b3⟩
            have B3 := bl_below B1 b3
            refine hK.out _ _ (skeep KC B3) (fun hHeld => ?_)
            clear hK KK
            clear b3
            try simp only [Act.put, pw]
            refine wtk 7 28 (.bool false) rfl (by kernel_rfl) (fun _ _ _ h => h) (by rfl) (fun x hSw => by obtain ⟨⟨d0, d1, d2, d3, d4, d5, d6, d7, d8⟩, _⟩ := id hSw; (go_simp) <;> first | decide | exact IntWalk.i64_in _ (by omega)) (by assumption) ?_
            try simp only [Act.put, pw]
            refine wtk 8 29 (.bool false) rfl (by kernel_rfl) (fun _ _ _ h => h) (by rfl) (fun x hSw => by obtain ⟨⟨d0, d1, d2, d3, d4, d5, d6, d7, d8⟩, _⟩ := id hSw; (go_simp) <;> first | decide | exact IntWalk.i64_in _ (by omega)) (by assumption) ?_
            try simp only [Act.put, pw]
            refine wtk 9 30 (.bool false) rfl (by kernel_rfl) (fun _ _ _ h => h) (by rfl) (fun x hSw => by obtain ⟨⟨d0, d1, d2, d3, d4, d5, d6, d7, d8⟩, _⟩ := id hSw; (go_simp) <;> first | decide | exact IntWalk.i64_in _ (by omega)) (by assumption) ?_
            try simp only [Act.put, pw]
            refine wtk 10 31 (.pointer (some ⟨K.c, 0, none⟩)) rfl (by kernel_rfl) (fun _ _ _ h => h) (by rfl) (fun x hSw => by obtain ⟨⟨d0, d1, d2, d3, d4, d5, d6, d7, d8⟩, _⟩ := id hSw; (go_simp) <;> first | decide | exact IntWalk.i64_in _ (by omega)) (by assumption) ?_
            try simp only [Act.put, pw]
            refine wtk 11 32 (.pointer (some ⟨K.c, 0, none⟩)) rfl (by kernel_rfl) (fun _ _ _ h => h) (by rfl) (fun x hSw => by obtain ⟨⟨d0, d1, d2, d3, d4, d5, d6, d7, d8⟩, _⟩ := id hSw; (go_simp) <;> first | decide | exact IntWalk.i64_in _ (by omega)) (by assumption) ?_
            try simp only [Act.put, pw]
            refine wtk 12 33 (.pointer (some ⟨K.c, 9, none⟩)) rfl (by kernel_rfl) (fun _ _ _ h => h) (by rfl) (fun x hSw => by obtain ⟨⟨d0, d1, d2, d3, d4, d5, d6, d7, d8⟩, _⟩ := id hSw; (go_simp) <;> first | decide | exact IntWalk.i64_in _ (by omega)) (by assumption) ?_
            try simp only [Act.put, pw]
            refine wtk 13 34 (.pointer (some ⟨K.p, 0, none⟩)) rfl (by kernel_rfl) (fun _ _ _ h => h) (by rfl) (fun x hSw => by obtain ⟨⟨d0, d1, d2, d3, d4, d5, d6, d7, d8⟩, _⟩ := id hSw; (go_simp) <;> first | decide | exact IntWalk.i64_in _ (by omega)) (by assumption) ?_
            try simp only [Act.put, pw]
            refine wtk 14 35 (.pointer (some ⟨wr.heap.size, 0, none⟩)) rfl (by kernel_rfl) (fun _ _ _ h => h) (by rfl) (fun x hSw => by obtain ⟨⟨d0, d1, d2, d3, d4, d5, d6, d7, d8⟩, _⟩ := id hSw; (go_simp) <;> first | decide | exact IntWalk.i64_in _ (by omega)) (by assumption) ?_
            try simp only [Act.put, pw]
            refine wtk 15 36 (.pointer (some ⟨wr.heap.size, 0, none⟩)) rfl (by kernel_rfl) (fun _ _ _ h => h) (by rfl) (fun x hSw => by obtain ⟨⟨d0, d1, d2, d3, d4, d5, d6, d7, d8⟩, _⟩ := id hSw; (go_simp) <;> first | decide | exact IntWalk.i64_in _ (by omega)) (by assumption) ?_
            try simp only [Act.put, pw]
            refine wtk 16 37 (.int .i64 kk.id) rfl (by kernel_rfl) (fun _ _ _ h => h) (by rfl) (fun x hSw => by obtain ⟨⟨d0, d1, d2, d3, d4, d5, d6, d7, d8⟩, _⟩ := id hSw; (go_simp) <;> first | decide | exact IntWalk.i64_in _ (by omega)) (by assumption) ?_
            try simp only [Act.put, pw]
            refine wpAnyH_ready (rs := [17]) (by kernel_rfl) (by simp) (AllReadyH.cons rfl (fun KK hK => ?_) AllReadyH.nil)
            go_simp
            refine (Pool.backV (HP.out.below B3.out) kk.id hidw y HY.out).mono ?_
            rintro e w4 ⟨rfl, rfl⟩
            refine hK.out _ _ (skeep KC B3) (fun hHeld => ?_)
            clear hK KK
            try simp only [Act.put, pw]
            refine wtk 18 39 (.bool false) rfl (by kernel_rfl) (fun _ _ _ h => h) (by rfl) (fun x hSw => by obtain ⟨⟨d0, d1, d2, d3, d4, d5, d6, d7, d8⟩, _⟩ := id hSw; (go_simp) <;> first | decide | exact IntWalk.i64_in _ (by omega)) (by assumption) ?_
            try simp only [Act.put, pw]
            refine wtk 19 40 (.bool false) rfl (by kernel_rfl) (fun _ _ _ h => h) (by rfl) (fun x hSw => by obtain ⟨⟨d0, d1, d2, d3, d4, d5, d6, d7, d8⟩, _⟩ := id hSw; (go_simp) <;> first | decide | exact IntWalk.i64_in _ (by omega)) (by assumption) ?_
            try simp only [Act.put, pw]
            refine wtk 20 41 (.bool false) rfl (by kernel_rfl) (fun _ _ _ h => h) (by rfl) (fun x hSw => by obtain ⟨⟨d0, d1, d2, d3, d4, d5, d6, d7, d8⟩, _⟩ := id hSw; (go_simp) <;> first | decide | exact IntWalk.i64_in _ (by omega)) (by assumption) ?_
            try simp only [Act.put, pw]
            refine wtk 21 42 (.pointer (some ⟨K.c, 0, none⟩)) rfl (by kernel_rfl) (fun _ _ _ h => h) (by rfl) (fun x hSw => by obtain ⟨⟨d0, d1, d2, d3, d4, d5, d6, d7, d8⟩, _⟩ := id hSw; (go_simp) <;> first | decide | exact IntWalk.i64_in _ (by omega)) (by assumption) ?_
            try simp only [Act.put, pw]
            refine wtk 22 43 (.pointer (some ⟨K.c, 0, none⟩)) rfl (by kernel_rfl) (fun _ _ _ h => h) (by rfl) (fun x hSw => by obtain ⟨⟨d0, d1, d2, d3, d4, d5, d6, d7, d8⟩, _⟩ := id hSw; (go_simp) <;> first | decide | exact IntWalk.i64_in _ (by omega)) (by assumption) ?_
            try simp only [Act.put, pw]
            refine wtk 23 44 (.pointer (some ⟨K.c, 7, none⟩)) rfl (by kernel_rfl) (fun _ _ _ h => h) (by rfl) (fun x hSw => by obtain ⟨⟨d0, d1, d2, d3, d4, d5, d6, d7, d8⟩, _⟩ := id hSw; (go_simp) <;> first | decide | exact IntWalk.i64_in _ (by omega)) (by assumption) ?_
            try simp only [Act.put, pw]
            refine wtk 24 45 (.pointer (some ⟨K.g, 0, none⟩)) rfl (by kernel_rfl) (fun _ _ _ h => h) (by rfl) (fun x hSw => by obtain ⟨⟨d0, d1, d2, d3, d4, d5, d6, d7, d8⟩, _⟩ := id hSw; (go_simp) <;> first | decide | exact IntWalk.i64_in _ (by omega)) (by assumption) ?_
            try simp only [Act.put, pw]
            refine wtk 25 46 (.pointer (some ⟨wr.heap.size, 0, none⟩)) rfl (by kernel_rfl) (fun _ _ _ h => h) (by rfl) (fun x hSw => by obtain ⟨⟨d0, d1, d2, d3, d4, d5, d6, d7, d8⟩, _⟩ := id hSw; (go_simp) <;> first | decide | exact IntWalk.i64_in _ (by omega)) (by assumption) ?_
            try simp only [Act.put, pw]
            refine wtk 26 47 (.pointer (some ⟨wr.heap.size, 0, none⟩)) rfl (by kernel_rfl) (fun _ _ _ h => h) (by rfl) (fun x hSw => by obtain ⟨⟨d0, d1, d2, d3, d4, d5, d6, d7, d8⟩, _⟩ := id hSw; (go_simp) <;> first | decide | exact IntWalk.i64_in _ (by omega)) (by assumption) ?_
            try simp only [Act.put, pw]
            refine wtk 27 48 (.int .i64 kk.id) rfl (by kernel_rfl) (fun _ _ _ h => h) (by rfl) (fun x hSw => by obtain ⟨⟨d0, d1, d2, d3, d4, d5, d6, d7, d8⟩, _⟩ := id hSw; (go_simp) <;> first | decide | exact IntWalk.i64_in _ (by omega)) (by assumption) ?_
            try simp only [Act.put, pw]
            refine wtk 29 50 (.pointer (some ⟨K.c, 0, none⟩)) rfl (by kernel_rfl) (fun _ _ _ h => h) (by rfl) (fun x hSw => by obtain ⟨⟨d0, d1, d2, d3, d4, d5, d6, d7, d8⟩, _⟩ := id hSw; (go_simp) <;> first | decide | exact IntWalk.i64_in _ (by omega)) (by assumption) ?_
            try simp only [Act.put, pw]
            refine wtk 30 51 (.pointer (some ⟨K.c, 0, none⟩)) rfl (by kernel_rfl) (fun _ _ _ h => h) (by rfl) (fun x hSw => by obtain ⟨⟨d0, d1, d2, d3, d4, d5, d6, d7, d8⟩, _⟩ := id hSw; (go_simp) <;> first | decide | exact IntWalk.i64_in _ (by omega)) (by assumption) ?_
            try simp only [Act.put, pw]
            refine wtk 31 52 (.pointer (some ⟨K.c, 5, none⟩)) rfl (by kernel_rfl) (fun _ _ _ h => h) (by rfl) (fun x hSw => by obtain ⟨⟨d0, d1, d2, d3, d4, d5, d6, d7, d8⟩, _⟩ := id hSw; (go_simp) <;> first | decide | exact IntWalk.i64_in _ (by omega)) (by assumption) ?_
            try simp only [Act.put, pw]
            refine wtk 32 53 (.int .i64 t) rfl (by kernel_rfl) (fun _ _ _ h => h) (by rfl) (fun x hSw => by obtain ⟨⟨d0, d1, d2, d3, d4, d5, d6, d7, d8⟩, _⟩ := id hSw; (go_simp) <;> first | decide | exact IntWalk.i64_in _ (by omega)) (by assumption) ?_
            try simp only [Act.put, pw]
            refine wpAnyH_ready (rs := [28]) (by kernel_rfl) (by simp) (AllReadyH.cons rfl (fun KK hK => ?_) AllReadyH.nil)
            go_simp
            obtain ⟨gn, hgn, hG⟩ := HC.out.grd
            refine (Grd.nextV (gv_turn hG (Turn.below (S := fun _ => False) B3.out) (fun h => h) (fun h => h)) kk.id hidw z HZZ.out).mono ?_
            rintro e w5 ⟨rfl, b5⟩
            have B4 := bl_below B3 b5
            refine hK.out _ _ (skeep KC B4) (fun hHeld => ?_)
            clear hK KK
            clear b5
            try simp only [Act.put, pw]
            refine wtk 33 54 (.bool true) rfl (by kernel_rfl) (fun _ _ _ h => h) (by rfl) (fun x hSw => by obtain ⟨⟨d0, d1, d2, d3, d4, d5, d6, d7, d8⟩, _⟩ := id hSw; (go_simp) <;> first | decide | exact IntWalk.i64_in _ (by omega)) (by assumption) ?_
            try simp only [Act.put, pw]
            refine wtk 34 55 (.bool true) rfl (by kernel_rfl) (fun _ _ _ h => h) (by rfl) (fun x hSw => by obtain ⟨⟨d0, d1, d2, d3, d4, d5, d6, d7, d8⟩, _⟩ := id hSw; (go_simp) <;> first | decide | exact IntWalk.i64_in _ (by omega)) (by assumption) ?_
            try simp only [Act.put, pw]
            refine wpAnyH_done (by kernel_rfl) ?_ _
            go_wp2_with fail
            go_roundw
            case rel => exact ⟨k + 1, gm', js', by go_num, by omega, Lib.hid (by rw [htk]; exact hS.out.snoc (.inl ⟨rfl, rfl⟩)), Lib.hid ((HC.out.below B4.out).more (by omega)), hJ, Lib.hid (HTT.out.trans (Turn.below B4.out))⟩
            case measure => simp [intOf]; omega
          · have hdz : decide (z > t) = false := by simpa using hzt
            refine wp_region_held_drew (S := fun y => (y.cell? ⟨K.c, 5, none⟩ = some (.int .i64 t) ∧ y.cell? ⟨K.c, 7, none⟩ = some (.pointer (some ⟨K.g, 0, none⟩)) ∧ y.cell? ⟨K.c, 9, none⟩ = some (.pointer (some ⟨K.p, 0, none⟩)) ∧ y.cell? ⟨wr.heap.size, 0, none⟩ = some (.int .i64 kk.id) ∧ y.cell? ⟨wr.heap.size, 1, none⟩ = some (.int .i64 kk.c) ∧ y.cell? ⟨wr.heap.size, 2, none⟩ = some (.int .i64 kk.d) ∧ y.cell? ⟨wr.heap.size, 3, none⟩ = some (.int .i64 kk.t) ∧ y.cell? ⟨wr.heap.size, 4, none⟩ = some (.int .i64 kk.m) ∧ y.cell? ⟨wr.heap.size, 5, none⟩ = some (.bool true)) ∧ Hid (Below u2.heap.size u2 y)) (by kernel_rfl) (skeep KC B1) (fun hHeld => ?_)
            refine wtk 0 21 (.pointer (some ⟨wr.heap.size, 5, none⟩)) rfl (by kernel_rfl) (fun _ _ _ h => h) (by rfl) (fun x hSw => by obtain ⟨⟨d0, d1, d2, d3, d4, d5, d6, d7, d8⟩, _⟩ := id hSw; (go_simp) <;> first | decide | exact IntWalk.i64_in _ (by omega)) (by assumption) ?_
            try simp only [Act.put, pw]
            refine wtk 1 22 (.bool true) rfl (by kernel_rfl) (fun _ _ _ h => h) (by rfl) (fun x hSw => by obtain ⟨⟨d0, d1, d2, d3, d4, d5, d6, d7, d8⟩, _⟩ := id hSw; (go_simp) <;> first | decide | exact IntWalk.i64_in _ (by omega)) (by assumption) ?_
            try simp only [Act.put, pw]
            refine wtk 2 23 (.bool false) rfl (by kernel_rfl) (fun _ _ _ h => h) (by rfl) (fun x hSw => by obtain ⟨⟨d0, d1, d2, d3, d4, d5, d6, d7, d8⟩, _⟩ := id hSw; (go_simp) <;> first | decide | exact IntWalk.i64_in _ (by omega)) (by assumption) ?_
            try simp only [Act.put, pw]
            refine wtk 3 24 (.bool false) rfl (by kernel_rfl) (fun _ _ _ h => h) (by rfl) (fun x hSw => by obtain ⟨⟨d0, d1, d2, d3, d4, d5, d6, d7, d8⟩, _⟩ := id hSw; (go_simp) <;> first | decide | exact IntWalk.i64_in _ (by omega)) (by assumption) ?_
            try simp only [Act.put, pw]
            refine wtk 4 25 (.pointer (some ⟨K.c, 0, none⟩)) rfl (by kernel_rfl) (fun _ _ _ h => h) (by rfl) (fun x hSw => by obtain ⟨⟨d0, d1, d2, d3, d4, d5, d6, d7, d8⟩, _⟩ := id hSw; (go_simp) <;> first | decide | exact IntWalk.i64_in _ (by omega)) (by assumption) ?_
            try simp only [Act.put, pw]
            refine wtk 5 26 (.agg #[.int .i64 kk.id, .int .i64 kk.c, .int .i64 kk.d, .int .i64 kk.t, .int .i64 kk.m, .bool true]) rfl (by kernel_rfl) (fun _ _ _ h => h) (by rfl) (fun x hSw => by obtain ⟨⟨d0, d1, d2, d3, d4, d5, d6, d7, d8⟩, _⟩ := id hSw; (go_simp) <;> first | decide | exact IntWalk.i64_in _ (by omega)) (by assumption) ?_
            try simp only [Act.put, pw]
            refine wpAnyH_ready (rs := [6]) (by kernel_rfl) (by simp) (AllReadyH.cons rfl (fun KK hK => ?_) AllReadyH.nil)
            go_simp
            refine (cin_any (HC.out.below B1.out) (by have := HN.out; omega) ⟨kk, true⟩ HR.out.m).mono ?_
            rintro e w3 ⟨rfl, b3⟩
            have B3 := bl_below B1 b3
            refine hK.out _ _ (skeep KC B3) (fun hHeld => ?_)
            clear hK KK
            clear b3
            try simp only [Act.put, pw]
            refine wtk 7 28 (.bool false) rfl (by kernel_rfl) (fun _ _ _ h => h) (by rfl) (fun x hSw => by obtain ⟨⟨d0, d1, d2, d3, d4, d5, d6, d7, d8⟩, _⟩ := id hSw; (go_simp) <;> first | decide | exact IntWalk.i64_in _ (by omega)) (by assumption) ?_
            try simp only [Act.put, pw]
            refine wtk 8 29 (.bool false) rfl (by kernel_rfl) (fun _ _ _ h => h) (by rfl) (fun x hSw => by obtain ⟨⟨d0, d1, d2, d3, d4, d5, d6, d7, d8⟩, _⟩ := id hSw; (go_simp) <;> first | decide | exact IntWalk.i64_in _ (by omega)) (by assumption) ?_
            try simp only [Act.put, pw]
            refine wtk 9 30 (.bool false) rfl (by kernel_rfl) (fun _ _ _ h => h) (by rfl) (fun x hSw => by obtain ⟨⟨d0, d1, d2, d3, d4, d5, d6, d7, d8⟩, _⟩ := id hSw; (go_simp) <;> first | decide | exact IntWalk.i64_in _ (by omega)) (by assumption) ?_
            try simp only [Act.put, pw]
            refine wtk 10 31 (.pointer (some ⟨K.c, 0, none⟩)) rfl (by kernel_rfl) (fun _ _ _ h => h) (by rfl) (fun x hSw => by obtain ⟨⟨d0, d1, d2, d3, d4, d5, d6, d7, d8⟩, _⟩ := id hSw; (go_simp) <;> first | decide | exact IntWalk.i64_in _ (by omega)) (by assumption) ?_
            try simp only [Act.put, pw]
            refine wtk 11 32 (.pointer (some ⟨K.c, 0, none⟩)) rfl (by kernel_rfl) (fun _ _ _ h => h) (by rfl) (fun x hSw => by obtain ⟨⟨d0, d1, d2, d3, d4, d5, d6, d7, d8⟩, _⟩ := id hSw; (go_simp) <;> first | decide | exact IntWalk.i64_in _ (by omega)) (by assumption) ?_
            try simp only [Act.put, pw]
            refine wtk 12 33 (.pointer (some ⟨K.c, 9, none⟩)) rfl (by kernel_rfl) (fun _ _ _ h => h) (by rfl) (fun x hSw => by obtain ⟨⟨d0, d1, d2, d3, d4, d5, d6, d7, d8⟩, _⟩ := id hSw; (go_simp) <;> first | decide | exact IntWalk.i64_in _ (by omega)) (by assumption) ?_
            try simp only [Act.put, pw]
            refine wtk 13 34 (.pointer (some ⟨K.p, 0, none⟩)) rfl (by kernel_rfl) (fun _ _ _ h => h) (by rfl) (fun x hSw => by obtain ⟨⟨d0, d1, d2, d3, d4, d5, d6, d7, d8⟩, _⟩ := id hSw; (go_simp) <;> first | decide | exact IntWalk.i64_in _ (by omega)) (by assumption) ?_
            try simp only [Act.put, pw]
            refine wtk 14 35 (.pointer (some ⟨wr.heap.size, 0, none⟩)) rfl (by kernel_rfl) (fun _ _ _ h => h) (by rfl) (fun x hSw => by obtain ⟨⟨d0, d1, d2, d3, d4, d5, d6, d7, d8⟩, _⟩ := id hSw; (go_simp) <;> first | decide | exact IntWalk.i64_in _ (by omega)) (by assumption) ?_
            try simp only [Act.put, pw]
            refine wtk 15 36 (.pointer (some ⟨wr.heap.size, 0, none⟩)) rfl (by kernel_rfl) (fun _ _ _ h => h) (by rfl) (fun x hSw => by obtain ⟨⟨d0, d1, d2, d3, d4, d5, d6, d7, d8⟩, _⟩ := id hSw; (go_simp) <;> first | decide | exact IntWalk.i64_in _ (by omega)) (by assumption) ?_
            try simp only [Act.put, pw]
            refine wtk 16 37 (.int .i64 kk.id) rfl (by kernel_rfl) (fun _ _ _ h => h) (by rfl) (fun x hSw => by obtain ⟨⟨d0, d1, d2, d3, d4, d5, d6, d7, d8⟩, _⟩ := id hSw; (go_simp) <;> first | decide | exact IntWalk.i64_in _ (by omega)) (by assumption) ?_
            try simp only [Act.put, pw]
            refine wpAnyH_ready (rs := [17]) (by kernel_rfl) (by simp) (AllReadyH.cons rfl (fun KK hK => ?_) AllReadyH.nil)
            go_simp
            refine (Pool.backV (HP.out.below B3.out) kk.id hidw y HY.out).mono ?_
            rintro e w4 ⟨rfl, rfl⟩
            refine hK.out _ _ (skeep KC B3) (fun hHeld => ?_)
            clear hK KK
            try simp only [Act.put, pw]
            refine wtk 18 39 (.bool false) rfl (by kernel_rfl) (fun _ _ _ h => h) (by rfl) (fun x hSw => by obtain ⟨⟨d0, d1, d2, d3, d4, d5, d6, d7, d8⟩, _⟩ := id hSw; (go_simp) <;> first | decide | exact IntWalk.i64_in _ (by omega)) (by assumption) ?_
            try simp only [Act.put, pw]
            refine wtk 19 40 (.bool false) rfl (by kernel_rfl) (fun _ _ _ h => h) (by rfl) (fun x hSw => by obtain ⟨⟨d0, d1, d2, d3, d4, d5, d6, d7, d8⟩, _⟩ := id hSw; (go_simp) <;> first | decide | exact IntWalk.i64_in _ (by omega)) (by assumption) ?_
            try simp only [Act.put, pw]
            refine wtk 20 41 (.bool false) rfl (by kernel_rfl) (fun _ _ _ h => h) (by rfl) (fun x hSw => by obtain ⟨⟨d0, d1, d2, d3, d4, d5, d6, d7, d8⟩, _⟩ := id hSw; (go_simp) <;> first | decide | exact IntWalk.i64_in _ (by omega)) (by assumption) ?_
            try simp only [Act.put, pw]
            refine wtk 21 42 (.pointer (some ⟨K.c, 0, none⟩)) rfl (by kernel_rfl) (fun _ _ _ h => h) (by rfl) (fun x hSw => by obtain ⟨⟨d0, d1, d2, d3, d4, d5, d6, d7, d8⟩, _⟩ := id hSw; (go_simp) <;> first | decide | exact IntWalk.i64_in _ (by omega)) (by assumption) ?_
            try simp only [Act.put, pw]
            refine wtk 22 43 (.pointer (some ⟨K.c, 0, none⟩)) rfl (by kernel_rfl) (fun _ _ _ h => h) (by rfl) (fun x hSw => by obtain ⟨⟨d0, d1, d2, d3, d4, d5, d6, d7, d8⟩, _⟩ := id hSw; (go_simp) <;> first | decide | exact IntWalk.i64_in _ (by omega)) (by assumption) ?_
            try simp only [Act.put, pw]
            refine wtk 23 44 (.pointer (some ⟨K.c, 7, none⟩)) rfl (by kernel_rfl) (fun _ _ _ h => h) (by rfl) (fun x hSw => by obtain ⟨⟨d0, d1, d2, d3, d4, d5, d6, d7, d8⟩, _⟩ := id hSw; (go_simp) <;> first | decide | exact IntWalk.i64_in _ (by omega)) (by assumption) ?_
            try simp only [Act.put, pw]
            refine wtk 24 45 (.pointer (some ⟨K.g, 0, none⟩)) rfl (by kernel_rfl) (fun _ _ _ h => h) (by rfl) (fun x hSw => by obtain ⟨⟨d0, d1, d2, d3, d4, d5, d6, d7, d8⟩, _⟩ := id hSw; (go_simp) <;> first | decide | exact IntWalk.i64_in _ (by omega)) (by assumption) ?_
            try simp only [Act.put, pw]
            refine wtk 25 46 (.pointer (some ⟨wr.heap.size, 0, none⟩)) rfl (by kernel_rfl) (fun _ _ _ h => h) (by rfl) (fun x hSw => by obtain ⟨⟨d0, d1, d2, d3, d4, d5, d6, d7, d8⟩, _⟩ := id hSw; (go_simp) <;> first | decide | exact IntWalk.i64_in _ (by omega)) (by assumption) ?_
            try simp only [Act.put, pw]
            refine wtk 26 47 (.pointer (some ⟨wr.heap.size, 0, none⟩)) rfl (by kernel_rfl) (fun _ _ _ h => h) (by rfl) (fun x hSw => by obtain ⟨⟨d0, d1, d2, d3, d4, d5, d6, d7, d8⟩, _⟩ := id hSw; (go_simp) <;> first | decide | exact IntWalk.i64_in _ (by omega)) (by assumption) ?_
            try simp only [Act.put, pw]
            refine wtk 27 48 (.int .i64 kk.id) rfl (by kernel_rfl) (fun _ _ _ h => h) (by rfl) (fun x hSw => by obtain ⟨⟨d0, d1, d2, d3, d4, d5, d6, d7, d8⟩, _⟩ := id hSw; (go_simp) <;> first | decide | exact IntWalk.i64_in _ (by omega)) (by assumption) ?_
            try simp only [Act.put, pw]
            refine wtk 29 50 (.pointer (some ⟨K.c, 0, none⟩)) rfl (by kernel_rfl) (fun _ _ _ h => h) (by rfl) (fun x hSw => by obtain ⟨⟨d0, d1, d2, d3, d4, d5, d6, d7, d8⟩, _⟩ := id hSw; (go_simp) <;> first | decide | exact IntWalk.i64_in _ (by omega)) (by assumption) ?_
            try simp only [Act.put, pw]
            refine wtk 30 51 (.pointer (some ⟨K.c, 0, none⟩)) rfl (by kernel_rfl) (fun _ _ _ h => h) (by rfl) (fun x hSw => by obtain ⟨⟨d0, d1, d2, d3, d4, d5, d6, d7, d8⟩, _⟩ := id hSw; (go_simp) <;> first | decide | exact IntWalk.i64_in _ (by omega)) (by assumption) ?_
            try simp only [Act.put, pw]
            refine wtk 31 52 (.pointer (some ⟨K.c, 5, none⟩)) rfl (by kernel_rfl) (fun _ _ _ h => h) (by rfl) (fun x hSw => by obtain ⟨⟨d0, d1, d2, d3, d4, d5, d6, d7, d8⟩, _⟩ := id hSw; (go_simp) <;> first | decide | exact IntWalk.i64_in _ (by omega)) (by assumption) ?_
            try simp only [Act.put, pw]
            refine wtk 32 53 (.int .i64 t) rfl (by kernel_rfl) (fun _ _ _ h => h) (by rfl) (fun x hSw => by obtain ⟨⟨d0, d1, d2, d3, d4, d5, d6, d7, d8⟩, _⟩ := id hSw; (go_simp) <;> first | decide | exact IntWalk.i64_in _ (by omega)) (by assumption) ?_
            try simp only [Act.put, pw]
            refine wpAnyH_ready (rs := [28]) (by kernel_rfl) (by simp) (AllReadyH.cons rfl (fun KK hK => ?_) AllReadyH.nil)
            go_simp
            obtain ⟨gn, hgn, hG⟩ := HC.out.grd
            refine (Grd.nextV (gv_turn hG (Turn.below (S := fun _ => False) B3.out) (fun h => h) (fun h => h)) kk.id hidw z HZZ.out).mono ?_
            rintro e w5 ⟨rfl, b5⟩
            have B4 := bl_below B3 b5
            refine hK.out _ _ (skeep KC B4) (fun hHeld => ?_)
            clear hK KK
            clear b5
            try simp only [Act.put, pw]
            refine wtk 33 54 (.bool false) rfl (by kernel_rfl) (fun _ _ _ h => h) (by rfl) (fun x hSw => by obtain ⟨⟨d0, d1, d2, d3, d4, d5, d6, d7, d8⟩, _⟩ := id hSw; (go_simp) <;> first | decide | exact IntWalk.i64_in _ (by omega)) (by assumption) ?_
            try simp only [Act.put, pw]
            refine wtk 34 55 (.bool false) rfl (by kernel_rfl) (fun _ _ _ h => h) (by rfl) (fun x hSw => by obtain ⟨⟨d0, d1, d2, d3, d4, d5, d6, d7, d8⟩, _⟩ := id hSw; (go_simp) <;> first | decide | exact IntWalk.i64_in _ (by omega)) (by assumption) ?_
            try simp only [Act.put, pw]
            refine wpAnyH_done (by kernel_rfl) ?_ _
            have hU : u + 4 * k < 2000 := by have := HN.out; omega
            have HC5 := Lib.hid (HC.out.below B4.out)
            have HZ5 := Lib.hid (HZ.out.below B4.out)
            have HTT5 := Lib.hid (HTT.out.trans (Turn.below B4.out))
            have HP5 := Lib.hid (pv_turn HP.out (Turn.below (S := fun _ => False) B4.out) (fun h => h) (fun h => h) (fun h => h))
            clear KC hHeld B1 B3 B4 HC HZ HTT HP
            go_wp2_with fail
            have n1 : ¬ K.c = K.bm := Cols.ne HC5.out.cols.c HC5.out.cols.bm (by decide)
            have n2 : ¬ wr.heap.size = K.bm := Cols.ne hnew HC5.out.cols.bm (by decide)
            have KC : Hid (∀ y, Hid (Turn (fun i => i = K.bm) w5 y) → (y.cell? ⟨K.c, 5, none⟩ = some (.int .i64 t) ∧ y.cell? ⟨K.c, 7, none⟩ = some (.pointer (some ⟨K.g, 0, none⟩)) ∧ y.cell? ⟨wr.heap.size, 0, none⟩ = some (.int .i64 kk.id) ∧ y.cell? ⟨wr.heap.size, 3, none⟩ = some (.int .i64 kk.t))) := fun y b => ⟨(Bx.turn HC5.out.box b.out n1).cell 5 rfl, (Bx.turn HC5.out.box b.out n1).cell 7 rfl, (HZ5.out.turn b.out n2).cell 0 rfl, (HZ5.out.turn b.out n2).cell 3 rfl⟩
            have T1 : Hid (Turn (fun i => i = K.bm) w5 w5.drew) := (Turn.refl _ _).drew
            refine wp_region_held_drew (S := fun y => (y.cell? ⟨K.c, 5, none⟩ = some (.int .i64 t) ∧ y.cell? ⟨K.c, 7, none⟩ = some (.pointer (some ⟨K.g, 0, none⟩)) ∧ y.cell? ⟨wr.heap.size, 0, none⟩ = some (.int .i64 kk.id) ∧ y.cell? ⟨wr.heap.size, 3, none⟩ = some (.int .i64 kk.t)) ∧ Hid (Turn (fun i => i = K.bm) w5 y)) (by kernel_rfl) (tkp KC T1) (fun hHeld => ?_)
            refine wtk 0 56 (.pointer (some ⟨K.c, 0, none⟩)) rfl (by kernel_rfl) (fun _ _ _ h => h) (by rfl) (fun x hSw => by obtain ⟨⟨d0, d1, d2, d3⟩, _⟩ := id hSw; (go_simp) <;> first | decide | exact IntWalk.i64_in _ (by omega)) (by assumption) ?_
            try simp only [Act.put, pw]
            refine wtk 1 57 (.pointer (some ⟨K.c, 0, none⟩)) rfl (by kernel_rfl) (fun _ _ _ h => h) (by rfl) (fun x hSw => by obtain ⟨⟨d0, d1, d2, d3⟩, _⟩ := id hSw; (go_simp) <;> first | decide | exact IntWalk.i64_in _ (by omega)) (by assumption) ?_
            try simp only [Act.put, pw]
            refine wtk 2 58 (.pointer (some ⟨K.c, 7, none⟩)) rfl (by kernel_rfl) (fun _ _ _ h => h) (by rfl) (fun x hSw => by obtain ⟨⟨d0, d1, d2, d3⟩, _⟩ := id hSw; (go_simp) <;> first | decide | exact IntWalk.i64_in _ (by omega)) (by assumption) ?_
            try simp only [Act.put, pw]
            refine wtk 3 59 (.pointer (some ⟨K.g, 0, none⟩)) rfl (by kernel_rfl) (fun _ _ _ h => h) (by rfl) (fun x hSw => by obtain ⟨⟨d0, d1, d2, d3⟩, _⟩ := id hSw; (go_simp) <;> first | decide | exact IntWalk.i64_in _ (by omega)) (by assumption) ?_
            try simp only [Act.put, pw]
            refine wtk 4 60 (.pointer (some ⟨wr.heap.size, 0, none⟩)) rfl (by kernel_rfl) (fun _ _ _ h => h) (by rfl) (fun x hSw => by obtain ⟨⟨d0, d1, d2, d3⟩, _⟩ := id hSw; (go_simp) <;> first | decide | exact IntWalk.i64_in _ (by omega)) (by assumption) ?_
            try simp only [Act.put, pw]
            refine wtk 5 61 (.pointer (some ⟨wr.heap.size, 0, none⟩)) rfl (by kernel_rfl) (fun _ _ _ h => h) (by rfl) (fun x hSw => by obtain ⟨⟨d0, d1, d2, d3⟩, _⟩ := id hSw; (go_simp) <;> first | decide | exact IntWalk.i64_in _ (by omega)) (by assumption) ?_
            try simp only [Act.put, pw]
            refine wtk 6 62 (.int .i64 kk.id) rfl (by kernel_rfl) (fun _ _ _ h => h) (by rfl) (fun x hSw => by obtain ⟨⟨d0, d1, d2, d3⟩, _⟩ := id hSw; (go_simp) <;> first | decide | exact IntWalk.i64_in _ (by omega)) (by assumption) ?_
            try simp only [Act.put, pw]
            refine wtk 7 63 (.pointer (some ⟨wr.heap.size, 0, none⟩)) rfl (by kernel_rfl) (fun _ _ _ h => h) (by rfl) (fun x hSw => by obtain ⟨⟨d0, d1, d2, d3⟩, _⟩ := id hSw; (go_simp) <;> first | decide | exact IntWalk.i64_in _ (by omega)) (by assumption) ?_
            try simp only [Act.put, pw]
            refine wtk 8 64 (.pointer (some ⟨wr.heap.size, 3, none⟩)) rfl (by kernel_rfl) (fun _ _ _ h => h) (by rfl) (fun x hSw => by obtain ⟨⟨d0, d1, d2, d3⟩, _⟩ := id hSw; (go_simp) <;> first | decide | exact IntWalk.i64_in _ (by omega)) (by assumption) ?_
            try simp only [Act.put, pw]
            refine wtk 9 65 (.int .i64 kk.t) rfl (by kernel_rfl) (fun _ _ _ h => h) (by rfl) (fun x hSw => by obtain ⟨⟨d0, d1, d2, d3⟩, _⟩ := id hSw; (go_simp) <;> first | decide | exact IntWalk.i64_in _ (by omega)) (by assumption) ?_
            try simp only [Act.put, pw]
            refine wtk 10 66 (.pointer (some ⟨K.c, 0, none⟩)) rfl (by kernel_rfl) (fun _ _ _ h => h) (by rfl) (fun x hSw => by obtain ⟨⟨d0, d1, d2, d3⟩, _⟩ := id hSw; (go_simp) <;> first | decide | exact IntWalk.i64_in _ (by omega)) (by assumption) ?_
            try simp only [Act.put, pw]
            refine wtk 11 67 (.pointer (some ⟨K.c, 0, none⟩)) rfl (by kernel_rfl) (fun _ _ _ h => h) (by rfl) (fun x hSw => by obtain ⟨⟨d0, d1, d2, d3⟩, _⟩ := id hSw; (go_simp) <;> first | decide | exact IntWalk.i64_in _ (by omega)) (by assumption) ?_
            try simp only [Act.put, pw]
            refine wtk 12 68 (.pointer (some ⟨K.c, 5, none⟩)) rfl (by kernel_rfl) (fun _ _ _ h => h) (by rfl) (fun x hSw => by obtain ⟨⟨d0, d1, d2, d3⟩, _⟩ := id hSw; (go_simp) <;> first | decide | exact IntWalk.i64_in _ (by omega)) (by assumption) ?_
            try simp only [Act.put, pw]
            refine wtk 13 69 (.int .i64 t) rfl (by kernel_rfl) (fun _ _ _ h => h) (by rfl) (fun x hSw => by obtain ⟨⟨d0, d1, d2, d3⟩, _⟩ := id hSw; (go_simp) <;> first | decide | exact IntWalk.i64_in _ (by omega)) (by assumption) ?_
            try simp only [Act.put, pw]
            refine wpAnyH_ready (rs := [14]) (by kernel_rfl) (by simp) (AllReadyH.cons rfl (fun KK hK => ?_) AllReadyH.nil)
            go_simp
            obtain ⟨gn, hgn, hG⟩ := HC5.out.grd
            refine (Grd.relO (gv_turn hG (Turn.below (S := fun _ => False) (bl_drew (bl0 _)).out) (fun h => h) (fun h => h)) (by omega) kk.id kk.t t hidw ⟨HR.out.t0, by have h := HR.out.t1; simp only at h; omega, ht0, by omega⟩ (by rw [HZZ.out]; omega)).mono ?_
            rintro e w6 ⟨rfl, hG6, hg6⟩
            have T3 : Hid (Turn (fun i => i = K.bm) w5 w6) := T1.out.trans (Turn.grown hg6 (fun j hj _ => (Option.some.inj hj).symm))
            have HG6 : Hid (PGrd w6 K (Grd.upd gm' kk.id (some (t, t + kk.t))) (u + 4 * k + 1)) := ⟨gn + 1, by omega, hG6⟩
            refine hK.out _ _ (tkp KC T3) (fun hHeld => ?_)
            clear hK KK
            clear hG hG6 hg6 T1
            try simp only [Act.put, pw]
            refine wpAnyH_done (by kernel_rfl) ?_ _
            have HZ6 := Lib.hid (HZ5.out.turn T3.out n2)
            have HTT6 := Lib.hid (HTT5.out.trans (Ctl.own T3.out HC5.out.cols.bm (by decide)))
            have HP6 := Lib.hid (pv_turn HP5.out T3.out (Cols.ne HC5.out.cols.p HC5.out.cols.bm (by decide)) (Cols.ne HC5.out.cols.bw HC5.out.cols.bm (by decide)) (Cols.ne HC5.out.cols.bt HC5.out.cols.bm (by decide)))
            have HC6 := Lib.hid ((HC5.out.more (Nat.le_succ (u + 4 * k))).setGrd T3.out HG6.out)
            clear KC hHeld T3 HG6 HC5 HZ5 HTT5 HP5 n1 n2
            go_wp2_with fail
            have n1 : ¬ Pool.two K.bw K.bt K.c := fun h => h.elim (Cols.ne HC6.out.cols.c HC6.out.cols.bw (by decide)) (Cols.ne HC6.out.cols.c HC6.out.cols.bt (by decide))
            have n2 : ¬ Pool.two K.bw K.bt wr.heap.size := fun h => h.elim (Cols.ne hnew HC6.out.cols.bw (by decide)) (Cols.ne hnew HC6.out.cols.bt (by decide))
            have KC : Hid (∀ y, Hid (Turn (Pool.two K.bw K.bt) w6 y) → (y.cell? ⟨K.c, 9, none⟩ = some (.pointer (some ⟨K.p, 0, none⟩)) ∧ y.cell? ⟨wr.heap.size, 0, none⟩ = some (.int .i64 kk.id) ∧ y.cell? ⟨wr.heap.size, 1, none⟩ = some (.int .i64 kk.c) ∧ y.cell? ⟨wr.heap.size, 2, none⟩ = some (.int .i64 kk.d) ∧ y.cell? ⟨wr.heap.size, 3, none⟩ = some (.int .i64 kk.t) ∧ y.cell? ⟨wr.heap.size, 4, none⟩ = some (.int .i64 kk.m))) := fun y b => ⟨(Bx.turn HC6.out.box b.out n1).cell 9 rfl, (HZ6.out.turn b.out n2).cell 0 rfl, (HZ6.out.turn b.out n2).cell 1 rfl, (HZ6.out.turn b.out n2).cell 2 rfl, (HZ6.out.turn b.out n2).cell 3 rfl, (HZ6.out.turn b.out n2).cell 4 rfl⟩
            have T1 : Hid (Turn (Pool.two K.bw K.bt) w6 w6.drew) := (Turn.refl _ _).drew
            obtain ⟨r, hr⟩ : ∃ r, Pool.tk y kk.c = r := ⟨_, rfl⟩
            have hyb := HPB.out kk.id
            rw [HY.out] at hyb
            have hrc : 1 ≤ r ∧ r ≤ kk.c := by
              have h0 := HR.out.c0
              simp only at h0
              rw [← hr]
              unfold Pool.tk
              rw [if_neg (by omega)]
              split <;> omega
            have HRR := Lib.hid hr
            clear hr
            refine wp_region_held_drew (S := fun y => y.cell? ⟨K.c, 9, none⟩ = some (.pointer (some ⟨K.p, 0, none⟩)) ∧ y.cell? ⟨wr.heap.size, 0, none⟩ = some (.int .i64 kk.id) ∧ y.cell? ⟨wr.heap.size, 1, none⟩ = some (.int .i64 kk.c) ∧ y.cell? ⟨wr.heap.size, 2, none⟩ = some (.int .i64 kk.d) ∧ y.cell? ⟨wr.heap.size, 3, none⟩ = some (.int .i64 kk.t) ∧ y.cell? ⟨wr.heap.size, 4, none⟩ = some (.int .i64 kk.m)) (by kernel_rfl) (KC.out _ T1) (fun hHeld => ?_)
            refine wtk 0 71 (.pointer (some ⟨K.c, 0, none⟩)) rfl (by kernel_rfl) (fun _ _ _ h => h) (by rfl) (fun x hSw => by obtain ⟨d0, d1, d2, d3, d4, d5⟩ := id hSw; (go_simp) <;> first | decide | exact IntWalk.i64_in _ (by omega)) (by assumption) ?_
            try simp only [Act.put, pw]
            refine wtk 1 72 (.pointer (some ⟨wr.heap.size, 0, none⟩)) rfl (by kernel_rfl) (fun _ _ _ h => h) (by rfl) (fun x hSw => by obtain ⟨d0, d1, d2, d3, d4, d5⟩ := id hSw; (go_simp) <;> first | decide | exact IntWalk.i64_in _ (by omega)) (by assumption) ?_
            try simp only [Act.put, pw]
            refine wtk 2 73 (.agg #[.int .i64 kk.id, .int .i64 kk.c, .int .i64 kk.d, .int .i64 kk.t, .int .i64 kk.m]) rfl (by kernel_rfl) (fun _ _ _ h => h) (by rfl) (fun x hSw => by obtain ⟨d0, d1, d2, d3, d4, d5⟩ := id hSw; (go_simp) <;> first | decide | exact IntWalk.i64_in _ (by omega)) (by assumption) ?_
            try simp only [Act.put, pw]
            refine wtk 3 74 (.pointer (some ⟨K.c, 0, none⟩)) rfl (by kernel_rfl) (fun _ _ _ h => h) (by rfl) (fun x hSw => by obtain ⟨d0, d1, d2, d3, d4, d5⟩ := id hSw; (go_simp) <;> first | decide | exact IntWalk.i64_in _ (by omega)) (by assumption) ?_
            try simp only [Act.put, pw]
            refine wtk 4 75 (.pointer (some ⟨K.c, 0, none⟩)) rfl (by kernel_rfl) (fun _ _ _ h => h) (by rfl) (fun x hSw => by obtain ⟨d0, d1, d2, d3, d4, d5⟩ := id hSw; (go_simp) <;> first | decide | exact IntWalk.i64_in _ (by omega)) (by assumption) ?_
            try simp only [Act.put, pw]
            refine wtk 5 76 (.pointer (some ⟨K.c, 9, none⟩)) rfl (by kernel_rfl) (fun _ _ _ h => h) (by rfl) (fun x hSw => by obtain ⟨d0, d1, d2, d3, d4, d5⟩ := id hSw; (go_simp) <;> first | decide | exact IntWalk.i64_in _ (by omega)) (by assumption) ?_
            try simp only [Act.put, pw]
            refine wtk 6 77 (.pointer (some ⟨K.p, 0, none⟩)) rfl (by kernel_rfl) (fun _ _ _ h => h) (by rfl) (fun x hSw => by obtain ⟨d0, d1, d2, d3, d4, d5⟩ := id hSw; (go_simp) <;> first | decide | exact IntWalk.i64_in _ (by omega)) (by assumption) ?_
            try simp only [Act.put, pw]
            refine wtk 7 78 (.pointer (some ⟨wr.heap.size, 0, none⟩)) rfl (by kernel_rfl) (fun _ _ _ h => h) (by rfl) (fun x hSw => by obtain ⟨d0, d1, d2, d3, d4, d5⟩ := id hSw; (go_simp) <;> first | decide | exact IntWalk.i64_in _ (by omega)) (by assumption) ?_
            try simp only [Act.put, pw]
            refine wtk 8 79 (.pointer (some ⟨wr.heap.size, 0, none⟩)) rfl (by kernel_rfl) (fun _ _ _ h => h) (by rfl) (fun x hSw => by obtain ⟨d0, d1, d2, d3, d4, d5⟩ := id hSw; (go_simp) <;> first | decide | exact IntWalk.i64_in _ (by omega)) (by assumption) ?_
            try simp only [Act.put, pw]
            refine wtk 9 80 (.int .i64 kk.id) rfl (by kernel_rfl) (fun _ _ _ h => h) (by rfl) (fun x hSw => by obtain ⟨d0, d1, d2, d3, d4, d5⟩ := id hSw; (go_simp) <;> first | decide | exact IntWalk.i64_in _ (by omega)) (by assumption) ?_
            try simp only [Act.put, pw]
            refine wtk 10 81 (.pointer (some ⟨wr.heap.size, 0, none⟩)) rfl (by kernel_rfl) (fun _ _ _ h => h) (by rfl) (fun x hSw => by obtain ⟨d0, d1, d2, d3, d4, d5⟩ := id hSw; (go_simp) <;> first | decide | exact IntWalk.i64_in _ (by omega)) (by assumption) ?_
            try simp only [Act.put, pw]
            refine wtk 11 82 (.pointer (some ⟨wr.heap.size, 1, none⟩)) rfl (by kernel_rfl) (fun _ _ _ h => h) (by rfl) (fun x hSw => by obtain ⟨d0, d1, d2, d3, d4, d5⟩ := id hSw; (go_simp) <;> first | decide | exact IntWalk.i64_in _ (by omega)) (by assumption) ?_
            try simp only [Act.put, pw]
            refine wtk 12 83 (.int .i64 kk.c) rfl (by kernel_rfl) (fun _ _ _ h => h) (by rfl) (fun x hSw => by obtain ⟨d0, d1, d2, d3, d4, d5⟩ := id hSw; (go_simp) <;> first | decide | exact IntWalk.i64_in _ (by omega)) (by assumption) ?_
            try simp only [Act.put, pw]
            refine wpAnyH_ready (rs := [13]) (by kernel_rfl) (by simp) (AllReadyH.cons rfl (fun KK hK => ?_) AllReadyH.nil)
            go_simp
            have hcb := HR.out.c1
            simp only at hcb
            have hpt := HPB.out kk.id
            refine (Pool.takeV (pv_turn HP6.out (Turn.below (S := fun _ => False) (bl_drew (bl0 _)).out) (fun h => h) (fun h => h) (fun h => h)) (by omega) kk.id kk.c hidw (by rw [HY.out]; omega) (by rw [HY.out]; omega) (by omega) (by omega) r (by rw [HY.out]; exact HRR.out) _ _ rfl rfl).mono ?_
            rintro e w7 ⟨rfl, hP7, t7⟩
            have T3 : Hid (Turn (Pool.two K.bw K.bt) w6 w7) := T1.out.trans (ptw t7)
            have HP7 : Hid (PPool w7 K (u + 4 * k + 2)) := ⟨_, _, _, by omega, hP7, fun i => by
              have hi := HPB.out i
              rw [HY.out]
              by_cases e : i = kk.id
              · subst e
                rw [Pool.upd_same, Pool.upd_same]
                have := HRR.out
                unfold Pool.tk at this
                omega
              · rw [Pool.upd_other _ _ e, Pool.upd_other _ _ e]
                omega⟩
            refine hK.out _ _ (KC.out _ T3) (fun hHeld => ?_)
            clear hK KK
            clear hP7 t7 hpt hcb
            have HZ7 := Lib.hid (HZ6.out.turn T3.out n2)
            have HC7 := Lib.hid ((HC6.out.more (Nat.le_succ (u + 4 * k + 1))).setPool T3.out HP7.out)
            have HTT7 := Lib.hid (HTT6.out.trans (T3.out.wide (S' := Own col) (fun i _ h => by
              rcases h with rfl | rfl
              · show col K.bw ≠ 0
                rw [HC6.out.cols.bw]
                decide
              · show col K.bt ≠ 0
                rw [HC6.out.cols.bt]
                decide)))
            try simp only [Act.put, pw]
            refine wpAnyH_ready (rs := [14]) (by kernel_rfl) (by simp) (AllReadyH.cons rfl (fun KK hK => ?_) AllReadyH.nil)
            go_simp
            have hid2 := HR.out.id
            have hcb := HR.out.c1
            have hdb := HR.out.d1
            have hd0 := HR.out.d0
            simp only at hid2 hcb hdb hd0
            refine (creleases_any HC7.out kk r hJ.out.len ⟨by simp only; omega, by simp only; omega, ht0, by simp only; omega, by simp only; omega, by simp only; omega⟩ (fun h => hJ.out.room hid2 h) (by omega) (by omega)).mono ?_
            rintro e w8 ⟨rfl, ⟨js2, h8, ha8⟩, t8⟩
            have H8 := Lib.hid h8
            have HA := Lib.hid ha8
            have HZ8 := Lib.hid (HZ7.out.turn t8 (fun h => h hnew))
            have HTT8 := Lib.hid (HTT7.out.trans t8)
            refine hK.out _ _ (⟨Bx.cell h8.box 9 rfl, HZ8.out.cell 0 rfl, HZ8.out.cell 1 rfl, HZ8.out.cell 2 rfl, HZ8.out.cell 3 rfl, HZ8.out.cell 4 rfl⟩) (fun hHeld => ?_)
            clear hK KK
            clear h8 ha8 t8
            try simp only [Act.put, pw]
            refine wpAnyH_done (by kernel_rfl) ?_ _
            go_wp2_with fail
            go_roundw
            case rel => exact ⟨k + 1, _, js2, by go_num, by omega, Lib.hid (by rw [htk]; exact hS.out.snoc (.inr ⟨rfl, by rw [HZZ.out]; show z ≤ t; omega, rfl, r, hrc.1, hrc.2, HA.out⟩)), Lib.hid (H8.out.more (by omega)), Lib.hid (hJ.out.adds ⟨by have h := HR.out.id; exact h, hrc.1, by have h := HR.out.c1; simp only at h ⊢; omega⟩ HA.out), HTT8⟩
            case measure => simp [intOf]; omega
    · obtain rfl : k = n := by omega
      go_wp2_with fail
      rw [Exit.noGoto_normal]
      go_end0
      exact ⟨rfl, ⟨gm', js', hC.out.more (by omega), by have := hS.out; rwa [List.take_of_length_le (by have := HN.out; omega)] at this⟩, HT1.out.trans hT.out⟩
end
end Go.Proofs.YtoichcickcgbgaaGreatDoor
