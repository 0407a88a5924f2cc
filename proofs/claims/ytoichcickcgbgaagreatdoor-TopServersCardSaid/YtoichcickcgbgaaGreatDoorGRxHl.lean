/-
  registry.Do of an op that admits: it is done, or nothing.
  Jobs: what goes ahead.
-/
import Derived.Test.YtoichcickcgbgaaGreatDoorGReRw
import Derived.Deep.DeepCutAuto
namespace Go.Proofs.YtoichcickcgbgaaGreatDoor
open Go.RowKit
attribute [local go_sem] Oper.semAt_some
/-- A registry and its set: G are the blocks of journal and disk. -/
structure Rgs (w : World) (G : Nat → Prop) (q j n k : Nat) (r : Int) (v : Value) (rs : List Rk) : Prop where
  box : Bx w q 86 [.pointer (some ⟨j, 0, none⟩), v, .int .i64 0]
  jr : Jr w G j n k r
  vr : Vr w v rs
  nq : ¬ G q
  lt : ∀ i, G i → i < w.heap.size
  own : rs ≠ [] → ∀ g, v.ownBlock = some g → ¬ G g ∧ g ≠ q
theorem Rgs.turn {S : Nat → Prop} {w w' : World} {G : Nat → Prop} {q j n k : Nat} {r : Int} {v : Value} {rs : List Rk} (h : Rgs w G q j n k r v rs) (t : Turn S w w') (hG : ∀ i, G i → ¬ S i) (hq : ¬ S q) (hv : rs ≠ [] → ∀ g, v.ownBlock = some g → ¬ S g) : Rgs w' G q j n k r v rs :=
  ⟨h.box.turn t hq, h.jr.turn t (fun i _ hg => hG i hg), h.vr.turn t hv, h.nq, fun i hi => Nat.lt_of_lt_of_le (h.lt i hi) t.size, h.own⟩
theorem Rgs.below {w w' : World} {G : Nat → Prop} {q j n k : Nat} {r : Int} {v : Value} {rs : List Rk} (h : Rgs w G q j n k r v rs) (b : Below w.heap.size w w') : Rgs w' G q j n k r v rs := h.turn (S := fun _ => False) (Turn.below b) (fun _ _ h => h) (fun h => h) (fun _ _ _ h => h)
set_option maxRecDepth 100000 in
set_option maxHeartbeats 2000000 in
theorem rdo_any {w : World} {G : Nat → Prop} {q j n k : Nat} {r : Int} {v : Value} {rs : List Rk} {x : Rk} (h : Rgs w G q j n k r v rs) (hkw : Rws (rs ++ [x])) (hlo : Lo x) (hk : 18 + k < n) (hn : n ≤ 1024) :
    Calls Tryz.prog 53 #[.pointer (some ⟨q, 0, none⟩), av x, .slice none 0 0] w fun e w' => ∃ er : Int, e = .returned (.int .i64 er) ∧ (rs = [] → er = 0) ∧ ((er = 0 ∧ ∃ G' v', Rgs w' G' q j n (k + 1) r v' (rs ++ [x]) ∧ (∀ i, G' i → G i ∨ w.heap.size ≤ i) ∧ (∀ g, v'.ownBlock = some g → w.heap.size ≤ g)) ∨ (er ≠ 0 ∧ Rgs w' G q j n k r v rs)) ∧ Turn (fun i => G i ∨ i = q) w w' := by
  have hv : av x = .agg #[.int .i64 1, .int .i64 x.k.id, .int .i64 x.k.c, .int .i64 x.k.d, .int .i64 x.k.t, .int .i64 x.k.m, .bool x.s, .int .i64 0, .int .i64 0, .int .i64 0] := rfl
  have HW := Lib.hid (fun (u : World) (h : Jr u G j n k r) => writes_any (w := u) (hkw.gk (r := x) (by simp)) hlo h hk hn)
  have HM := Lib.hid (fun (u : World) (h : Vr u v rs) => may_any (w := u) h hkw)
  rw [hv] at HW HM ⊢
  clear hv
  have bX := (Below.refl w.heap.size w).alloc (Nat.le_refl _) (.cells #[.int .i64 1, .int .i64 x.k.id, .int .i64 x.k.c, .int .i64 x.k.d, .int .i64 x.k.t, .int .i64 x.k.m, .bool x.s, .int .i64 0, .int .i64 0, .int .i64 0] 43)
  have HO := Lib.hid (Bx.new w [.int .i64 1, .int .i64 x.k.id, .int .i64 x.k.c, .int .i64 x.k.d, .int .i64 x.k.t, .int .i64 x.k.m, .bool x.s, .int .i64 0, .int .i64 0, .int .i64 0] 43)
  have HR := Lib.hid (h.below bX)
  have HB := Lib.hid bX
  have hq : q < w.heap.size := h.box.lt
  have hsz : w.heap.size < (w.alloc (.cells #[.int .i64 1, .int .i64 x.k.id, .int .i64 x.k.c, .int .i64 x.k.d, .int .i64 x.k.t, .int .i64 x.k.m, .bool x.s, .int .i64 0, .int .i64 0, .int .i64 0] 43)).heap.size := HO.out.lt
  obtain ⟨oa, cap, rfl, -, -⟩ := h.vr.1
  have HLT := Lib.hid h.lt
  clear bX h
  generalize hnn : rs.length = nn at *
  have HNN := Lib.hid hnn
  clear hnn
  go_enter Tryz.func53, Tryz.ntmps53
  go_wp2_with fail
  generalize w.alloc (.cells #[.int .i64 1, .int .i64 x.k.id, .int .i64 x.k.c, .int .i64 x.k.d, .int .i64 x.k.t, .int .i64 x.k.m, .bool x.s, .int .i64 0, .int .i64 0, .int .i64 0] 43) = u0 at *
  refine (rg_good HR.out.box HR.out.jr).mono ?_
  rintro e w0 ⟨rfl, rfl⟩
  have HXN := Lib.hid (show rs ++ [x] ≠ [] by simp)
  go_upto_region 5 with fail
  go_cut [7, 8] (fun s7 s8 wx => ∃ (er : Int) (oc : Option Addr) (nc cc p : Nat), s7 = .pointer (some ⟨p, 0, none⟩) ∧ s8 = .int .i64 er ∧ Hid (Bx wx p 79 [.slice oc nc cc, .int .i64 0]) ∧ u0.heap.size ≤ p ∧ Hid (Below u0.heap.size u0 wx) ∧ Hid (er = 0 → Vr wx (.slice oc nc cc) (rs ++ [x]) ∧ ∀ g, Value.ownBlock (.slice oc nc cc) = some g → u0.heap.size ≤ g ∧ g ≠ p) ∧ Hid (rs = [] → er = 0))
  case first =>
    go_wp2_with fail
    have KC : Hid (∀ y, Hid (Below u0.heap.size u0 y) → (y.cell? ⟨q, 0, none⟩ = some (.pointer (some ⟨j, 0, none⟩)) ∧ y.cell? ⟨q, 1, none⟩ = some (.slice oa nn cap) ∧ y.cell? ⟨q, 2, none⟩ = some (.int .i64 0) ∧ y.cell? ⟨w.heap.size, 0, none⟩ = some (.int .i64 1) ∧ y.cell? ⟨w.heap.size, 1, none⟩ = some (.int .i64 x.k.id) ∧ y.cell? ⟨w.heap.size, 2, none⟩ = some (.int .i64 x.k.c) ∧ y.cell? ⟨w.heap.size, 3, none⟩ = some (.int .i64 x.k.d) ∧ y.cell? ⟨w.heap.size, 4, none⟩ = some (.int .i64 x.k.t) ∧ y.cell? ⟨w.heap.size, 5, none⟩ = some (.int .i64 x.k.m) ∧ y.cell? ⟨w.heap.size, 6, none⟩ = some (.bool x.s) ∧ y.cell? ⟨w.heap.size, 7, none⟩ = some (.int .i64 0) ∧ y.cell? ⟨w.heap.size, 8, none⟩ = some (.int .i64 0) ∧ y.cell? ⟨w.heap.size, 9, none⟩ = some (.int .i64 0))) := fun y h => ⟨(HR.out.box.bl h).cell 0 rfl, (HR.out.box.bl h).cell 1 rfl, (HR.out.box.bl h).cell 2 rfl, (HO.out.bl h).cell 0 rfl, (HO.out.bl h).cell 1 rfl, (HO.out.bl h).cell 2 rfl, (HO.out.bl h).cell 3 rfl, (HO.out.bl h).cell 4 rfl, (HO.out.bl h).cell 5 rfl, (HO.out.bl h).cell 6 rfl, (HO.out.bl h).cell 7 rfl, (HO.out.bl h).cell 8 rfl, (HO.out.bl h).cell 9 rfl⟩
    have B1 : Hid (Below u0.heap.size u0 u0.drew) := bl_drew (bl0 _)
    refine wp_region_held_drew (S := fun y => (y.cell? ⟨q, 0, none⟩ = some (.pointer (some ⟨j, 0, none⟩)) ∧ y.cell? ⟨q, 1, none⟩ = some (.slice oa nn cap) ∧ y.cell? ⟨q, 2, none⟩ = some (.int .i64 0) ∧ y.cell? ⟨w.heap.size, 0, none⟩ = some (.int .i64 1) ∧ y.cell? ⟨w.heap.size, 1, none⟩ = some (.int .i64 x.k.id) ∧ y.cell? ⟨w.heap.size, 2, none⟩ = some (.int .i64 x.k.c) ∧ y.cell? ⟨w.heap.size, 3, none⟩ = some (.int .i64 x.k.d) ∧ y.cell? ⟨w.heap.size, 4, none⟩ = some (.int .i64 x.k.t) ∧ y.cell? ⟨w.heap.size, 5, none⟩ = some (.int .i64 x.k.m) ∧ y.cell? ⟨w.heap.size, 6, none⟩ = some (.bool x.s) ∧ y.cell? ⟨w.heap.size, 7, none⟩ = some (.int .i64 0) ∧ y.cell? ⟨w.heap.size, 8, none⟩ = some (.int .i64 0) ∧ y.cell? ⟨w.heap.size, 9, none⟩ = some (.int .i64 0)) ∧ Hid (Below u0.heap.size u0 y)) (by kernel_rfl) (skeep KC B1) (fun hHeld => ?_)
    refine wtk 0 17 (.pointer (some ⟨q, 0, none⟩)) rfl (by kernel_rfl) (fun _ _ _ h => h) (by rfl) (fun x hSw => by obtain ⟨⟨d0, d1, d2, d3, d4, d5, d6, d7, d8, d9, d10, d11, d12⟩, _⟩ := id hSw; (go_simp) <;> first | decide | exact IntWalk.i64_in _ (by omega)) (by assumption) ?_
    try simp only [Act.put, pw]
    refine wtk 1 18 (.pointer (some ⟨q, 0, none⟩)) rfl (by kernel_rfl) (fun _ _ _ h => h) (by rfl) (fun x hSw => by obtain ⟨⟨d0, d1, d2, d3, d4, d5, d6, d7, d8, d9, d10, d11, d12⟩, _⟩ := id hSw; (go_simp) <;> first | decide | exact IntWalk.i64_in _ (by omega)) (by assumption) ?_
    try simp only [Act.put, pw]
    refine wtk 2 19 (.pointer (some ⟨q, 1, none⟩)) rfl (by kernel_rfl) (fun _ _ _ h => h) (by rfl) (fun x hSw => by obtain ⟨⟨d0, d1, d2, d3, d4, d5, d6, d7, d8, d9, d10, d11, d12⟩, _⟩ := id hSw; (go_simp) <;> first | decide | exact IntWalk.i64_in _ (by omega)) (by assumption) ?_
    try simp only [Act.put, pw]
    refine wtk 3 20 (.agg #[.slice oa nn cap, .int .i64 0]) rfl (by kernel_rfl) (fun _ _ _ h => h) (by rfl) (fun x hSw => by obtain ⟨⟨d0, d1, d2, d3, d4, d5, d6, d7, d8, d9, d10, d11, d12⟩, _⟩ := id hSw; (go_simp) <;> first | decide | exact IntWalk.i64_in _ (by omega)) (by assumption) ?_
    try simp only [Act.put, pw]
    refine wtk 4 21 (.agg #[.int .i64 1, .int .i64 x.k.id, .int .i64 x.k.c, .int .i64 x.k.d, .int .i64 x.k.t, .int .i64 x.k.m, .bool x.s, .int .i64 0, .int .i64 0, .int .i64 0]) rfl (by kernel_rfl) (fun _ _ _ h => h) (by rfl) (fun x hSw => by obtain ⟨⟨d0, d1, d2, d3, d4, d5, d6, d7, d8, d9, d10, d11, d12⟩, _⟩ := id hSw; (go_simp) <;> first | decide | exact IntWalk.i64_in _ (by omega)) (by assumption) ?_
    try simp only [Act.put, pw]
    refine wtk 5 22 (.slice none 0 0) rfl (by kernel_rfl) (fun _ _ _ h => h) (by rfl) (fun x hSw => by obtain ⟨⟨d0, d1, d2, d3, d4, d5, d6, d7, d8, d9, d10, d11, d12⟩, _⟩ := id hSw; (go_simp) <;> first | decide | exact IntWalk.i64_in _ (by omega)) (by assumption) ?_
    try simp only [Act.put, pw]
    refine wpAnyH_ready (rs := [6, 10]) (by kernel_rfl) (by simp) (AllReadyH.cons rfl (fun K hK => ?_) (AllReadyH.cons rfl (fun K hK => ?_) AllReadyH.nil))
    · go_simp
      refine (HM.out _ (HR.out.vr.below B1.out)).mono ?_
      rintro e w2 ⟨er, oc, nc, cc, rfl, hok, hnil, b2⟩
      have B3 := bl_below B1 b2
      have HOK := Lib.hid hok
      have HNIL := Lib.hid hnil
      refine hK.out _ _ (skeep KC B3) (fun hHeld => ?_)
      clear hK K
      clear b2 hok hnil B1
      try simp only [Act.put, pw]
      refine wtk 7 16 (.tuple #[.agg #[.slice oc nc cc, .int .i64 0], .int .i64 er]) rfl (by kernel_rfl) (fun _ _ _ h => h) (by rfl) (fun x hSw => by obtain ⟨⟨d0, d1, d2, d3, d4, d5, d6, d7, d8, d9, d10, d11, d12⟩, _⟩ := id hSw; (go_simp) <;> first | decide | exact IntWalk.i64_in _ (by omega)) (by assumption) ?_
      try simp only [Act.put, pw]
      refine wtk 8 24 (.agg #[.slice oc nc cc, .int .i64 0]) rfl (by kernel_rfl) (fun _ _ _ h => h) (by rfl) (fun x hSw => by obtain ⟨⟨d0, d1, d2, d3, d4, d5, d6, d7, d8, d9, d10, d11, d12⟩, _⟩ := id hSw; (go_simp) <;> first | decide | exact IntWalk.i64_in _ (by omega)) (by assumption) ?_
      try simp only [Act.put, pw]
      refine wtk 9 25 (.int .i64 er) rfl (by kernel_rfl) (fun _ _ _ h => h) (by rfl) (fun x hSw => by obtain ⟨⟨d0, d1, d2, d3, d4, d5, d6, d7, d8, d9, d10, d11, d12⟩, _⟩ := id hSw; (go_simp) <;> first | decide | exact IntWalk.i64_in _ (by omega)) (by assumption) ?_
      try simp only [Act.put, pw]
      refine wpAnyH_ready (rs := [10]) (by kernel_rfl) (by simp) (AllReadyH.cons rfl (fun K hK => ?_) AllReadyH.nil)
      go_simp
      have B4 := bl_alloc (.cells #[.slice none 0 0, .int .i64 0] 79) B3
      refine hK.out _ _ (skeep KC B4) (fun hHeld => ?_)
      clear hK K
      have hZ := Bx.new w2 [.slice none 0 0, .int .i64 0] 79
      have z0 := hZ.cell 0 rfl
      have z1 := hZ.cell 1 rfl
      have f0 := hZ.free 0
      have f1 := hZ.free 1
      clear hZ B4
      try simp only [Act.put, pw]
      refine wpAnyH_ready (rs := [11]) (by kernel_rfl) (by simp) (AllReadyH.cons rfl (fun K hK => ?_) AllReadyH.nil)
      go_simp
      have B5 := bl_alloc (.cells #[.slice oc nc cc, .int .i64 0] 79) B3
      refine hK.out _ _ (skeep KC B5) (fun hHeld => ?_)
      clear hK K
      clear z0 z1 f0 f1
      try simp only [Act.put, pw]
      refine wtk 12 8 (.int .i64 er) rfl (by kernel_rfl) (fun _ _ _ h => h) (by rfl) (fun x hSw => by obtain ⟨⟨d0, d1, d2, d3, d4, d5, d6, d7, d8, d9, d10, d11, d12⟩, _⟩ := id hSw; (go_simp) <;> first | decide | exact IntWalk.i64_in _ (by omega)) (by assumption) ?_
      try simp only [Act.put, pw]
      refine wpAnyH_done (by kernel_rfl) ?_ _
      go_wp2_with fail
      go_meet
      refine ⟨er, oc, nc, cc, _, rfl, rfl, Bx.new w2 [.slice oc nc cc, .int .i64 0] 79, B3.out.size, B5, fun h => ⟨(HOK.out h).1.below ((Below.refl _ _).alloc (Nat.le_refl _) _), fun g hg => ⟨(HOK.out h).2 g hg, ?_⟩⟩, HNIL.out⟩
      have := Sx.lt (HOK.out h).1.1 (HXN.out) hg
      omega
    · go_simp
      have B2 := bl_alloc (.cells #[.slice none 0 0, .int .i64 0] 79) B1
      refine hK.out _ _ (skeep KC B2) (fun hHeld => ?_)
      clear hK K
      have HZ : Hid (Bx (u0.drew.alloc (.cells #[.slice none 0 0, .int .i64 0] 79)) u0.heap.size 79 [.slice none 0 0, .int .i64 0]) := Bx.new u0.drew [.slice none 0 0, .int .i64 0] 79
      try simp only [Act.put, pw]
      refine wpAnyH_ready (rs := [6]) (by kernel_rfl) (by simp) (AllReadyH.cons rfl (fun K hK => ?_) AllReadyH.nil)
      go_simp
      refine (HM.out _ (HR.out.vr.below B2.out)).mono ?_
      rintro e w2 ⟨er, oc, nc, cc, rfl, hok, hnil, b2⟩
      have B3 := bl_below B2 b2
      have HOK := Lib.hid hok
      have HNIL := Lib.hid hnil
      refine hK.out _ _ (skeep KC B3) (fun hHeld => ?_)
      clear hK K
      have hZ := HZ.out.below b2
      have z0 := hZ.cell 0 rfl
      have z1 := hZ.cell 1 rfl
      have f0 := hZ.free 0
      have f1 := hZ.free 1
      have HZ3 := Lib.hid hZ
      clear b2 hok hnil B1 B2 hZ
      try simp only [Act.put, pw]
      refine wtk 7 16 (.tuple #[.agg #[.slice oc nc cc, .int .i64 0], .int .i64 er]) rfl (by kernel_rfl) (fun _ _ _ h => h) (by rfl) (fun x hSw => by obtain ⟨⟨d0, d1, d2, d3, d4, d5, d6, d7, d8, d9, d10, d11, d12⟩, _⟩ := id hSw; (go_simp) <;> first | decide | exact IntWalk.i64_in _ (by omega)) (by assumption) ?_
      try simp only [Act.put, pw]
      refine wtk 8 24 (.agg #[.slice oc nc cc, .int .i64 0]) rfl (by kernel_rfl) (fun _ _ _ h => h) (by rfl) (fun x hSw => by obtain ⟨⟨d0, d1, d2, d3, d4, d5, d6, d7, d8, d9, d10, d11, d12⟩, _⟩ := id hSw; (go_simp) <;> first | decide | exact IntWalk.i64_in _ (by omega)) (by assumption) ?_
      try simp only [Act.put, pw]
      refine wtk 9 25 (.int .i64 er) rfl (by kernel_rfl) (fun _ _ _ h => h) (by rfl) (fun x hSw => by obtain ⟨⟨d0, d1, d2, d3, d4, d5, d6, d7, d8, d9, d10, d11, d12⟩, _⟩ := id hSw; (go_simp) <;> first | decide | exact IntWalk.i64_in _ (by omega)) (by assumption) ?_
      try simp only [Act.put, pw]
      refine wpAnyH_ready (rs := [11]) (by kernel_rfl) (by simp) (AllReadyH.cons rfl (fun K hK => ?_) AllReadyH.nil)
      go_simp
      have B5 : Hid (Below u0.heap.size u0 ((w2.setCell ⟨u0.heap.size, 0, none⟩ (.slice oc nc cc)).setCell ⟨u0.heap.size, 1, none⟩ (.int .i64 0))) := bset (bset B3.out B3.out.size _ _ _ (Nat.le_refl _)) (by simp only [World.size_setCell]; exact B3.out.size) _ _ _ (Nat.le_refl _)
      refine hK.out _ _ (skeep KC B5) (fun hHeld => ?_)
      clear hK K
      clear z0 z1 f0 f1
      try simp only [Act.put, pw]
      refine wtk 12 8 (.int .i64 er) rfl (by kernel_rfl) (fun _ _ _ h => h) (by rfl) (fun x hSw => by obtain ⟨⟨d0, d1, d2, d3, d4, d5, d6, d7, d8, d9, d10, d11, d12⟩, _⟩ := id hSw; (go_simp) <;> first | decide | exact IntWalk.i64_in _ (by omega)) (by assumption) ?_
      try simp only [Act.put, pw]
      refine wpAnyH_done (by kernel_rfl) ?_ _
      go_wp2_with fail
      go_meet
      have t : Turn (fun k => k = u0.heap.size) w2 ((w2.setCell ⟨u0.heap.size, 0, none⟩ (.slice oc nc cc)).setCell ⟨u0.heap.size, 1, none⟩ (.int .i64 0)) := (Turn.set (S := fun k => k = u0.heap.size) _ _ _ _ rfl).trans (Turn.set _ _ _ _ rfl)
      have hsz2 : (u0.drew.alloc (.cells #[.slice none 0 0, .int .i64 0] 79)).heap.size = u0.heap.size + 1 := World.size_alloc _ _
      refine ⟨er, oc, nc, cc, _, rfl, rfl, Bx.set (Bx.set HZ3.out 0 _ _ rfl) 1 _ _ rfl, Nat.le_refl _, B5, fun h => ⟨(HOK.out h).1.turn t (fun _ g hg e => ?_), fun g hg => ⟨?_, ?_⟩⟩, HNIL.out⟩
      all_goals
        have := (HOK.out h).2 g hg
        omega

  case rest =>
    obtain ⟨er, oc, nc, cc, p, rfl, rfl, hP, hp, hB2, hok, hnil⟩ := hcut
    have HRc := Lib.hid (HR.out.turn (S := fun _ => False) (Turn.below hB2.out) (fun _ _ h => h) (fun h => h) (fun _ _ _ h => h))
    have HOc := Lib.hid (HO.out.below hB2.out)
    have hqc : q < wc.heap.size := by have := hB2.out.size; omega
    have hszc := hB2.out.size
    have HBc := Lib.hid (HB.out.trans (hB2.out.mono (Nat.le_of_lt hsz)))
    clear HR HO HB hB2
    by_cases he : er = 0
    · subst he
      obtain ⟨hV2, hO2⟩ := hok.out rfl
      have HV2 := Lib.hid hV2
      have HO2 := Lib.hid hO2
      clear hV2 hO2 hok hnil
      go_wp2_with fail
      have KC : Hid (∀ y, Hid (Turn G wc y) → (y.cell? ⟨q, 0, none⟩ = some (.pointer (some ⟨j, 0, none⟩)) ∧ y.cell? ⟨w.heap.size, 0, none⟩ = some (.int .i64 1) ∧ y.cell? ⟨w.heap.size, 1, none⟩ = some (.int .i64 x.k.id) ∧ y.cell? ⟨w.heap.size, 2, none⟩ = some (.int .i64 x.k.c) ∧ y.cell? ⟨w.heap.size, 3, none⟩ = some (.int .i64 x.k.d) ∧ y.cell? ⟨w.heap.size, 4, none⟩ = some (.int .i64 x.k.t) ∧ y.cell? ⟨w.heap.size, 5, none⟩ = some (.int .i64 x.k.m) ∧ y.cell? ⟨w.heap.size, 6, none⟩ = some (.bool x.s) ∧ y.cell? ⟨w.heap.size, 7, none⟩ = some (.int .i64 0) ∧ y.cell? ⟨w.heap.size, 8, none⟩ = some (.int .i64 0) ∧ y.cell? ⟨w.heap.size, 9, none⟩ = some (.int .i64 0))) := fun y h => ⟨(HRc.out.box.turn h.out HRc.out.nq).cell 0 rfl, (HOc.out.turn h.out (fun h => by have := HLT.out _ h; omega)).cell 0 rfl, (HOc.out.turn h.out (fun h => by have := HLT.out _ h; omega)).cell 1 rfl, (HOc.out.turn h.out (fun h => by have := HLT.out _ h; omega)).cell 2 rfl, (HOc.out.turn h.out (fun h => by have := HLT.out _ h; omega)).cell 3 rfl, (HOc.out.turn h.out (fun h => by have := HLT.out _ h; omega)).cell 4 rfl, (HOc.out.turn h.out (fun h => by have := HLT.out _ h; omega)).cell 5 rfl, (HOc.out.turn h.out (fun h => by have := HLT.out _ h; omega)).cell 6 rfl, (HOc.out.turn h.out (fun h => by have := HLT.out _ h; omega)).cell 7 rfl, (HOc.out.turn h.out (fun h => by have := HLT.out _ h; omega)).cell 8 rfl, (HOc.out.turn h.out (fun h => by have := HLT.out _ h; omega)).cell 9 rfl⟩
      have T1 : Hid (Turn G wc wc.drew) := (Turn.refl _ _).drew
      refine wp_region_held_drew (S := fun y => (y.cell? ⟨q, 0, none⟩ = some (.pointer (some ⟨j, 0, none⟩)) ∧ y.cell? ⟨w.heap.size, 0, none⟩ = some (.int .i64 1) ∧ y.cell? ⟨w.heap.size, 1, none⟩ = some (.int .i64 x.k.id) ∧ y.cell? ⟨w.heap.size, 2, none⟩ = some (.int .i64 x.k.c) ∧ y.cell? ⟨w.heap.size, 3, none⟩ = some (.int .i64 x.k.d) ∧ y.cell? ⟨w.heap.size, 4, none⟩ = some (.int .i64 x.k.t) ∧ y.cell? ⟨w.heap.size, 5, none⟩ = some (.int .i64 x.k.m) ∧ y.cell? ⟨w.heap.size, 6, none⟩ = some (.bool x.s) ∧ y.cell? ⟨w.heap.size, 7, none⟩ = some (.int .i64 0) ∧ y.cell? ⟨w.heap.size, 8, none⟩ = some (.int .i64 0) ∧ y.cell? ⟨w.heap.size, 9, none⟩ = some (.int .i64 0)) ∧ Hid (Turn G wc y)) (by kernel_rfl) (tkp KC T1) (fun hHeld => ?_)
      refine wtk 0 28 (.agg #[.int .i64 1, .int .i64 x.k.id, .int .i64 x.k.c, .int .i64 x.k.d, .int .i64 x.k.t, .int .i64 x.k.m, .bool x.s, .int .i64 0, .int .i64 0, .int .i64 0]) rfl (by kernel_rfl) (fun _ _ _ h => h) (by rfl) (fun x hSw => by obtain ⟨⟨d0, d1, d2, d3, d4, d5, d6, d7, d8, d9, d10⟩, _⟩ := id hSw; (go_simp) <;> first | decide | exact IntWalk.i64_in _ (by omega)) (by assumption) ?_
      try simp only [Act.put, pw]
      refine wtk 1 29 (.pointer (some ⟨q, 0, none⟩)) rfl (by kernel_rfl) (fun _ _ _ h => h) (by rfl) (fun x hSw => by obtain ⟨⟨d0, d1, d2, d3, d4, d5, d6, d7, d8, d9, d10⟩, _⟩ := id hSw; (go_simp) <;> first | decide | exact IntWalk.i64_in _ (by omega)) (by assumption) ?_
      try simp only [Act.put, pw]
      refine wtk 2 30 (.pointer (some ⟨q, 0, none⟩)) rfl (by kernel_rfl) (fun _ _ _ h => h) (by rfl) (fun x hSw => by obtain ⟨⟨d0, d1, d2, d3, d4, d5, d6, d7, d8, d9, d10⟩, _⟩ := id hSw; (go_simp) <;> first | decide | exact IntWalk.i64_in _ (by omega)) (by assumption) ?_
      try simp only [Act.put, pw]
      refine wtk 3 31 (.pointer (some ⟨q, 0, none⟩)) rfl (by kernel_rfl) (fun _ _ _ h => h) (by rfl) (fun x hSw => by obtain ⟨⟨d0, d1, d2, d3, d4, d5, d6, d7, d8, d9, d10⟩, _⟩ := id hSw; (go_simp) <;> first | decide | exact IntWalk.i64_in _ (by omega)) (by assumption) ?_
      try simp only [Act.put, pw]
      refine wtk 4 32 (.pointer (some ⟨q, 0, none⟩)) rfl (by kernel_rfl) (fun _ _ _ h => h) (by rfl) (fun x hSw => by obtain ⟨⟨d0, d1, d2, d3, d4, d5, d6, d7, d8, d9, d10⟩, _⟩ := id hSw; (go_simp) <;> first | decide | exact IntWalk.i64_in _ (by omega)) (by assumption) ?_
      try simp only [Act.put, pw]
      refine wtk 5 33 (.pointer (some ⟨j, 0, none⟩)) rfl (by kernel_rfl) (fun _ _ _ h => h) (by rfl) (fun x hSw => by obtain ⟨⟨d0, d1, d2, d3, d4, d5, d6, d7, d8, d9, d10⟩, _⟩ := id hSw; (go_simp) <;> first | decide | exact IntWalk.i64_in _ (by omega)) (by assumption) ?_
      try simp only [Act.put, pw]
      refine wtk 6 34 (.func (.func 93) #[.pointer (some ⟨j, 0, none⟩)] #[]) rfl (by kernel_rfl) (fun _ _ _ h => h) (by rfl) (fun x hSw => by obtain ⟨⟨d0, d1, d2, d3, d4, d5, d6, d7, d8, d9, d10⟩, _⟩ := id hSw; (go_simp) <;> first | decide | exact IntWalk.i64_in _ (by omega)) (by assumption) ?_
      try simp only [Act.put, pw]
      refine wpAnyH_ready (rs := [7]) (by kernel_rfl) (by simp) (AllReadyH.cons rfl (fun K hK => ?_) AllReadyH.nil)
      go_simp
      refine (HW.out _ (HRc.out.jr.below (bl_drew (bl0 _)).out)).mono ?_
      rintro e w3 ⟨rfl, ⟨w1, hb1, hw1, hJ3⟩, t3⟩
      have T3 : Hid (Turn G wc w3) := T1.out.trans t3
      refine hK.out _ _ (tkp KC T3) (fun hHeld => ?_)
      clear hK K
      have HJ3 := Lib.hid hJ3
      have hs1 : wc.heap.size ≤ w1.heap.size := hb1.size
      have hw1 : w1.heap.size ≤ w3.heap.size := hw1
      clear t3 hJ3 hb1 T1
      try simp only [Act.put, pw]
      refine wtk 8 8 (.int .i64 0) rfl (by kernel_rfl) (fun _ _ _ h => h) (by rfl) (fun x hSw => by obtain ⟨⟨d0, d1, d2, d3, d4, d5, d6, d7, d8, d9, d10⟩, _⟩ := id hSw; (go_simp) <;> first | decide | exact IntWalk.i64_in _ (by omega)) (by assumption) ?_
      try simp only [Act.put, pw]
      refine wpAnyH_done (by kernel_rfl) ?_ _
      have hnG : ∀ i, w.heap.size ≤ i → ¬ G i := fun i hi h => by have := HLT.out i h; omega
      have HNG := Lib.hid hnG
      have hP3 := hP.out.turn T3.out (hnG p (by omega))
      have hQ3 := HRc.out.box.turn T3.out HRc.out.nq
      have p0 := hP3.cell 0 rfl
      have p1 := hP3.cell 1 rfl
      have q1 := hQ3.cell 1 rfl
      have q2 := hQ3.cell 2 rfl
      have f1 := hQ3.free 1
      have f2 := hQ3.free 2
      have HQ3 := Lib.hid hQ3
      clear hnG hP3 hQ3 KC
      go_wp2_with fail
      have t : Turn (fun i => i = q) w3 ((w3.setCell ⟨q, 1, none⟩ (.slice oc nc cc)).setCell ⟨q, 2, none⟩ (.int .i64 0)) := (Turn.set (S := fun i => i = q) _ _ _ _ rfl).trans (Turn.set _ _ _ _ rfl)
      have hq3 : q < w3.heap.size := HQ3.out.lt
      have hown : ∀ g, Value.ownBlock (.slice oc nc cc) = some g → g < wc.heap.size ∧ w.heap.size < g := fun g hg => ⟨HV2.out.1.lt HXN.out hg, by have := (HO2.out g hg).1; omega⟩
      go_ret
      refine ⟨0, rfl, fun _ => rfl, .inl ⟨rfl, Upb G w1 w3, _, ⟨Bx.set (Bx.set HQ3.out 1 _ _ rfl) 2 _ _ rfl, HJ3.out.turn t (fun i _ hi e => ?_), (HV2.out.turn T3.out (fun _ g hg => HNG.out g (by have := hown g hg; omega))).turn t (fun _ g hg e => by have := hown g hg; omega), fun h => ?_, fun i hi => ?_, fun _ g hg => ⟨fun h => ?_, fun e => by have := hown g hg; omega⟩⟩, fun i hi => ?_, fun g hg => by have := hown g hg; omega⟩, ?_⟩
      · subst e
        rcases hi with hi | hi
        · exact HRc.out.nq hi
        · omega
      · rcases h with hi | hi
        · exact HRc.out.nq hi
        · omega
      · have : i < w3.heap.size := by
          rcases hi with hi | hi
          · have := HRc.out.lt i hi; omega
          · exact hi.2
        simpa [World.setCell] using this
      · have h1 := hown g hg
        rcases h with h | h
        · exact HNG.out g (by omega) h
        · omega
      · rcases hi with hi | hi
        · exact .inl hi
        · right; have := HBc.out.size; omega
      · exact ((Turn.below HBc.out).then (T3.out.wide fun i _ h => (.inl h : G i ∨ i = q)) (fun i _ h => h)).then t (fun i _ h => .inr h)
    · have hd : (er == 0) = false := by simpa using he
      go_wp2_with fail
      go_ret
      exact ⟨er, rfl, hnil.out, .inr ⟨he, HRc.out⟩, Turn.below HBc.out⟩
end Go.Proofs.YtoichcickcgbgaaGreatDoor
namespace Go.Proofs.YtoichcickcgbgaaGreatDoor
open Go.RowKit
attribute [local go_sem] Oper.semAt_some
structure Jb where
  id : Int
  rel : Int
  due : Int
  left : Int
deriving Inhabited, DecidableEq
def jc (x : Jb) : List Value := [.int .i64 x.id, .int .i64 x.rel, .int .i64 x.due, .int .i64 x.left]
def jv (x : Jb) : Value := .agg #[.int .i64 x.id, .int .i64 x.rel, .int .i64 x.due, .int .i64 x.left]
/-- The first that is not 0. -/
def orF (a b : Int) : Int := if a = 0 then b else a
def lessF (x y : Jb) : Bool := decide (orF (Lib.compareInt x.due y.due) (Lib.compareInt x.id y.id) < 0)
theorem lessF_asym {x y : Jb} (h : lessF x y = true) : lessF y x = false := by
  unfold lessF orF Lib.compareInt at *
  simp only [decide_eq_true_eq, decide_eq_false_iff_not] at *
  repeat' split at h
  all_goals
    repeat' split
    all_goals omega
set_option maxRecDepth 100000 in
theorem or_any {w : World} {g : Nat} {a b : Int} (h : Bx w g 3 [.int .i64 a, .int .i64 b]) :
    Calls Tryz.prog 77 #[.slice (some ⟨g, 0, none⟩) 2 2] w fun e w' => e = .returned (.int .i64 (orF a b)) ∧ w = w' := by
  have c0 := h.cell 0 rfl
  have c1 := h.cell 1 rfl
  unfold orF
  by_cases ha : a = 0
  · subst ha
    by_cases hb : b = 0
    · subst hb
      go_enter Tryz.func77, Tryz.ntmps77
      go_wp2_with fail
      refine wp_loop_rounds 3 ?_
      rw [rounds_succ]
      go_wp2_with fail
      rw [rounds_succ]
      go_wp2_with fail
      rw [rounds_succ]
      go_wp2_with fail
      go_ret
      exact ⟨rfl, rfl⟩
    · have hb2 : (b != 0) = true := by simpa using hb
      go_enter Tryz.func77, Tryz.ntmps77
      go_wp2_with fail
      refine wp_loop_rounds 3 ?_
      rw [rounds_succ]
      go_wp2_with fail
      rw [rounds_succ]
      go_wp2_with fail
      go_ret
      exact ⟨rfl, rfl⟩
  · have ha2 : (a != 0) = true := by simpa using ha
    simp only [ha, if_false]
    go_enter Tryz.func77, Tryz.ntmps77
    go_wp2_with fail
    refine wp_loop_rounds 3 ?_
    rw [rounds_succ]
    go_wp2_with fail
    go_ret
    exact ⟨rfl, rfl⟩
set_option maxRecDepth 100000 in
set_option maxHeartbeats 1000000 in
theorem less_any (x y : Jb) (w : World) : Calls Tryz.prog 44 #[jv x, jv y] w fun e w' => e = .returned (.bool (lessF x y)) ∧ Below w.heap.size w w' := by
  have hb0 := ((Below.refl w.heap.size w).alloc (Nat.le_refl _) (.cells #[.int .i64 x.id, .int .i64 x.rel, .int .i64 x.due, .int .i64 x.left] 137)).alloc (by simp) (.cells #[.int .i64 y.id, .int .i64 y.rel, .int .i64 y.due, .int .i64 y.left] 137)
  have HX := Lib.hid ((Bx.new w [.int .i64 x.id, .int .i64 x.rel, .int .i64 x.due, .int .i64 x.left] 137).more (.cells #[.int .i64 y.id, .int .i64 y.rel, .int .i64 y.due, .int .i64 y.left] 137))
  have HY := Lib.hid (Bx.new (w.alloc (.cells #[.int .i64 x.id, .int .i64 x.rel, .int .i64 x.due, .int .i64 x.left] 137)) [.int .i64 y.id, .int .i64 y.rel, .int .i64 y.due, .int .i64 y.left] 137)
  simp only [World.size_alloc] at HY
  have HB := Lib.hid hb0
  show Calls Tryz.prog 44 #[.agg #[.int .i64 x.id, .int .i64 x.rel, .int .i64 x.due, .int .i64 x.left], .agg #[.int .i64 y.id, .int .i64 y.rel, .int .i64 y.due, .int .i64 y.left]] w _
  clear hb0
  go_enter Tryz.func44, Tryz.ntmps44
  go_wp2_with fail
  generalize (w.alloc (.cells #[.int .i64 x.id, .int .i64 x.rel, .int .i64 x.due, .int .i64 x.left] 137)).alloc (.cells #[.int .i64 y.id, .int .i64 y.rel, .int .i64 y.due, .int .i64 y.left] 137) = u0 at *
  have KC : Hid (∀ z, Hid (Below u0.heap.size u0 z) → (z.cell? ⟨w.heap.size, 0, none⟩ = some (.int .i64 x.id) ∧ z.cell? ⟨w.heap.size, 1, none⟩ = some (.int .i64 x.rel) ∧ z.cell? ⟨w.heap.size, 2, none⟩ = some (.int .i64 x.due) ∧ z.cell? ⟨w.heap.size, 3, none⟩ = some (.int .i64 x.left) ∧ z.cell? ⟨w.heap.size + 1, 0, none⟩ = some (.int .i64 y.id) ∧ z.cell? ⟨w.heap.size + 1, 1, none⟩ = some (.int .i64 y.rel) ∧ z.cell? ⟨w.heap.size + 1, 2, none⟩ = some (.int .i64 y.due) ∧ z.cell? ⟨w.heap.size + 1, 3, none⟩ = some (.int .i64 y.left))) := fun z h => ⟨(HX.out.bl h).cell 0 rfl, (HX.out.bl h).cell 1 rfl, (HX.out.bl h).cell 2 rfl, (HX.out.bl h).cell 3 rfl, (HY.out.bl h).cell 0 rfl, (HY.out.bl h).cell 1 rfl, (HY.out.bl h).cell 2 rfl, (HY.out.bl h).cell 3 rfl⟩
  have B1 : Hid (Below u0.heap.size u0 u0.drew) := bl_drew (bl0 _)
  refine wp_region_held_drew (S := fun z => (z.cell? ⟨w.heap.size, 0, none⟩ = some (.int .i64 x.id) ∧ z.cell? ⟨w.heap.size, 1, none⟩ = some (.int .i64 x.rel) ∧ z.cell? ⟨w.heap.size, 2, none⟩ = some (.int .i64 x.due) ∧ z.cell? ⟨w.heap.size, 3, none⟩ = some (.int .i64 x.left) ∧ z.cell? ⟨w.heap.size + 1, 0, none⟩ = some (.int .i64 y.id) ∧ z.cell? ⟨w.heap.size + 1, 1, none⟩ = some (.int .i64 y.rel) ∧ z.cell? ⟨w.heap.size + 1, 2, none⟩ = some (.int .i64 y.due) ∧ z.cell? ⟨w.heap.size + 1, 3, none⟩ = some (.int .i64 y.left)) ∧ Hid (Below u0.heap.size u0 z)) (by kernel_rfl) (skeep KC B1) (fun hHeld => ?_)
  refine wtk 0 5 (.pointer (some ⟨w.heap.size, 2, none⟩)) rfl (by kernel_rfl) (fun _ _ _ h => h) (by rfl) (fun x hSw => by obtain ⟨⟨d0, d1, d2, d3, d4, d5, d6, d7⟩, _⟩ := id hSw; (go_simp) <;> first | decide | exact IntWalk.i64_in _ (by omega)) (by assumption) ?_
  try simp only [Act.put, pw]
  refine wtk 1 6 (.int .i64 x.due) rfl (by kernel_rfl) (fun _ _ _ h => h) (by rfl) (fun x hSw => by obtain ⟨⟨d0, d1, d2, d3, d4, d5, d6, d7⟩, _⟩ := id hSw; (go_simp) <;> first | decide | exact IntWalk.i64_in _ (by omega)) (by assumption) ?_
  try simp only [Act.put, pw]
  refine wtk 2 7 (.pointer (some ⟨w.heap.size + 1, 2, none⟩)) rfl (by kernel_rfl) (fun _ _ _ h => h) (by rfl) (fun x hSw => by obtain ⟨⟨d0, d1, d2, d3, d4, d5, d6, d7⟩, _⟩ := id hSw; (go_simp) <;> first | decide | exact IntWalk.i64_in _ (by omega)) (by assumption) ?_
  try simp only [Act.put, pw]
  refine wtk 3 8 (.int .i64 y.due) rfl (by kernel_rfl) (fun _ _ _ h => h) (by rfl) (fun x hSw => by obtain ⟨⟨d0, d1, d2, d3, d4, d5, d6, d7⟩, _⟩ := id hSw; (go_simp) <;> first | decide | exact IntWalk.i64_in _ (by omega)) (by assumption) ?_
  try simp only [Act.put, pw]
  refine wtk 5 10 (.pointer (some ⟨w.heap.size, 0, none⟩)) rfl (by kernel_rfl) (fun _ _ _ h => h) (by rfl) (fun x hSw => by obtain ⟨⟨d0, d1, d2, d3, d4, d5, d6, d7⟩, _⟩ := id hSw; (go_simp) <;> first | decide | exact IntWalk.i64_in _ (by omega)) (by assumption) ?_
  try simp only [Act.put, pw]
  refine wtk 6 11 (.int .i64 x.id) rfl (by kernel_rfl) (fun _ _ _ h => h) (by rfl) (fun x hSw => by obtain ⟨⟨d0, d1, d2, d3, d4, d5, d6, d7⟩, _⟩ := id hSw; (go_simp) <;> first | decide | exact IntWalk.i64_in _ (by omega)) (by assumption) ?_
  try simp only [Act.put, pw]
  refine wtk 7 12 (.pointer (some ⟨w.heap.size + 1, 0, none⟩)) rfl (by kernel_rfl) (fun _ _ _ h => h) (by rfl) (fun x hSw => by obtain ⟨⟨d0, d1, d2, d3, d4, d5, d6, d7⟩, _⟩ := id hSw; (go_simp) <;> first | decide | exact IntWalk.i64_in _ (by omega)) (by assumption) ?_
  try simp only [Act.put, pw]
  refine wtk 8 13 (.int .i64 y.id) rfl (by kernel_rfl) (fun _ _ _ h => h) (by rfl) (fun x hSw => by obtain ⟨⟨d0, d1, d2, d3, d4, d5, d6, d7⟩, _⟩ := id hSw; (go_simp) <;> first | decide | exact IntWalk.i64_in _ (by omega)) (by assumption) ?_
  try simp only [Act.put, pw]
  refine wpAnyH_ready (rs := [4]) (by kernel_rfl) (by simp) (AllReadyH.cons rfl (fun K hK => ?_) AllReadyH.nil)
  go_simp
  refine (AnyG.cmp_Compare_int Sh.cmpL _ _ _).mono ?_
  rintro e w1 ⟨rfl, rfl⟩
  refine hK.out _ _ (skeep KC B1) (fun hHeld => ?_)
  clear hK K
  try simp only [Act.put, pw]
  refine wpAnyH_ready (rs := [9]) (by kernel_rfl) (by simp) (AllReadyH.cons rfl (fun K hK => ?_) AllReadyH.nil)
  go_simp
  refine (Sh.cmp_Compare_int _ _ _).mono ?_
  rintro e w1 ⟨rfl, rfl⟩
  refine hK.out _ _ (skeep KC B1) (fun hHeld => ?_)
  clear hK K
  try simp only [Act.put, pw]
  refine wpAnyH_ready (rs := [10]) (by kernel_rfl) (by simp) (AllReadyH.cons rfl (fun K hK => ?_) AllReadyH.nil)
  go_simp
  have B2 := bl_alloc (.cells #[.int .i64 (Lib.compareInt x.due y.due), .int .i64 (Lib.compareInt x.id y.id)] 3) B1
  refine hK.out _ _ (skeep KC B2) (fun hHeld => ?_)
  clear hK K
  have HO := Lib.hid (Bx.new u0.drew [.int .i64 (Lib.compareInt x.due y.due), .int .i64 (Lib.compareInt x.id y.id)] 3)
  clear B1
  try simp only [Act.put, pw]
  refine wpAnyH_ready (rs := [11]) (by kernel_rfl) (by simp) (AllReadyH.cons rfl (fun K hK => ?_) AllReadyH.nil)
  go_simp
  refine (or_any HO.out).mono ?_
  rintro e w2 ⟨rfl, rfl⟩
  refine hK.out _ _ (skeep KC B2) (fun hHeld => ?_)
  clear hK K
  try simp only [Act.put, pw]
  refine wtk 12 17 (.bool (decide (orF (Lib.compareInt x.due y.due) (Lib.compareInt x.id y.id) < 0))) rfl (by kernel_rfl) (fun _ _ _ h => h) (by rfl) (fun x hSw => by obtain ⟨⟨d0, d1, d2, d3, d4, d5, d6, d7⟩, _⟩ := id hSw; (go_simp) <;> first | decide | exact IntWalk.i64_in _ (by omega)) (by assumption) ?_
  try simp only [Act.put, pw]
  refine wtk 13 4 (.bool (decide (orF (Lib.compareInt x.due y.due) (Lib.compareInt x.id y.id) < 0))) rfl (by kernel_rfl) (fun _ _ _ h => h) (by rfl) (fun x hSw => by obtain ⟨⟨d0, d1, d2, d3, d4, d5, d6, d7⟩, _⟩ := id hSw; (go_simp) <;> first | decide | exact IntWalk.i64_in _ (by omega)) (by assumption) ?_
  try simp only [Act.put, pw]
  refine wpAnyH_done (by kernel_rfl) ?_ _
  go_wp2_with fail
  go_ret
  exact ⟨rfl, HB.out.trans (B2.out.mono HB.out.size)⟩
end Go.Proofs.YtoichcickcgbgaaGreatDoor
