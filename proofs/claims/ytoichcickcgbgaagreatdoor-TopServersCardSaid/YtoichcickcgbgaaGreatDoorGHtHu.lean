/-
  A heap of two jobs at most: Min, Take, Change.
  A heap of two jobs at most: what Take and Change leave.
-/
import Derived.Test.YtoichcickcgbgaaGreatDoorGHq
namespace Go.Proofs.YtoichcickcgbgaaGreatDoor
open Go.RowKit
attribute [local go_sem] Oper.semAt_some
attribute [local go_sem] run_store_func
/-- A node. -/
def Nd (w : World) (p : Nat) (a : Jb) (d : Int) (x y : Value) : Prop := Bx w p 289 [.int .i64 a.id, .int .i64 a.rel, .int .i64 a.due, .int .i64 a.left, .int .i64 d, x, y]
theorem Hp.top {w : World} {h : Nat} {a : Jb} {js : List Jb} (hp : Hp w h (a :: js)) : ∃ (p : Nat) (n : Int) (oc : Option Addr), Hx w h (.pointer (some ⟨p, 0, none⟩)) n ∧ Nd w p a 1 (.pointer oc) (.pointer none) ∧ n = (js.length : Int) + 1 ∧ (oc = none ∨ ∃ c, oc = some ⟨c, 0, none⟩) ∧ (∀ (w' : World), Turn (fun i => i = h) w w' → Hx w' h (.pointer oc) (n - 1) → Hp w' h js) := by
  match js, hp with
  | [], ⟨p, h1, h2⟩ => exact ⟨p, 1, _, h1, h2, rfl, .inl rfl, fun w' _ hx => hx⟩
  | [b], ⟨p, c, h1, h2, h3⟩ => exact ⟨p, 2, _, h1, h2, rfl, .inr ⟨c, rfl⟩, fun w' t hx => ⟨c, hx, Bx.turn h3 t (Bx.ne h3 h1 (by decide))⟩⟩
  | _ :: _ :: _, hp => exact hp.elim
theorem meld_left (w : World) (hv : Value) (oc : Option Addr) (hlf : oc = none ∨ ∃ c, oc = some ⟨c, 0, none⟩) : Calls Tryz.prog 166 #[hv, .pointer oc, .pointer none] w fun e w' => e = .returned (.pointer oc) ∧ w = w' := by
  rcases hlf with rfl | ⟨c, rfl⟩
  · exact meld_ln w hv _
  · exact meld_rn w hv c
set_option maxRecDepth 100000 in
set_option maxHeartbeats 1000000 in
theorem min_at {w : World} {h p : Nat} {n d : Int} {lf rt : Value} {a : Jb} (hH : Hx w h (.pointer (some ⟨p, 0, none⟩)) n) (hN : Nd w p a d lf rt) (hn : 0 < n) :
    Calls Tryz.prog 145 #[.pointer (some ⟨h, 0, none⟩)] w fun e w' => e = .returned (.tuple #[.agg #[.int .i64 a.id, .int .i64 a.rel, .int .i64 a.due, .int .i64 a.left], .bool true]) ∧ Below w.heap.size w w' := by
  have bX := (Below.refl w.heap.size w).alloc (Nat.le_refl _) (.cells #[.int .i64 0, .int .i64 0, .int .i64 0, .int .i64 0] 137)
  have hZ := Bx.new w [.int .i64 0, .int .i64 0, .int .i64 0, .int .i64 0] 137
  have HH : Hid (Hx _ h _ n) := Bx.below hH bX
  have hN1 : Nd _ p a d lf rt := Bx.below hN bX
  have hH1 := HH.out
  have HB := Lib.hid bX
  have n0 : (n == 0) = false := by simp; omega
  have c1 := Bx.cell hH1 1 rfl
  have q0 := Bx.cell hN1 0 rfl
  have q1 := Bx.cell hN1 1 rfl
  have q2 := Bx.cell hN1 2 rfl
  have q3 := Bx.cell hN1 3 rfl
  have z0 := hZ.cell 0 rfl
  have f0 := hZ.free 0
  have z1 := hZ.cell 1 rfl
  have f1 := hZ.free 1
  have z2 := hZ.cell 2 rfl
  have f2 := hZ.free 2
  have z3 := hZ.cell 3 rfl
  have f3 := hZ.free 3
  clear bX hH hN hH1
  have HZ := Lib.hid hZ
  have HN := Lib.hid hN1
  clear hZ hN1
  go_enter Tryz.func145, Tryz.ntmps145
  go_wp2_with fail
  generalize w.alloc (.cells #[.int .i64 0, .int .i64 0, .int .i64 0, .int .i64 0] 137) = u0 at *
  refine (len_any HH.out).mono ?_
  rintro e w1 ⟨rfl, rfl⟩
  go_wp2_with fail
  have s0 := Bx.set (w := u0) HZ.out 0 (.int .i64 a.id) _ rfl
  have s1 := Bx.set (w := _) s0 1 (.int .i64 a.rel) _ rfl
  have s2 := Bx.set (w := _) s1 2 (.int .i64 a.due) _ rfl
  have s3 := Bx.set (w := _) s2 3 (.int .i64 a.left) _ rfl
  have e0 := s3.cell 0 rfl
  have e1 := s3.cell 1 rfl
  have e2 := s3.cell 2 rfl
  have e3 := s3.cell 3 rfl
  refine bodyPost_ret (v := .tuple #[.agg #[.int .i64 a.id, .int .i64 a.rel, .int .i64 a.due, .int .i64 a.left], .bool true]) (by simp [results, Tryz.results145, go_sem, e0, e1, e2, e3]) rfl ?_
  exact ⟨rfl, (bset (bset (bset (bset HB.out HB.out.size w.heap.size 0 (.int .i64 a.id) (Nat.le_refl _)) (by simp only [World.size_setCell]; exact HB.out.size) w.heap.size 1 (.int .i64 a.rel) (Nat.le_refl _)) (by simp only [World.size_setCell]; exact HB.out.size) w.heap.size 2 (.int .i64 a.due) (Nat.le_refl _)) (by simp only [World.size_setCell]; exact HB.out.size) w.heap.size 3 (.int .i64 a.left) (Nat.le_refl _))⟩
set_option maxRecDepth 100000 in
set_option maxHeartbeats 2000000 in
theorem take_at {w : World} {h p : Nat} {n d : Int} {oc : Option Addr} {a : Jb} (hH : Hx w h (.pointer (some ⟨p, 0, none⟩)) n) (hN : Nd w p a d (.pointer oc) (.pointer none)) (hn : 0 < n) (hn2 : n ≤ 2) (hlf : oc = none ∨ ∃ c, oc = some ⟨c, 0, none⟩) :
    Calls Tryz.prog 146 #[.pointer (some ⟨h, 0, none⟩)] w fun e w' => e = .returned (.tuple #[.agg #[.int .i64 a.id, .int .i64 a.rel, .int .i64 a.due, .int .i64 a.left], .bool true]) ∧ Hx w' h (.pointer oc) (n - 1) ∧ Turn (fun i => i = h) w w' := by
  have bX := (Below.refl w.heap.size w).alloc (Nat.le_refl _) (.cells #[.int .i64 0, .int .i64 0, .int .i64 0, .int .i64 0] 137)
  have HZ := Lib.hid (Bx.new w [.int .i64 0, .int .i64 0, .int .i64 0, .int .i64 0] 137)
  have HH : Hid (Hx _ h _ n) := Bx.below hH bX
  have HN : Hid (Nd _ p a d (.pointer oc) (.pointer none)) := Bx.below hN bX
  have HB := Lib.hid bX
  have HLF := Lib.hid hlf
  have hhl : h < w.heap.size := Bx.lt hH
  clear bX hH hN hlf
  go_enter Tryz.func146, Tryz.ntmps146
  go_wp2_with fail
  generalize w.alloc (.cells #[.int .i64 0, .int .i64 0, .int .i64 0, .int .i64 0] 137) = u0 at *
  refine (min_at HH.out HN.out hn).mono ?_
  rintro e w1 ⟨rfl, b1⟩
  have HH1 : Hid (Hx w1 h _ n) := Bx.below HH.out b1
  have HN1 : Hid (Nd w1 p a d (.pointer oc) (.pointer none)) := Bx.below HN.out b1
  have hZ1 := HZ.out.below b1
  have z0 := hZ1.cell 0 rfl
  have f0 := hZ1.free 0
  have z1 := hZ1.cell 1 rfl
  have f1 := hZ1.free 1
  have z2 := hZ1.cell 2 rfl
  have f2 := hZ1.free 2
  have z3 := hZ1.cell 3 rfl
  have f3 := hZ1.free 3
  have HB1 := Lib.hid (HB.out.trans (b1.mono HB.out.size))
  have HZ1 := Lib.hid hZ1
  clear b1 hZ1 HH HN HZ HB
  go_upto_region 3 with fail
  have t1 : Turn (fun i => i = w.heap.size) w1 ((((w1.setCell ⟨w.heap.size, 0, none⟩ (.int .i64 a.id)).setCell ⟨w.heap.size, 1, none⟩ (.int .i64 a.rel)).setCell ⟨w.heap.size, 2, none⟩ (.int .i64 a.due)).setCell ⟨w.heap.size, 3, none⟩ (.int .i64 a.left)) := ((((Turn.set (S := fun i => i = w.heap.size) _ _ _ _ rfl).trans (Turn.set _ _ _ _ rfl)).trans (Turn.set _ _ _ _ rfl)).trans (Turn.set _ _ _ _ rfl))
  have g0 := Bx.set (w := w1) HZ1.out 0 (.int .i64 a.id) _ rfl
  have g1 := Bx.set (w := _) g0 1 (.int .i64 a.rel) _ rfl
  have g2 := Bx.set (w := _) g1 2 (.int .i64 a.due) _ rfl
  have g3 := Bx.set (w := _) g2 3 (.int .i64 a.left) _ rfl
  have HH2 : Hid (Hx ((((w1.setCell ⟨w.heap.size, 0, none⟩ (.int .i64 a.id)).setCell ⟨w.heap.size, 1, none⟩ (.int .i64 a.rel)).setCell ⟨w.heap.size, 2, none⟩ (.int .i64 a.due)).setCell ⟨w.heap.size, 3, none⟩ (.int .i64 a.left)) h (.pointer (some ⟨p, 0, none⟩)) n) := Bx.turn HH1.out t1 (by omega)
  have HN2 : Hid (Nd ((((w1.setCell ⟨w.heap.size, 0, none⟩ (.int .i64 a.id)).setCell ⟨w.heap.size, 1, none⟩ (.int .i64 a.rel)).setCell ⟨w.heap.size, 2, none⟩ (.int .i64 a.due)).setCell ⟨w.heap.size, 3, none⟩ (.int .i64 a.left)) p a d (.pointer oc) (.pointer none)) := Bx.turn HN1.out t1 (Bx.ne HN1.out HZ1.out (by decide))
  have HZ2 := Lib.hid g3
  have HB2 : Hid (Below w.heap.size w ((((w1.setCell ⟨w.heap.size, 0, none⟩ (.int .i64 a.id)).setCell ⟨w.heap.size, 1, none⟩ (.int .i64 a.rel)).setCell ⟨w.heap.size, 2, none⟩ (.int .i64 a.due)).setCell ⟨w.heap.size, 3, none⟩ (.int .i64 a.left))) := Turn.to HB1.out t1 HB1.out.size (fun i e => by omega)
  clear g0 g1 g2 g3 t1 z0 z1 z2 z3 f0 f1 f2 f3 HH1 HN1 HZ1 HB1
  generalize (((w1.setCell ⟨w.heap.size, 0, none⟩ (.int .i64 a.id)).setCell ⟨w.heap.size, 1, none⟩ (.int .i64 a.rel)).setCell ⟨w.heap.size, 2, none⟩ (.int .i64 a.due)).setCell ⟨w.heap.size, 3, none⟩ (.int .i64 a.left) = u2 at *
  go_cut [] (fun wx => Hid (Hx wx h (.pointer oc) n) ∧ Hid (Turn (fun i => i = h) u2 wx))
  case first =>
    have HNE : Hid (¬ p = h) := Bx.ne HN2.out HH2.out (by decide)
    have cT : u2.drew.cell? ⟨h, 1, none⟩ = some (.pointer (some ⟨p, 0, none⟩)) := Bx.cell HH2.out 1 rfl
    go_wp2_with fail
    have KC : Hid (∀ z, Hid (Turn (fun i => i = h) u2 z) → (z.cell? ⟨p, 5, none⟩ = some (.pointer oc) ∧ z.cell? ⟨p, 6, none⟩ = some (.pointer none))) := fun z b => ⟨Bx.cell (Bx.turn HN2.out b.out HNE.out) 5 rfl, Bx.cell (Bx.turn HN2.out b.out HNE.out) 6 rfl⟩
    have T1 : Hid (Turn (fun i => i = h) u2 u2.drew) := (Turn.refl _ _).drew
    refine wp_region_held_drew (S := fun z => (z.cell? ⟨p, 5, none⟩ = some (.pointer oc) ∧ z.cell? ⟨p, 6, none⟩ = some (.pointer none)) ∧ Hid (Turn (fun i => i = h) u2 z)) (by kernel_rfl) (tkp KC T1) (fun hHeld => ?_)
    refine wtk 0 10 (.pointer (some ⟨h, 0, none⟩)) rfl (by kernel_rfl) (fun _ _ _ h => h) (by rfl) (fun x hSw => by obtain ⟨⟨d0, d1⟩, _⟩ := id hSw; (go_simp) <;> first | decide | exact IntWalk.i64_in _ (by omega)) (by assumption) ?_
    try simp only [Act.put, pw]
    refine wtk 1 11 (.pointer (some ⟨h, 0, none⟩)) rfl (by kernel_rfl) (fun _ _ _ h => h) (by rfl) (fun x hSw => by obtain ⟨⟨d0, d1⟩, _⟩ := id hSw; (go_simp) <;> first | decide | exact IntWalk.i64_in _ (by omega)) (by assumption) ?_
    try simp only [Act.put, pw]
    refine wtk 2 12 (.pointer (some ⟨h, 0, none⟩)) rfl (by kernel_rfl) (fun _ _ _ h => h) (by rfl) (fun x hSw => by obtain ⟨⟨d0, d1⟩, _⟩ := id hSw; (go_simp) <;> first | decide | exact IntWalk.i64_in _ (by omega)) (by assumption) ?_
    try simp only [Act.put, pw]
    refine wtk 3 13 (.pointer (some ⟨h, 0, none⟩)) rfl (by kernel_rfl) (fun _ _ _ h => h) (by rfl) (fun x hSw => by obtain ⟨⟨d0, d1⟩, _⟩ := id hSw; (go_simp) <;> first | decide | exact IntWalk.i64_in _ (by omega)) (by assumption) ?_
    try simp only [Act.put, pw]
    refine wtk 4 14 (.pointer (some ⟨h, 1, none⟩)) rfl (by kernel_rfl) (fun _ _ _ h => h) (by rfl) (fun x hSw => by obtain ⟨⟨d0, d1⟩, _⟩ := id hSw; (go_simp) <;> first | decide | exact IntWalk.i64_in _ (by omega)) (by assumption) ?_
    try simp only [Act.put, pw]
    refine wtk 9 19 (.pointer (some ⟨h, 0, none⟩)) rfl (by kernel_rfl) (fun _ _ _ h => h) (by rfl) (fun x hSw => by obtain ⟨⟨d0, d1⟩, _⟩ := id hSw; (go_simp) <;> first | decide | exact IntWalk.i64_in _ (by omega)) (by assumption) ?_
    try simp only [Act.put, pw]
    refine wtk 10 20 (.pointer (some ⟨h, 0, none⟩)) rfl (by kernel_rfl) (fun _ _ _ h => h) (by rfl) (fun x hSw => by obtain ⟨⟨d0, d1⟩, _⟩ := id hSw; (go_simp) <;> first | decide | exact IntWalk.i64_in _ (by omega)) (by assumption) ?_
    try simp only [Act.put, pw]
    refine wtk 11 21 (.pointer (some ⟨h, 1, none⟩)) rfl (by kernel_rfl) (fun _ _ _ h => h) (by rfl) (fun x hSw => by obtain ⟨⟨d0, d1⟩, _⟩ := id hSw; (go_simp) <;> first | decide | exact IntWalk.i64_in _ (by omega)) (by assumption) ?_
    try simp only [Act.put, pw]
    refine wpAnyH_ready (rs := [5, 12]) (by kernel_rfl) (by simp) (AllReadyH.cons rfl (fun K hK => ?_) (AllReadyH.cons rfl (fun K hK => ?_) AllReadyH.nil))
    · go_simp
      refine hK.out _ _ (tkp KC T1) (fun hHeld => ?_)
      clear hK K
      try simp only [Act.put, pw]
      refine wtk 6 16 (.pointer (some ⟨p, 0, none⟩)) rfl (by kernel_rfl) (fun _ _ _ h => h) (by rfl) (fun x hSw => by obtain ⟨⟨d0, d1⟩, _⟩ := id hSw; (go_simp) <;> first | decide | exact IntWalk.i64_in _ (by omega)) (by assumption) ?_
      try simp only [Act.put, pw]
      refine wtk 7 17 (.pointer (some ⟨p, 5, none⟩)) rfl (by kernel_rfl) (fun _ _ _ h => h) (by rfl) (fun x hSw => by obtain ⟨⟨d0, d1⟩, _⟩ := id hSw; (go_simp) <;> first | decide | exact IntWalk.i64_in _ (by omega)) (by assumption) ?_
      try simp only [Act.put, pw]
      refine wtk 8 18 (.pointer oc) rfl (by kernel_rfl) (fun _ _ _ h => h) (by rfl) (fun x hSw => by obtain ⟨⟨d0, d1⟩, _⟩ := id hSw; (go_simp) <;> first | decide | exact IntWalk.i64_in _ (by omega)) (by assumption) ?_
      try simp only [Act.put, pw]
      refine wpAnyH_ready (rs := [12]) (by kernel_rfl) (by simp) (AllReadyH.cons rfl (fun K hK => ?_) AllReadyH.nil)
      go_simp
      refine hK.out _ _ (tkp KC T1) (fun hHeld => ?_)
      clear hK K
      try simp only [Act.put, pw]
      refine wtk 13 23 (.pointer (some ⟨p, 0, none⟩)) rfl (by kernel_rfl) (fun _ _ _ h => h) (by rfl) (fun x hSw => by obtain ⟨⟨d0, d1⟩, _⟩ := id hSw; (go_simp) <;> first | decide | exact IntWalk.i64_in _ (by omega)) (by assumption) ?_
      try simp only [Act.put, pw]
      refine wtk 14 24 (.pointer (some ⟨p, 6, none⟩)) rfl (by kernel_rfl) (fun _ _ _ h => h) (by rfl) (fun x hSw => by obtain ⟨⟨d0, d1⟩, _⟩ := id hSw; (go_simp) <;> first | decide | exact IntWalk.i64_in _ (by omega)) (by assumption) ?_
      try simp only [Act.put, pw]
      refine wtk 15 25 (.pointer none) rfl (by kernel_rfl) (fun _ _ _ h => h) (by rfl) (fun x hSw => by obtain ⟨⟨d0, d1⟩, _⟩ := id hSw; (go_simp) <;> first | decide | exact IntWalk.i64_in _ (by omega)) (by assumption) ?_
      try simp only [Act.put, pw]
      refine wpAnyH_ready (rs := [16]) (by kernel_rfl) (by simp) (AllReadyH.cons rfl (fun K hK => ?_) AllReadyH.nil)
      go_simp
      refine (meld_left _ _ _ HLF.out).mono ?_
      rintro e w2 ⟨rfl, rfl⟩
      refine hK.out _ _ (tkp KC T1) (fun hHeld => ?_)
      clear hK K
      clear cT
      have hH3 : Hx u2.drew h (.pointer (some ⟨p, 0, none⟩)) n := HH2.out
      have c1 := Bx.cell hH3 1 rfl
      have f1 := Bx.free hH3 1
      have HS := Lib.hid (Bx.set (w := u2.drew) hH3 1 (.pointer oc) _ rfl)
      clear hH3
      try simp only [Act.put, pw]
      refine wtk 17 27 (.pointer (some ⟨h, 0, none⟩)) rfl (by kernel_rfl) (fun _ _ _ h => h) (by rfl) (fun x hSw => by obtain ⟨⟨d0, d1⟩, _⟩ := id hSw; (go_simp) <;> first | decide | exact IntWalk.i64_in _ (by omega)) (by assumption) ?_
      try simp only [Act.put, pw]
      refine wtk 18 28 (.pointer (some ⟨h, 1, none⟩)) rfl (by kernel_rfl) (fun _ _ _ h => h) (by rfl) (fun x hSw => by obtain ⟨⟨d0, d1⟩, _⟩ := id hSw; (go_simp) <;> first | decide | exact IntWalk.i64_in _ (by omega)) (by assumption) ?_
      try simp only [Act.put, pw]
      refine wpAnyH_ready (rs := [19]) (by kernel_rfl) (by simp) (AllReadyH.cons rfl (fun K hK => ?_) AllReadyH.nil)
      go_simp
      have T5 : Hid (Turn (fun i => i = h) u2 (u2.drew.setCell ⟨h, 1, none⟩ (.pointer oc))) := T1.out.trans (Turn.set _ _ _ _ rfl)
      refine hK.out _ _ (tkp KC T5) (fun hHeld => ?_)
      clear hK K
      clear c1 f1
      try simp only [Act.put, pw]
      refine wpAnyH_done (by kernel_rfl) ?_ _
      go_wp2_with fail
      go_meet
      exact ⟨HS.out, T5⟩
    · go_simp
      refine hK.out _ _ (tkp KC T1) (fun hHeld => ?_)
      clear hK K
      try simp only [Act.put, pw]
      refine wtk 13 23 (.pointer (some ⟨p, 0, none⟩)) rfl (by kernel_rfl) (fun _ _ _ h => h) (by rfl) (fun x hSw => by obtain ⟨⟨d0, d1⟩, _⟩ := id hSw; (go_simp) <;> first | decide | exact IntWalk.i64_in _ (by omega)) (by assumption) ?_
      try simp only [Act.put, pw]
      refine wtk 14 24 (.pointer (some ⟨p, 6, none⟩)) rfl (by kernel_rfl) (fun _ _ _ h => h) (by rfl) (fun x hSw => by obtain ⟨⟨d0, d1⟩, _⟩ := id hSw; (go_simp) <;> first | decide | exact IntWalk.i64_in _ (by omega)) (by assumption) ?_
      try simp only [Act.put, pw]
      refine wtk 15 25 (.pointer none) rfl (by kernel_rfl) (fun _ _ _ h => h) (by rfl) (fun x hSw => by obtain ⟨⟨d0, d1⟩, _⟩ := id hSw; (go_simp) <;> first | decide | exact IntWalk.i64_in _ (by omega)) (by assumption) ?_
      try simp only [Act.put, pw]
      refine wpAnyH_ready (rs := [5]) (by kernel_rfl) (by simp) (AllReadyH.cons rfl (fun K hK => ?_) AllReadyH.nil)
      go_simp
      refine hK.out _ _ (tkp KC T1) (fun hHeld => ?_)
      clear hK K
      try simp only [Act.put, pw]
      refine wtk 6 16 (.pointer (some ⟨p, 0, none⟩)) rfl (by kernel_rfl) (fun _ _ _ h => h) (by rfl) (fun x hSw => by obtain ⟨⟨d0, d1⟩, _⟩ := id hSw; (go_simp) <;> first | decide | exact IntWalk.i64_in _ (by omega)) (by assumption) ?_
      try simp only [Act.put, pw]
      refine wtk 7 17 (.pointer (some ⟨p, 5, none⟩)) rfl (by kernel_rfl) (fun _ _ _ h => h) (by rfl) (fun x hSw => by obtain ⟨⟨d0, d1⟩, _⟩ := id hSw; (go_simp) <;> first | decide | exact IntWalk.i64_in _ (by omega)) (by assumption) ?_
      try simp only [Act.put, pw]
      refine wtk 8 18 (.pointer oc) rfl (by kernel_rfl) (fun _ _ _ h => h) (by rfl) (fun x hSw => by obtain ⟨⟨d0, d1⟩, _⟩ := id hSw; (go_simp) <;> first | decide | exact IntWalk.i64_in _ (by omega)) (by assumption) ?_
      try simp only [Act.put, pw]
      refine wpAnyH_ready (rs := [16]) (by kernel_rfl) (by simp) (AllReadyH.cons rfl (fun K hK => ?_) AllReadyH.nil)
      go_simp
      refine (meld_left _ _ _ HLF.out).mono ?_
      rintro e w2 ⟨rfl, rfl⟩
      refine hK.out _ _ (tkp KC T1) (fun hHeld => ?_)
      clear hK K
      clear cT
      have hH3 : Hx u2.drew h (.pointer (some ⟨p, 0, none⟩)) n := HH2.out
      have c1 := Bx.cell hH3 1 rfl
      have f1 := Bx.free hH3 1
      have HS := Lib.hid (Bx.set (w := u2.drew) hH3 1 (.pointer oc) _ rfl)
      clear hH3
      try simp only [Act.put, pw]
      refine wtk 17 27 (.pointer (some ⟨h, 0, none⟩)) rfl (by kernel_rfl) (fun _ _ _ h => h) (by rfl) (fun x hSw => by obtain ⟨⟨d0, d1⟩, _⟩ := id hSw; (go_simp) <;> first | decide | exact IntWalk.i64_in _ (by omega)) (by assumption) ?_
      try simp only [Act.put, pw]
      refine wtk 18 28 (.pointer (some ⟨h, 1, none⟩)) rfl (by kernel_rfl) (fun _ _ _ h => h) (by rfl) (fun x hSw => by obtain ⟨⟨d0, d1⟩, _⟩ := id hSw; (go_simp) <;> first | decide | exact IntWalk.i64_in _ (by omega)) (by assumption) ?_
      try simp only [Act.put, pw]
      refine wpAnyH_ready (rs := [19]) (by kernel_rfl) (by simp) (AllReadyH.cons rfl (fun K hK => ?_) AllReadyH.nil)
      go_simp
      have T5 : Hid (Turn (fun i => i = h) u2 (u2.drew.setCell ⟨h, 1, none⟩ (.pointer oc))) := T1.out.trans (Turn.set _ _ _ _ rfl)
      refine hK.out _ _ (tkp KC T5) (fun hHeld => ?_)
      clear hK K
      clear c1 f1
      try simp only [Act.put, pw]
      refine wpAnyH_done (by kernel_rfl) ?_ _
      go_wp2_with fail
      go_meet
      exact ⟨HS.out, T5⟩
  case rest =>
    obtain ⟨hH, hT⟩ := hcut
    have c2 := Bx.cell hH.out 2 rfl
    have f2 := Bx.free hH.out 2
    have hZ3 := HZ2.out.turn hT.out (by omega)
    have z0 := hZ3.cell 0 rfl
    have f4 := hZ3.free 0
    have z1 := hZ3.cell 1 rfl
    have f5 := hZ3.free 1
    have z2 := hZ3.cell 2 rfl
    have f6 := hZ3.free 2
    have z3 := hZ3.cell 3 rfl
    have f7 := hZ3.free 3
    have hn3 : w.heap.size ≠ h := by omega
    go_wp2_with fail
    have hH4 : Hx (wc.setCell ⟨h, 2, none⟩ (.int .i64 (n - 1))) h (.pointer oc) (n - 1) := Bx.set hH.out 2 (.int .i64 (n - 1)) _ rfl
    have th := Turn.set (S := fun i => i = h) wc h 2 (.int .i64 (n - 1)) rfl
    have g0 := hZ3.turn th (by omega)
    have g1 := Bx.set (w := _) g0 0 (.int .i64 a.id) _ rfl
    have g2 := Bx.set (w := _) g1 1 (.int .i64 a.rel) _ rfl
    have g3 := Bx.set (w := _) g2 2 (.int .i64 a.due) _ rfl
    have g4 := Bx.set (w := _) g3 3 (.int .i64 a.left) _ rfl
    have e0 := g4.cell 0 rfl
    have e1 := g4.cell 1 rfl
    have e2 := g4.cell 2 rfl
    have e3 := g4.cell 3 rfl
    have t6 : Turn (fun i => i = w.heap.size) (wc.setCell ⟨h, 2, none⟩ (.int .i64 (n - 1))) _ := ((((Turn.set (S := fun i => i = w.heap.size) _ w.heap.size 0 (.int .i64 a.id) rfl).trans (Turn.set _ w.heap.size 1 (.int .i64 a.rel) rfl)).trans (Turn.set _ w.heap.size 2 (.int .i64 a.due) rfl)).trans (Turn.set _ w.heap.size 3 (.int .i64 a.left) rfl))
    refine bodyPost_ret (v := .tuple #[.agg #[.int .i64 a.id, .int .i64 a.rel, .int .i64 a.due, .int .i64 a.left], .bool true]) (by simp [results, Tryz.results146, go_sem, e0, e1, e2, e3]) rfl ?_
    refine ⟨rfl, Bx.turn hH4 t6 (by omega), ?_⟩
    have t7 : Turn (fun i => i = h) w _ := ((Turn.below HB2.out).trans hT.out).trans th
    exact t7.then t6 (fun i hi e => by omega)
end Go.Proofs.YtoichcickcgbgaaGreatDoor
namespace Go.Proofs.YtoichcickcgbgaaGreatDoor
open Go.RowKit
attribute [local go_sem] Oper.semAt_some
theorem hmin_any {w : World} {h : Nat} {a : Jb} {js : List Jb} (hp : Hp w h (a :: js)) :
    Calls Tryz.prog 145 #[.pointer (some ⟨h, 0, none⟩)] w fun e w' => e = .returned (.tuple #[.agg #[.int .i64 a.id, .int .i64 a.rel, .int .i64 a.due, .int .i64 a.left], .bool true]) ∧ Below w.heap.size w w' := by
  obtain ⟨p, n, oc, h1, h2, hn, _, _⟩ := hp.top
  exact min_at h1 h2 (by omega)
theorem htake_any {w : World} {h : Nat} {a : Jb} {js : List Jb} (hp : Hp w h (a :: js)) :
    Calls Tryz.prog 146 #[.pointer (some ⟨h, 0, none⟩)] w fun e w' => e = .returned (.tuple #[.agg #[.int .i64 a.id, .int .i64 a.rel, .int .i64 a.due, .int .i64 a.left], .bool true]) ∧ Hp w' h js ∧ Turn (fun i => i = h) w w' := by
  have hl : js.length ≤ 1 := by
    match js, hp with
    | [], _ => simp
    | [b], _ => simp
    | _ :: _ :: _, hp => exact hp.elim
  obtain ⟨p, n, oc, h1, h2, hn, hoc, hk⟩ := hp.top
  refine (take_at h1 h2 (by omega) (by omega) hoc).mono ?_
  rintro e w' ⟨rfl, hx, t⟩
  exact ⟨rfl, hk w' t hx, t⟩
theorem hput_any {w : World} {h : Nat} {x : Jb} {js : List Jb} (hp : Hp w h js) (hl : js.length ≤ 1) :
    Calls Tryz.prog 142 #[.pointer (some ⟨h, 0, none⟩), .agg #[.int .i64 x.id, .int .i64 x.rel, .int .i64 x.due, .int .i64 x.left]] w fun e w' => e = .returned (.bool true) ∧ (∃ js', Hp w' h js' ∧ (js' = js ++ [x] ∨ js' = x :: js)) ∧ Turn (fun i => i = h) w w' := by
  rcases js with _ | ⟨a, _ | ⟨b, l⟩⟩
  · refine (put_0 (x := x) hp).mono ?_
    rintro e w' ⟨rfl, h1, t⟩
    exact ⟨rfl, ⟨[x], h1, .inl rfl⟩, t⟩
  · refine (put_1 (x := x) hp).mono ?_
    rintro e w' ⟨rfl, h1 | h1, t⟩
    · exact ⟨rfl, ⟨[a, x], h1, .inl rfl⟩, t⟩
    · exact ⟨rfl, ⟨[x, a], h1, .inr rfl⟩, t⟩
  · simp at hl
set_option maxRecDepth 100000 in
set_option maxHeartbeats 1000000 in
theorem hchange_any {w : World} {h : Nat} {a x : Jb} {js : List Jb} (hp : Hp w h (a :: js)) :
    Calls Tryz.prog 147 #[.pointer (some ⟨h, 0, none⟩), .agg #[.int .i64 x.id, .int .i64 x.rel, .int .i64 x.due, .int .i64 x.left]] w fun e w' => (∃ v, e = .returned v) ∧ (∃ js', Hp w' h js' ∧ (js' = js ++ [x] ∨ js' = x :: js)) ∧ Turn (fun i => i = h) w w' := by
  have hl : js.length ≤ 1 := by
    match js, hp with
    | [], _ => simp
    | [b], _ => simp
    | _ :: _ :: _, hp => exact hp.elim
  have bX := (Below.refl w.heap.size w).alloc (Nat.le_refl _) (.cells #[.int .i64 x.id, .int .i64 x.rel, .int .i64 x.due, .int .i64 x.left] 137)
  have HX := Lib.hid (Bx.new w [.int .i64 x.id, .int .i64 x.rel, .int .i64 x.due, .int .i64 x.left] 137)
  have HP := Lib.hid (hp.below bX)
  have HB := Lib.hid bX
  have hhl : h < w.heap.size := by obtain ⟨top, hx⟩ := hp.hx; exact Bx.lt hx
  have hsz : w.heap.size < (w.alloc (.cells #[.int .i64 x.id, .int .i64 x.rel, .int .i64 x.due, .int .i64 x.left] 137)).heap.size := HX.out.lt
  clear bX hp
  go_enter Tryz.func147, Tryz.ntmps147
  go_wp2_with fail
  generalize w.alloc (.cells #[.int .i64 x.id, .int .i64 x.rel, .int .i64 x.due, .int .i64 x.left] 137) = u0 at *
  refine (htake_any HP.out).mono ?_
  rintro e w1 ⟨rfl, hp1, t1⟩
  have bA := (Below.refl w1.heap.size w1).alloc (Nat.le_refl _) (.cells #[.int .i64 a.id, .int .i64 a.rel, .int .i64 a.due, .int .i64 a.left] 137)
  have hX1 := HX.out.turn t1 (by omega)
  have HP1 := Lib.hid (hp1.below bA)
  have HT1 := Lib.hid ((Turn.below (S := fun i => i = h) HB.out).trans (t1.trans (Turn.below bA)))
  have c0 := hX1.cell 0 rfl
  have c1 := hX1.cell 1 rfl
  have c2 := hX1.cell 2 rfl
  have c3 := hX1.cell 3 rfl
  have hlt : w.heap.size < w1.heap.size := hX1.lt
  clear hX1 hp1 t1 bA HX HP HB
  go_wp2_with fail
  refine (hput_any (x := x) HP1.out hl).mono ?_
  rintro e w2 ⟨rfl, hq, t2⟩
  have HQ := Lib.hid hq
  have HT2 := Lib.hid (HT1.out.trans t2)
  clear hq t2
  go_wp2_with fail
  go_ret
  exact ⟨⟨_, rfl⟩, HQ.out, HT2.out⟩
end Go.Proofs.YtoichcickcgbgaaGreatDoor
