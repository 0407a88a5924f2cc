/-
  heap.meld of two heaps of which each has one job at most.
-/
import Derived.Test.YtoichcickcgbgaaGreatDoorGRxHl
namespace Go.Proofs.YtoichcickcgbgaaGreatDoor
open Go.RowKit
attribute [local go_sem] Oper.semAt_some
attribute [local go_sem] run_store_func
/-- A heap's own cells. -/
def Hx (w : World) (h : Nat) (top : Value) (n : Int) : Prop := Bx w h 192 [.func (.func 44) #[] #[], top, .int .i64 n]
def Lf (w : World) (p : Nat) (x : Jb) : Prop := Bx w p 289 [.int .i64 x.id, .int .i64 x.rel, .int .i64 x.due, .int .i64 x.left, .int .i64 1, .pointer none, .pointer none]
def Tw (w : World) (p c : Nat) (x y : Jb) : Prop := Bx w p 289 [.int .i64 x.id, .int .i64 x.rel, .int .i64 x.due, .int .i64 x.left, .int .i64 1, .pointer (some ⟨c, 0, none⟩), .pointer none] ∧ Lf w c y
set_option maxRecDepth 100000 in
theorem way_nil (w : World) : Calls Tryz.prog 203 #[.pointer none] w fun e w' => e = .returned (.int .i64 0) ∧ w = w' := by
  go_enter Tryz.func203, Tryz.ntmps203
  go_wp2
  go_ret
  exact ⟨rfl, rfl⟩
set_option maxRecDepth 100000 in
theorem way_leaf {w : World} {p : Nat} {x : Jb} (h : Lf w p x) : Calls Tryz.prog 203 #[.pointer (some ⟨p, 0, none⟩)] w fun e w' => e = .returned (.int .i64 1) ∧ w = w' := by
  have c4 := Bx.cell h 4 rfl
  go_enter Tryz.func203, Tryz.ntmps203
  go_wp2
  go_ret
  exact ⟨rfl, rfl⟩
set_option maxRecDepth 100000 in
theorem meld_ln (w : World) (hv vb : Value) : Calls Tryz.prog 166 #[hv, .pointer none, vb] w fun e w' => e = .returned vb ∧ w = w' := by
  go_enter Tryz.func166, Tryz.ntmps166
  go_wp2_with fail
  go_ret
  exact ⟨rfl, rfl⟩
set_option maxRecDepth 100000 in
theorem meld_rn (w : World) (hv : Value) (p : Nat) : Calls Tryz.prog 166 #[hv, .pointer (some ⟨p, 0, none⟩), .pointer none] w fun e w' => e = .returned (.pointer (some ⟨p, 0, none⟩)) ∧ w = w' := by
  go_enter Tryz.func166, Tryz.ntmps166
  go_wp2_with fail
  go_ret
  exact ⟨rfl, rfl⟩
set_option maxRecDepth 100000 in
set_option maxHeartbeats 1000000 in
theorem meld_lt {w : World} {h p c : Nat} {top : Value} {n : Int} {x y : Jb} (hH : Hx w h top n) (hp : Lf w p x) (hc : Lf w c y) (hl : lessF y x = false) :
    Calls Tryz.prog 166 #[.pointer (some ⟨h, 0, none⟩), .pointer (some ⟨p, 0, none⟩), .pointer (some ⟨c, 0, none⟩)] w fun e w' => ∃ q, e = .returned (.pointer (some ⟨q, 0, none⟩)) ∧ Tw w' q c x y ∧ Below w.heap.size w w' := by
  have HH := Lib.hid hH
  have HP := Lib.hid hp
  have HC := Lib.hid hc
  have HL := Lib.hid (fun u => less_any y x u)
  rw [hl] at HL
  clear hH hp hc hl
  go_enter Tryz.func166, Tryz.ntmps166
  go_wp2_with fail
  have KC : Hid (∀ z, Hid (Below w.heap.size w z) → (z.cell? ⟨h, 0, none⟩ = some (.func (.func 44) #[] #[]) ∧ z.cell? ⟨p, 0, none⟩ = some (.int .i64 x.id) ∧ z.cell? ⟨p, 1, none⟩ = some (.int .i64 x.rel) ∧ z.cell? ⟨p, 2, none⟩ = some (.int .i64 x.due) ∧ z.cell? ⟨p, 3, none⟩ = some (.int .i64 x.left) ∧ z.cell? ⟨p, 4, none⟩ = some (.int .i64 1) ∧ z.cell? ⟨p, 5, none⟩ = some (.pointer none) ∧ z.cell? ⟨p, 6, none⟩ = some (.pointer none) ∧ z.cell? ⟨c, 0, none⟩ = some (.int .i64 y.id) ∧ z.cell? ⟨c, 1, none⟩ = some (.int .i64 y.rel) ∧ z.cell? ⟨c, 2, none⟩ = some (.int .i64 y.due) ∧ z.cell? ⟨c, 3, none⟩ = some (.int .i64 y.left) ∧ z.cell? ⟨c, 4, none⟩ = some (.int .i64 1) ∧ z.cell? ⟨c, 5, none⟩ = some (.pointer none) ∧ z.cell? ⟨c, 6, none⟩ = some (.pointer none))) := fun z b => ⟨Bx.cell (Bx.bl HH.out b) 0 rfl, Bx.cell (Bx.bl HP.out b) 0 rfl, Bx.cell (Bx.bl HP.out b) 1 rfl, Bx.cell (Bx.bl HP.out b) 2 rfl, Bx.cell (Bx.bl HP.out b) 3 rfl, Bx.cell (Bx.bl HP.out b) 4 rfl, Bx.cell (Bx.bl HP.out b) 5 rfl, Bx.cell (Bx.bl HP.out b) 6 rfl, Bx.cell (Bx.bl HC.out b) 0 rfl, Bx.cell (Bx.bl HC.out b) 1 rfl, Bx.cell (Bx.bl HC.out b) 2 rfl, Bx.cell (Bx.bl HC.out b) 3 rfl, Bx.cell (Bx.bl HC.out b) 4 rfl, Bx.cell (Bx.bl HC.out b) 5 rfl, Bx.cell (Bx.bl HC.out b) 6 rfl⟩
  have B1 : Hid (Below w.heap.size w w.drew) := bl_drew (bl0 _)
  refine wp_region_held_drew (S := fun z => (z.cell? ⟨h, 0, none⟩ = some (.func (.func 44) #[] #[]) ∧ z.cell? ⟨p, 0, none⟩ = some (.int .i64 x.id) ∧ z.cell? ⟨p, 1, none⟩ = some (.int .i64 x.rel) ∧ z.cell? ⟨p, 2, none⟩ = some (.int .i64 x.due) ∧ z.cell? ⟨p, 3, none⟩ = some (.int .i64 x.left) ∧ z.cell? ⟨p, 4, none⟩ = some (.int .i64 1) ∧ z.cell? ⟨p, 5, none⟩ = some (.pointer none) ∧ z.cell? ⟨p, 6, none⟩ = some (.pointer none) ∧ z.cell? ⟨c, 0, none⟩ = some (.int .i64 y.id) ∧ z.cell? ⟨c, 1, none⟩ = some (.int .i64 y.rel) ∧ z.cell? ⟨c, 2, none⟩ = some (.int .i64 y.due) ∧ z.cell? ⟨c, 3, none⟩ = some (.int .i64 y.left) ∧ z.cell? ⟨c, 4, none⟩ = some (.int .i64 1) ∧ z.cell? ⟨c, 5, none⟩ = some (.pointer none) ∧ z.cell? ⟨c, 6, none⟩ = some (.pointer none)) ∧ Hid (Below w.heap.size w z)) (by kernel_rfl) (skeep KC B1) (fun hHeld => ?_)
  refine wtk 0 18 (.pointer (some ⟨h, 0, none⟩)) rfl (by kernel_rfl) (fun _ _ _ h => h) (by rfl) (fun x hSw => by obtain ⟨⟨d0, d1, d2, d3, d4, d5, d6, d7, d8, d9, d10, d11, d12, d13, d14⟩, _⟩ := id hSw; (go_simp) <;> first | decide | exact IntWalk.i64_in _ (by omega)) (by assumption) ?_
  try simp only [Act.put, pw]
  refine wtk 1 19 (.pointer (some ⟨h, 0, none⟩)) rfl (by kernel_rfl) (fun _ _ _ h => h) (by rfl) (fun x hSw => by obtain ⟨⟨d0, d1, d2, d3, d4, d5, d6, d7, d8, d9, d10, d11, d12, d13, d14⟩, _⟩ := id hSw; (go_simp) <;> first | decide | exact IntWalk.i64_in _ (by omega)) (by assumption) ?_
  try simp only [Act.put, pw]
  refine wtk 2 20 (.pointer (some ⟨h, 0, none⟩)) rfl (by kernel_rfl) (fun _ _ _ h => h) (by rfl) (fun x hSw => by obtain ⟨⟨d0, d1, d2, d3, d4, d5, d6, d7, d8, d9, d10, d11, d12, d13, d14⟩, _⟩ := id hSw; (go_simp) <;> first | decide | exact IntWalk.i64_in _ (by omega)) (by assumption) ?_
  try simp only [Act.put, pw]
  refine wtk 3 21 (.func (.func 44) #[] #[]) rfl (by kernel_rfl) (fun _ _ _ h => h) (by rfl) (fun x hSw => by obtain ⟨⟨d0, d1, d2, d3, d4, d5, d6, d7, d8, d9, d10, d11, d12, d13, d14⟩, _⟩ := id hSw; (go_simp) <;> first | decide | exact IntWalk.i64_in _ (by omega)) (by assumption) ?_
  try simp only [Act.put, pw]
  refine wtk 4 22 (.pointer (some ⟨c, 0, none⟩)) rfl (by kernel_rfl) (fun _ _ _ h => h) (by rfl) (fun x hSw => by obtain ⟨⟨d0, d1, d2, d3, d4, d5, d6, d7, d8, d9, d10, d11, d12, d13, d14⟩, _⟩ := id hSw; (go_simp) <;> first | decide | exact IntWalk.i64_in _ (by omega)) (by assumption) ?_
  try simp only [Act.put, pw]
  refine wtk 5 23 (.pointer (some ⟨c, 0, none⟩)) rfl (by kernel_rfl) (fun _ _ _ h => h) (by rfl) (fun x hSw => by obtain ⟨⟨d0, d1, d2, d3, d4, d5, d6, d7, d8, d9, d10, d11, d12, d13, d14⟩, _⟩ := id hSw; (go_simp) <;> first | decide | exact IntWalk.i64_in _ (by omega)) (by assumption) ?_
  try simp only [Act.put, pw]
  refine wtk 6 24 (.pointer (some ⟨c, 0, none⟩)) rfl (by kernel_rfl) (fun _ _ _ h => h) (by rfl) (fun x hSw => by obtain ⟨⟨d0, d1, d2, d3, d4, d5, d6, d7, d8, d9, d10, d11, d12, d13, d14⟩, _⟩ := id hSw; (go_simp) <;> first | decide | exact IntWalk.i64_in _ (by omega)) (by assumption) ?_
  try simp only [Act.put, pw]
  refine wtk 7 25 (.agg #[.int .i64 y.id, .int .i64 y.rel, .int .i64 y.due, .int .i64 y.left]) rfl (by kernel_rfl) (fun _ _ _ h => h) (by rfl) (fun x hSw => by obtain ⟨⟨d0, d1, d2, d3, d4, d5, d6, d7, d8, d9, d10, d11, d12, d13, d14⟩, _⟩ := id hSw; (go_simp) <;> first | decide | exact IntWalk.i64_in _ (by omega)) (by assumption) ?_
  try simp only [Act.put, pw]
  refine wtk 8 26 (.pointer (some ⟨p, 0, none⟩)) rfl (by kernel_rfl) (fun _ _ _ h => h) (by rfl) (fun x hSw => by obtain ⟨⟨d0, d1, d2, d3, d4, d5, d6, d7, d8, d9, d10, d11, d12, d13, d14⟩, _⟩ := id hSw; (go_simp) <;> first | decide | exact IntWalk.i64_in _ (by omega)) (by assumption) ?_
  try simp only [Act.put, pw]
  refine wtk 9 27 (.pointer (some ⟨p, 0, none⟩)) rfl (by kernel_rfl) (fun _ _ _ h => h) (by rfl) (fun x hSw => by obtain ⟨⟨d0, d1, d2, d3, d4, d5, d6, d7, d8, d9, d10, d11, d12, d13, d14⟩, _⟩ := id hSw; (go_simp) <;> first | decide | exact IntWalk.i64_in _ (by omega)) (by assumption) ?_
  try simp only [Act.put, pw]
  refine wtk 10 28 (.pointer (some ⟨p, 0, none⟩)) rfl (by kernel_rfl) (fun _ _ _ h => h) (by rfl) (fun x hSw => by obtain ⟨⟨d0, d1, d2, d3, d4, d5, d6, d7, d8, d9, d10, d11, d12, d13, d14⟩, _⟩ := id hSw; (go_simp) <;> first | decide | exact IntWalk.i64_in _ (by omega)) (by assumption) ?_
  try simp only [Act.put, pw]
  refine wtk 11 29 (.agg #[.int .i64 x.id, .int .i64 x.rel, .int .i64 x.due, .int .i64 x.left]) rfl (by kernel_rfl) (fun _ _ _ h => h) (by rfl) (fun x hSw => by obtain ⟨⟨d0, d1, d2, d3, d4, d5, d6, d7, d8, d9, d10, d11, d12, d13, d14⟩, _⟩ := id hSw; (go_simp) <;> first | decide | exact IntWalk.i64_in _ (by omega)) (by assumption) ?_
  try simp only [Act.put, pw]
  refine wpAnyH_ready (rs := [12]) (by kernel_rfl) (by simp) (AllReadyH.cons rfl (fun K hK => ?_) AllReadyH.nil)
  go_simp
  refine (HL.out _).mono ?_
  rintro e w1 ⟨rfl, b1⟩
  have B2 := bl_below B1 b1
  refine hK.out _ _ (skeep KC B2) (fun hHeld => ?_)
  clear hK K
  clear b1 HL B1
  try simp only [Act.put, pw]
  refine wtk 13 17 (.bool false) rfl (by kernel_rfl) (fun _ _ _ h => h) (by rfl) (fun x hSw => by obtain ⟨⟨d0, d1, d2, d3, d4, d5, d6, d7, d8, d9, d10, d11, d12, d13, d14⟩, _⟩ := id hSw; (go_simp) <;> first | decide | exact IntWalk.i64_in _ (by omega)) (by assumption) ?_
  try simp only [Act.put, pw]
  refine wpAnyH_done (by kernel_rfl) ?_ _
  go_wp2_with fail
  have B3 : Hid (Below w.heap.size w w1.drew) := bl_drew B2
  refine wp_region_held_drew (S := fun z => (z.cell? ⟨h, 0, none⟩ = some (.func (.func 44) #[] #[]) ∧ z.cell? ⟨p, 0, none⟩ = some (.int .i64 x.id) ∧ z.cell? ⟨p, 1, none⟩ = some (.int .i64 x.rel) ∧ z.cell? ⟨p, 2, none⟩ = some (.int .i64 x.due) ∧ z.cell? ⟨p, 3, none⟩ = some (.int .i64 x.left) ∧ z.cell? ⟨p, 4, none⟩ = some (.int .i64 1) ∧ z.cell? ⟨p, 5, none⟩ = some (.pointer none) ∧ z.cell? ⟨p, 6, none⟩ = some (.pointer none) ∧ z.cell? ⟨c, 0, none⟩ = some (.int .i64 y.id) ∧ z.cell? ⟨c, 1, none⟩ = some (.int .i64 y.rel) ∧ z.cell? ⟨c, 2, none⟩ = some (.int .i64 y.due) ∧ z.cell? ⟨c, 3, none⟩ = some (.int .i64 y.left) ∧ z.cell? ⟨c, 4, none⟩ = some (.int .i64 1) ∧ z.cell? ⟨c, 5, none⟩ = some (.pointer none) ∧ z.cell? ⟨c, 6, none⟩ = some (.pointer none)) ∧ Hid (Below w.heap.size w z)) (by kernel_rfl) (skeep KC B3) (fun hHeld => ?_)
  refine wtk 0 35 (.pointer (some ⟨p, 0, none⟩)) rfl (by kernel_rfl) (fun _ _ _ h => h) (by rfl) (fun x hSw => by obtain ⟨⟨d0, d1, d2, d3, d4, d5, d6, d7, d8, d9, d10, d11, d12, d13, d14⟩, _⟩ := id hSw; (go_simp) <;> first | decide | exact IntWalk.i64_in _ (by omega)) (by assumption) ?_
  try simp only [Act.put, pw]
  refine wtk 1 36 (.pointer (some ⟨p, 0, none⟩)) rfl (by kernel_rfl) (fun _ _ _ h => h) (by rfl) (fun x hSw => by obtain ⟨⟨d0, d1, d2, d3, d4, d5, d6, d7, d8, d9, d10, d11, d12, d13, d14⟩, _⟩ := id hSw; (go_simp) <;> first | decide | exact IntWalk.i64_in _ (by omega)) (by assumption) ?_
  try simp only [Act.put, pw]
  refine wtk 2 37 (.pointer (some ⟨p, 5, none⟩)) rfl (by kernel_rfl) (fun _ _ _ h => h) (by rfl) (fun x hSw => by obtain ⟨⟨d0, d1, d2, d3, d4, d5, d6, d7, d8, d9, d10, d11, d12, d13, d14⟩, _⟩ := id hSw; (go_simp) <;> first | decide | exact IntWalk.i64_in _ (by omega)) (by assumption) ?_
  try simp only [Act.put, pw]
  refine wtk 3 38 (.pointer none) rfl (by kernel_rfl) (fun _ _ _ h => h) (by rfl) (fun x hSw => by obtain ⟨⟨d0, d1, d2, d3, d4, d5, d6, d7, d8, d9, d10, d11, d12, d13, d14⟩, _⟩ := id hSw; (go_simp) <;> first | decide | exact IntWalk.i64_in _ (by omega)) (by assumption) ?_
  try simp only [Act.put, pw]
  refine wtk 4 39 (.pointer (some ⟨h, 0, none⟩)) rfl (by kernel_rfl) (fun _ _ _ h => h) (by rfl) (fun x hSw => by obtain ⟨⟨d0, d1, d2, d3, d4, d5, d6, d7, d8, d9, d10, d11, d12, d13, d14⟩, _⟩ := id hSw; (go_simp) <;> first | decide | exact IntWalk.i64_in _ (by omega)) (by assumption) ?_
  try simp only [Act.put, pw]
  refine wtk 5 40 (.pointer (some ⟨p, 0, none⟩)) rfl (by kernel_rfl) (fun _ _ _ h => h) (by rfl) (fun x hSw => by obtain ⟨⟨d0, d1, d2, d3, d4, d5, d6, d7, d8, d9, d10, d11, d12, d13, d14⟩, _⟩ := id hSw; (go_simp) <;> first | decide | exact IntWalk.i64_in _ (by omega)) (by assumption) ?_
  try simp only [Act.put, pw]
  refine wtk 6 41 (.pointer (some ⟨p, 0, none⟩)) rfl (by kernel_rfl) (fun _ _ _ h => h) (by rfl) (fun x hSw => by obtain ⟨⟨d0, d1, d2, d3, d4, d5, d6, d7, d8, d9, d10, d11, d12, d13, d14⟩, _⟩ := id hSw; (go_simp) <;> first | decide | exact IntWalk.i64_in _ (by omega)) (by assumption) ?_
  try simp only [Act.put, pw]
  refine wtk 7 42 (.pointer (some ⟨p, 6, none⟩)) rfl (by kernel_rfl) (fun _ _ _ h => h) (by rfl) (fun x hSw => by obtain ⟨⟨d0, d1, d2, d3, d4, d5, d6, d7, d8, d9, d10, d11, d12, d13, d14⟩, _⟩ := id hSw; (go_simp) <;> first | decide | exact IntWalk.i64_in _ (by omega)) (by assumption) ?_
  try simp only [Act.put, pw]
  refine wtk 8 43 (.pointer none) rfl (by kernel_rfl) (fun _ _ _ h => h) (by rfl) (fun x hSw => by obtain ⟨⟨d0, d1, d2, d3, d4, d5, d6, d7, d8, d9, d10, d11, d12, d13, d14⟩, _⟩ := id hSw; (go_simp) <;> first | decide | exact IntWalk.i64_in _ (by omega)) (by assumption) ?_
  try simp only [Act.put, pw]
  refine wtk 9 44 (.pointer (some ⟨c, 0, none⟩)) rfl (by kernel_rfl) (fun _ _ _ h => h) (by rfl) (fun x hSw => by obtain ⟨⟨d0, d1, d2, d3, d4, d5, d6, d7, d8, d9, d10, d11, d12, d13, d14⟩, _⟩ := id hSw; (go_simp) <;> first | decide | exact IntWalk.i64_in _ (by omega)) (by assumption) ?_
  try simp only [Act.put, pw]
  refine wpAnyH_ready (rs := [10]) (by kernel_rfl) (by simp) (AllReadyH.cons rfl (fun K hK => ?_) AllReadyH.nil)
  go_simp
  refine (meld_ln _ _ _).mono ?_
  rintro e w2 ⟨rfl, rfl⟩
  refine hK.out _ _ (skeep KC B3) (fun hHeld => ?_)
  clear hK K
  try simp only [Act.put, pw]
  refine wtk 11 7 (.pointer none) rfl (by kernel_rfl) (fun _ _ _ h => h) (by rfl) (fun x hSw => by obtain ⟨⟨d0, d1, d2, d3, d4, d5, d6, d7, d8, d9, d10, d11, d12, d13, d14⟩, _⟩ := id hSw; (go_simp) <;> first | decide | exact IntWalk.i64_in _ (by omega)) (by assumption) ?_
  try simp only [Act.put, pw]
  refine wtk 12 8 (.pointer (some ⟨c, 0, none⟩)) rfl (by kernel_rfl) (fun _ _ _ h => h) (by rfl) (fun x hSw => by obtain ⟨⟨d0, d1, d2, d3, d4, d5, d6, d7, d8, d9, d10, d11, d12, d13, d14⟩, _⟩ := id hSw; (go_simp) <;> first | decide | exact IntWalk.i64_in _ (by omega)) (by assumption) ?_
  try simp only [Act.put, pw]
  refine wpAnyH_done (by kernel_rfl) ?_ _
  go_wp2_with fail
  refine (way_nil _).mono ?_
  rintro e w2 ⟨rfl, rfl⟩
  go_wp2_with fail
  refine (way_leaf (x := y) (Bx.bl HC.out B3)).mono ?_
  rintro e w2 ⟨rfl, rfl⟩
  go_wp2_with fail
  have B4 : Hid (Below w.heap.size w w1.drew.drew) := bl_drew B3
  refine wp_region_held_drew (S := fun z => (z.cell? ⟨h, 0, none⟩ = some (.func (.func 44) #[] #[]) ∧ z.cell? ⟨p, 0, none⟩ = some (.int .i64 x.id) ∧ z.cell? ⟨p, 1, none⟩ = some (.int .i64 x.rel) ∧ z.cell? ⟨p, 2, none⟩ = some (.int .i64 x.due) ∧ z.cell? ⟨p, 3, none⟩ = some (.int .i64 x.left) ∧ z.cell? ⟨p, 4, none⟩ = some (.int .i64 1) ∧ z.cell? ⟨p, 5, none⟩ = some (.pointer none) ∧ z.cell? ⟨p, 6, none⟩ = some (.pointer none) ∧ z.cell? ⟨c, 0, none⟩ = some (.int .i64 y.id) ∧ z.cell? ⟨c, 1, none⟩ = some (.int .i64 y.rel) ∧ z.cell? ⟨c, 2, none⟩ = some (.int .i64 y.due) ∧ z.cell? ⟨c, 3, none⟩ = some (.int .i64 y.left) ∧ z.cell? ⟨c, 4, none⟩ = some (.int .i64 1) ∧ z.cell? ⟨c, 5, none⟩ = some (.pointer none) ∧ z.cell? ⟨c, 6, none⟩ = some (.pointer none)) ∧ Hid (Below w.heap.size w z)) (by kernel_rfl) (skeep KC B4) (fun hHeld => ?_)
  refine wtk 0 53 (.pointer (some ⟨p, 0, none⟩)) rfl (by kernel_rfl) (fun _ _ _ h => h) (by rfl) (fun x hSw => by obtain ⟨⟨d0, d1, d2, d3, d4, d5, d6, d7, d8, d9, d10, d11, d12, d13, d14⟩, _⟩ := id hSw; (go_simp) <;> first | decide | exact IntWalk.i64_in _ (by omega)) (by assumption) ?_
  try simp only [Act.put, pw]
  refine wtk 1 54 (.pointer (some ⟨p, 0, none⟩)) rfl (by kernel_rfl) (fun _ _ _ h => h) (by rfl) (fun x hSw => by obtain ⟨⟨d0, d1, d2, d3, d4, d5, d6, d7, d8, d9, d10, d11, d12, d13, d14⟩, _⟩ := id hSw; (go_simp) <;> first | decide | exact IntWalk.i64_in _ (by omega)) (by assumption) ?_
  try simp only [Act.put, pw]
  refine wtk 2 55 (.pointer (some ⟨p, 0, none⟩)) rfl (by kernel_rfl) (fun _ _ _ h => h) (by rfl) (fun x hSw => by obtain ⟨⟨d0, d1, d2, d3, d4, d5, d6, d7, d8, d9, d10, d11, d12, d13, d14⟩, _⟩ := id hSw; (go_simp) <;> first | decide | exact IntWalk.i64_in _ (by omega)) (by assumption) ?_
  try simp only [Act.put, pw]
  refine wtk 3 56 (.agg #[.int .i64 x.id, .int .i64 x.rel, .int .i64 x.due, .int .i64 x.left]) rfl (by kernel_rfl) (fun _ _ _ h => h) (by rfl) (fun x hSw => by obtain ⟨⟨d0, d1, d2, d3, d4, d5, d6, d7, d8, d9, d10, d11, d12, d13, d14⟩, _⟩ := id hSw; (go_simp) <;> first | decide | exact IntWalk.i64_in _ (by omega)) (by assumption) ?_
  try simp only [Act.put, pw]
  refine wtk 4 57 (.pointer none) rfl (by kernel_rfl) (fun _ _ _ h => h) (by rfl) (fun x hSw => by obtain ⟨⟨d0, d1, d2, d3, d4, d5, d6, d7, d8, d9, d10, d11, d12, d13, d14⟩, _⟩ := id hSw; (go_simp) <;> first | decide | exact IntWalk.i64_in _ (by omega)) (by assumption) ?_
  try simp only [Act.put, pw]
  refine wtk 7 60 (.pointer (some ⟨c, 0, none⟩)) rfl (by kernel_rfl) (fun _ _ _ h => h) (by rfl) (fun x hSw => by obtain ⟨⟨d0, d1, d2, d3, d4, d5, d6, d7, d8, d9, d10, d11, d12, d13, d14⟩, _⟩ := id hSw; (go_simp) <;> first | decide | exact IntWalk.i64_in _ (by omega)) (by assumption) ?_
  try simp only [Act.put, pw]
  refine wtk 8 61 (.pointer none) rfl (by kernel_rfl) (fun _ _ _ h => h) (by rfl) (fun x hSw => by obtain ⟨⟨d0, d1, d2, d3, d4, d5, d6, d7, d8, d9, d10, d11, d12, d13, d14⟩, _⟩ := id hSw; (go_simp) <;> first | decide | exact IntWalk.i64_in _ (by omega)) (by assumption) ?_
  try simp only [Act.put, pw]
  refine wpAnyH_ready (rs := [5]) (by kernel_rfl) (by simp) (AllReadyH.cons rfl (fun K hK => ?_) AllReadyH.nil)
  go_simp
  refine (way_nil _).mono ?_
  rintro e w2 ⟨rfl, rfl⟩
  refine hK.out _ _ (skeep KC B4) (fun hHeld => ?_)
  clear hK K
  try simp only [Act.put, pw]
  refine wtk 6 59 (.int .i64 1) rfl (by kernel_rfl) (fun _ _ _ h => h) (by rfl) (fun x hSw => by obtain ⟨⟨d0, d1, d2, d3, d4, d5, d6, d7, d8, d9, d10, d11, d12, d13, d14⟩, _⟩ := id hSw; (go_simp) <;> first | decide | exact IntWalk.i64_in _ (by omega)) (by assumption) ?_
  try simp only [Act.put, pw]
  refine wtk 9 62 (.agg #[.int .i64 x.id, .int .i64 x.rel, .int .i64 x.due, .int .i64 x.left, .int .i64 1, .pointer (some ⟨c, 0, none⟩), .pointer none]) rfl (by kernel_rfl) (fun _ _ _ h => h) (by rfl) (fun x hSw => by obtain ⟨⟨d0, d1, d2, d3, d4, d5, d6, d7, d8, d9, d10, d11, d12, d13, d14⟩, _⟩ := id hSw; (go_simp) <;> first | decide | exact IntWalk.i64_in _ (by omega)) (by assumption) ?_
  try simp only [Act.put, pw]
  refine wpAnyH_ready (rs := [10]) (by kernel_rfl) (by simp) (AllReadyH.cons rfl (fun K hK => ?_) AllReadyH.nil)
  go_simp
  have B5 := bl_alloc (.cells #[.int .i64 x.id, .int .i64 x.rel, .int .i64 x.due, .int .i64 x.left, .int .i64 1, .pointer (some ⟨c, 0, none⟩), .pointer none] 289) B4
  refine hK.out _ _ (skeep KC B5) (fun hHeld => ?_)
  clear hK K
  try simp only [Act.put, pw]
  refine wtk 11 6 (.pointer (some ⟨w1.drew.drew.heap.size, 0, none⟩)) rfl (by kernel_rfl) (fun _ _ _ h => h) (by rfl) (fun x hSw => by obtain ⟨⟨d0, d1, d2, d3, d4, d5, d6, d7, d8, d9, d10, d11, d12, d13, d14⟩, _⟩ := id hSw; (go_simp) <;> first | decide | exact IntWalk.i64_in _ (by omega)) (by assumption) ?_
  try simp only [Act.put, pw]
  refine wpAnyH_done (by kernel_rfl) ?_ _
  go_wp2_with fail
  go_ret
  exact ⟨_, rfl, ⟨Bx.new w1.drew.drew [.int .i64 x.id, .int .i64 x.rel, .int .i64 x.due, .int .i64 x.left, .int .i64 1, .pointer (some ⟨c, 0, none⟩), .pointer none] 289, Bx.bl HC.out B5⟩, B5.out⟩
set_option maxRecDepth 100000 in
set_option maxHeartbeats 1000000 in
theorem meld_gt {w : World} {h p c : Nat} {top : Value} {n : Int} {x y : Jb} (hH : Hx w h top n) (hp : Lf w p x) (hc : Lf w c y) (hl : lessF y x = true) :
    Calls Tryz.prog 166 #[.pointer (some ⟨h, 0, none⟩), .pointer (some ⟨p, 0, none⟩), .pointer (some ⟨c, 0, none⟩)] w fun e w' => ∃ q, e = .returned (.pointer (some ⟨q, 0, none⟩)) ∧ Tw w' q p y x ∧ Below w.heap.size w w' := by
  have HH := Lib.hid hH
  have HP := Lib.hid hp
  have HC := Lib.hid hc
  have HL := Lib.hid (fun u => less_any y x u)
  rw [hl] at HL
  have HLT := Lib.hid hl
  clear hH hp hc hl
  go_enter Tryz.func166, Tryz.ntmps166
  go_wp2_with fail
  have KC : Hid (∀ z, Hid (Below w.heap.size w z) → (z.cell? ⟨h, 0, none⟩ = some (.func (.func 44) #[] #[]) ∧ z.cell? ⟨p, 0, none⟩ = some (.int .i64 x.id) ∧ z.cell? ⟨p, 1, none⟩ = some (.int .i64 x.rel) ∧ z.cell? ⟨p, 2, none⟩ = some (.int .i64 x.due) ∧ z.cell? ⟨p, 3, none⟩ = some (.int .i64 x.left) ∧ z.cell? ⟨p, 4, none⟩ = some (.int .i64 1) ∧ z.cell? ⟨p, 5, none⟩ = some (.pointer none) ∧ z.cell? ⟨p, 6, none⟩ = some (.pointer none) ∧ z.cell? ⟨c, 0, none⟩ = some (.int .i64 y.id) ∧ z.cell? ⟨c, 1, none⟩ = some (.int .i64 y.rel) ∧ z.cell? ⟨c, 2, none⟩ = some (.int .i64 y.due) ∧ z.cell? ⟨c, 3, none⟩ = some (.int .i64 y.left) ∧ z.cell? ⟨c, 4, none⟩ = some (.int .i64 1) ∧ z.cell? ⟨c, 5, none⟩ = some (.pointer none) ∧ z.cell? ⟨c, 6, none⟩ = some (.pointer none))) := fun z b => ⟨Bx.cell (Bx.bl HH.out b) 0 rfl, Bx.cell (Bx.bl HP.out b) 0 rfl, Bx.cell (Bx.bl HP.out b) 1 rfl, Bx.cell (Bx.bl HP.out b) 2 rfl, Bx.cell (Bx.bl HP.out b) 3 rfl, Bx.cell (Bx.bl HP.out b) 4 rfl, Bx.cell (Bx.bl HP.out b) 5 rfl, Bx.cell (Bx.bl HP.out b) 6 rfl, Bx.cell (Bx.bl HC.out b) 0 rfl, Bx.cell (Bx.bl HC.out b) 1 rfl, Bx.cell (Bx.bl HC.out b) 2 rfl, Bx.cell (Bx.bl HC.out b) 3 rfl, Bx.cell (Bx.bl HC.out b) 4 rfl, Bx.cell (Bx.bl HC.out b) 5 rfl, Bx.cell (Bx.bl HC.out b) 6 rfl⟩
  have B1 : Hid (Below w.heap.size w w.drew) := bl_drew (bl0 _)
  refine wp_region_held_drew (S := fun z => (z.cell? ⟨h, 0, none⟩ = some (.func (.func 44) #[] #[]) ∧ z.cell? ⟨p, 0, none⟩ = some (.int .i64 x.id) ∧ z.cell? ⟨p, 1, none⟩ = some (.int .i64 x.rel) ∧ z.cell? ⟨p, 2, none⟩ = some (.int .i64 x.due) ∧ z.cell? ⟨p, 3, none⟩ = some (.int .i64 x.left) ∧ z.cell? ⟨p, 4, none⟩ = some (.int .i64 1) ∧ z.cell? ⟨p, 5, none⟩ = some (.pointer none) ∧ z.cell? ⟨p, 6, none⟩ = some (.pointer none) ∧ z.cell? ⟨c, 0, none⟩ = some (.int .i64 y.id) ∧ z.cell? ⟨c, 1, none⟩ = some (.int .i64 y.rel) ∧ z.cell? ⟨c, 2, none⟩ = some (.int .i64 y.due) ∧ z.cell? ⟨c, 3, none⟩ = some (.int .i64 y.left) ∧ z.cell? ⟨c, 4, none⟩ = some (.int .i64 1) ∧ z.cell? ⟨c, 5, none⟩ = some (.pointer none) ∧ z.cell? ⟨c, 6, none⟩ = some (.pointer none)) ∧ Hid (Below w.heap.size w z)) (by kernel_rfl) (skeep KC B1) (fun hHeld => ?_)
  refine wtk 0 18 (.pointer (some ⟨h, 0, none⟩)) rfl (by kernel_rfl) (fun _ _ _ h => h) (by rfl) (fun x hSw => by obtain ⟨⟨d0, d1, d2, d3, d4, d5, d6, d7, d8, d9, d10, d11, d12, d13, d14⟩, _⟩ := id hSw; (go_simp) <;> first | decide | exact IntWalk.i64_in _ (by omega)) (by assumption) ?_
  try simp only [Act.put, pw]
  refine wtk 1 19 (.pointer (some ⟨h, 0, none⟩)) rfl (by kernel_rfl) (fun _ _ _ h => h) (by rfl) (fun x hSw => by obtain ⟨⟨d0, d1, d2, d3, d4, d5, d6, d7, d8, d9, d10, d11, d12, d13, d14⟩, _⟩ := id hSw; (go_simp) <;> first | decide | exact IntWalk.i64_in _ (by omega)) (by assumption) ?_
  try simp only [Act.put, pw]
  refine wtk 2 20 (.pointer (some ⟨h, 0, none⟩)) rfl (by kernel_rfl) (fun _ _ _ h => h) (by rfl) (fun x hSw => by obtain ⟨⟨d0, d1, d2, d3, d4, d5, d6, d7, d8, d9, d10, d11, d12, d13, d14⟩, _⟩ := id hSw; (go_simp) <;> first | decide | exact IntWalk.i64_in _ (by omega)) (by assumption) ?_
  try simp only [Act.put, pw]
  refine wtk 3 21 (.func (.func 44) #[] #[]) rfl (by kernel_rfl) (fun _ _ _ h => h) (by rfl) (fun x hSw => by obtain ⟨⟨d0, d1, d2, d3, d4, d5, d6, d7, d8, d9, d10, d11, d12, d13, d14⟩, _⟩ := id hSw; (go_simp) <;> first | decide | exact IntWalk.i64_in _ (by omega)) (by assumption) ?_
  try simp only [Act.put, pw]
  refine wtk 4 22 (.pointer (some ⟨c, 0, none⟩)) rfl (by kernel_rfl) (fun _ _ _ h => h) (by rfl) (fun x hSw => by obtain ⟨⟨d0, d1, d2, d3, d4, d5, d6, d7, d8, d9, d10, d11, d12, d13, d14⟩, _⟩ := id hSw; (go_simp) <;> first | decide | exact IntWalk.i64_in _ (by omega)) (by assumption) ?_
  try simp only [Act.put, pw]
  refine wtk 5 23 (.pointer (some ⟨c, 0, none⟩)) rfl (by kernel_rfl) (fun _ _ _ h => h) (by rfl) (fun x hSw => by obtain ⟨⟨d0, d1, d2, d3, d4, d5, d6, d7, d8, d9, d10, d11, d12, d13, d14⟩, _⟩ := id hSw; (go_simp) <;> first | decide | exact IntWalk.i64_in _ (by omega)) (by assumption) ?_
  try simp only [Act.put, pw]
  refine wtk 6 24 (.pointer (some ⟨c, 0, none⟩)) rfl (by kernel_rfl) (fun _ _ _ h => h) (by rfl) (fun x hSw => by obtain ⟨⟨d0, d1, d2, d3, d4, d5, d6, d7, d8, d9, d10, d11, d12, d13, d14⟩, _⟩ := id hSw; (go_simp) <;> first | decide | exact IntWalk.i64_in _ (by omega)) (by assumption) ?_
  try simp only [Act.put, pw]
  refine wtk 7 25 (.agg #[.int .i64 y.id, .int .i64 y.rel, .int .i64 y.due, .int .i64 y.left]) rfl (by kernel_rfl) (fun _ _ _ h => h) (by rfl) (fun x hSw => by obtain ⟨⟨d0, d1, d2, d3, d4, d5, d6, d7, d8, d9, d10, d11, d12, d13, d14⟩, _⟩ := id hSw; (go_simp) <;> first | decide | exact IntWalk.i64_in _ (by omega)) (by assumption) ?_
  try simp only [Act.put, pw]
  refine wtk 8 26 (.pointer (some ⟨p, 0, none⟩)) rfl (by kernel_rfl) (fun _ _ _ h => h) (by rfl) (fun x hSw => by obtain ⟨⟨d0, d1, d2, d3, d4, d5, d6, d7, d8, d9, d10, d11, d12, d13, d14⟩, _⟩ := id hSw; (go_simp) <;> first | decide | exact IntWalk.i64_in _ (by omega)) (by assumption) ?_
  try simp only [Act.put, pw]
  refine wtk 9 27 (.pointer (some ⟨p, 0, none⟩)) rfl (by kernel_rfl) (fun _ _ _ h => h) (by rfl) (fun x hSw => by obtain ⟨⟨d0, d1, d2, d3, d4, d5, d6, d7, d8, d9, d10, d11, d12, d13, d14⟩, _⟩ := id hSw; (go_simp) <;> first | decide | exact IntWalk.i64_in _ (by omega)) (by assumption) ?_
  try simp only [Act.put, pw]
  refine wtk 10 28 (.pointer (some ⟨p, 0, none⟩)) rfl (by kernel_rfl) (fun _ _ _ h => h) (by rfl) (fun x hSw => by obtain ⟨⟨d0, d1, d2, d3, d4, d5, d6, d7, d8, d9, d10, d11, d12, d13, d14⟩, _⟩ := id hSw; (go_simp) <;> first | decide | exact IntWalk.i64_in _ (by omega)) (by assumption) ?_
  try simp only [Act.put, pw]
  refine wtk 11 29 (.agg #[.int .i64 x.id, .int .i64 x.rel, .int .i64 x.due, .int .i64 x.left]) rfl (by kernel_rfl) (fun _ _ _ h => h) (by rfl) (fun x hSw => by obtain ⟨⟨d0, d1, d2, d3, d4, d5, d6, d7, d8, d9, d10, d11, d12, d13, d14⟩, _⟩ := id hSw; (go_simp) <;> first | decide | exact IntWalk.i64_in _ (by omega)) (by assumption) ?_
  try simp only [Act.put, pw]
  refine wpAnyH_ready (rs := [12]) (by kernel_rfl) (by simp) (AllReadyH.cons rfl (fun K hK => ?_) AllReadyH.nil)
  go_simp
  refine (HL.out _).mono ?_
  rintro e w1 ⟨rfl, b1⟩
  have B2 := bl_below B1 b1
  refine hK.out _ _ (skeep KC B2) (fun hHeld => ?_)
  clear hK K
  clear b1 HL B1
  try simp only [Act.put, pw]
  refine wtk 13 17 (.bool true) rfl (by kernel_rfl) (fun _ _ _ h => h) (by rfl) (fun x hSw => by obtain ⟨⟨d0, d1, d2, d3, d4, d5, d6, d7, d8, d9, d10, d11, d12, d13, d14⟩, _⟩ := id hSw; (go_simp) <;> first | decide | exact IntWalk.i64_in _ (by omega)) (by assumption) ?_
  try simp only [Act.put, pw]
  refine wpAnyH_done (by kernel_rfl) ?_ _
  go_wp2_with fail
  have HH1 : Hid (Hx w1 h top n) := Bx.bl HH.out B2
  have HP1 : Hid (Lf w1 p x) := Bx.bl HP.out B2
  have HC1 : Hid (Lf w1 c y) := Bx.bl HC.out B2
  refine (meld_lt HH1.out HC1.out HP1.out (lessF_asym HLT.out)).mono ?_
  rintro e w2 ⟨q, rfl, hT, b2⟩
  have HT := Lib.hid hT
  have B3 := bl_below B2 b2
  clear b2 hT
  go_wp2_with fail
  go_ret
  exact ⟨q, rfl, HT.out, B3.out⟩
/-- Two heaps of one job each: one of both. -/
theorem meld_two {w : World} {h p c : Nat} {top : Value} {n : Int} {x y : Jb} (hH : Hx w h top n) (hp : Lf w p x) (hc : Lf w c y) :
    Calls Tryz.prog 166 #[.pointer (some ⟨h, 0, none⟩), .pointer (some ⟨p, 0, none⟩), .pointer (some ⟨c, 0, none⟩)] w fun e w' => ∃ q r a b, e = .returned (.pointer (some ⟨q, 0, none⟩)) ∧ Tw w' q r a b ∧ ((a = x ∧ b = y) ∨ (a = y ∧ b = x)) ∧ Below w.heap.size w w' := by
  cases hl : lessF y x
  · refine (meld_lt hH hp hc hl).mono ?_
    rintro e w' ⟨q, rfl, h1, h2⟩
    exact ⟨q, c, x, y, rfl, h1, .inl ⟨rfl, rfl⟩, h2⟩
  · refine (meld_gt hH hp hc hl).mono ?_
    rintro e w' ⟨q, rfl, h1, h2⟩
    exact ⟨q, p, y, x, rfl, h1, .inr ⟨rfl, rfl⟩, h2⟩
end Go.Proofs.YtoichcickcgbgaaGreatDoor
