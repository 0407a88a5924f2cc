/-
  The control's releases: a job of a task is laid to the others.
  The control's settles: at rest what was marked is struck.
  Which jobs there may be; what a slot's releases bring.
-/
import Derived.Test.YtoichcickcgbgaaGreatDoorGCaCi
namespace Go.Proofs.YtoichcickcgbgaaGreatDoor
open Go.RowKit Go.Maps
attribute [local go_sem] Oper.semAt_some
theorem Cols.ne {col : Nat → Nat} {a b i j : Nat} (h : col a = i) (h' : col b = j) (hij : i ≠ j) : a ≠ b := fun e => hij (by rw [← h, ← h', e])
theorem klaw3 : Keyed Tryz.prog 3 := int_keyed Tryz.underlying3
/-- One may come to the jobs. -/
def Adds (js js' : List Jb) (j : Jb) : Prop := ((js.any fun y => y.id == j.id) = true ∧ js' = js) ∨ (js.any fun y => y.id == j.id) = false ∧ (js' = js ++ [j] ∨ js' = j :: js)
section
variable {w : World} {col : Nat → Nat} {K : Ck} {n0 t : Int} {rs : List Rk} {gm : Int → Option (Int × Int)} {js : List Jb} {u : Nat}
set_option maxRecDepth 100000 in
set_option maxHeartbeats 2000000 in
theorem creleases_any (H : Ctl w col K n0 t rs gm js u) (x : Tk) (r : Int) (hl : js.length ≤ 2) (hj : Jb.ok ⟨x.id, t, t + x.d, r⟩) (hf : (js.any fun y => y.id == x.id) = false → js.length ≤ 1) (hu : u < 1000000) (hid : 0 ≤ x.id ∧ x.id < 256) :
    Calls Tryz.prog 58 #[.pointer (some ⟨K.c, 0, none⟩), .agg #[.int .i64 x.id, .int .i64 x.c, .int .i64 x.d, .int .i64 x.t, .int .i64 x.m], .int .i64 r] w fun e w' => e = .returned (.tuple #[]) ∧ (∃ js', Ctl w' col K n0 t rs gm js' (u + 1) ∧ Adds js js' ⟨x.id, t, t + x.d, r⟩) ∧ Turn (Own col) w w' := by
  have b0 := (Below.refl w.heap.size w).alloc (Nat.le_refl _) (.cells #[.int .i64 x.id, .int .i64 x.c, .int .i64 x.d, .int .i64 x.t, .int .i64 x.m] 32)
  have HZ := Lib.hid (Bx.new w [.int .i64 x.id, .int .i64 x.c, .int .i64 x.d, .int .i64 x.t, .int .i64 x.m] 32)
  have HH := Lib.hid (H.below b0)
  have HT := Lib.hid (Turn.below (S := Own col) b0)
  have hnew := H.new
  have hJ := hj
  have HJ := Lib.hid hj
  obtain ⟨j1, j2, j3, j4, j5, j6⟩ := hj
  simp only at j1 j2 j3 j4 j5 j6
  clear b0 H hJ
  have hkey := keyOf_int_mk (a := x.id) Tryz.underlying3 (WalkArith.wf_i64 (by omega))
  go_enter Tryz.func58, Tryz.ntmps58
  go_wp2_with fail
  generalize w.alloc (.cells #[.int .i64 x.id, .int .i64 x.c, .int .i64 x.d, .int .i64 x.t, .int .i64 x.m] 32) = u0 at *
  have q1 : u0.drew.cell? ⟨K.c, 5, none⟩ = some (.int .i64 t) ∧ u0.drew.cell? ⟨w.heap.size, 2, none⟩ = some (.int .i64 x.d) := ⟨Bx.cell HH.out.box 5 rfl, HZ.out.cell 2 rfl⟩
  refine wp_region_held_drew (S := fun y => y.cell? ⟨K.c, 5, none⟩ = some (.int .i64 t) ∧ y.cell? ⟨w.heap.size, 2, none⟩ = some (.int .i64 x.d)) (by kernel_rfl) (q1) (fun hHeld => ?_)
  refine wtk 0 7 (.pointer (some ⟨K.c, 0, none⟩)) rfl (by kernel_rfl) (fun _ _ _ h => h) (by rfl) (fun x hSw => by obtain ⟨d0, d1⟩ := id hSw; (go_simp) <;> first | decide | exact IntWalk.i64_in _ (by omega)) (by assumption) ?_
  try simp only [Act.put, pw]
  refine wtk 1 8 (.pointer (some ⟨K.c, 0, none⟩)) rfl (by kernel_rfl) (fun _ _ _ h => h) (by rfl) (fun x hSw => by obtain ⟨d0, d1⟩ := id hSw; (go_simp) <;> first | decide | exact IntWalk.i64_in _ (by omega)) (by assumption) ?_
  try simp only [Act.put, pw]
  refine wtk 2 9 (.pointer (some ⟨K.c, 5, none⟩)) rfl (by kernel_rfl) (fun _ _ _ h => h) (by rfl) (fun x hSw => by obtain ⟨d0, d1⟩ := id hSw; (go_simp) <;> first | decide | exact IntWalk.i64_in _ (by omega)) (by assumption) ?_
  try simp only [Act.put, pw]
  refine wtk 3 10 (.int .i64 t) rfl (by kernel_rfl) (fun _ _ _ h => h) (by rfl) (fun x hSw => by obtain ⟨d0, d1⟩ := id hSw; (go_simp) <;> first | decide | exact IntWalk.i64_in _ (by omega)) (by assumption) ?_
  try simp only [Act.put, pw]
  refine wtk 4 11 (.pointer (some ⟨w.heap.size, 2, none⟩)) rfl (by kernel_rfl) (fun _ _ _ h => h) (by rfl) (fun x hSw => by obtain ⟨d0, d1⟩ := id hSw; (go_simp) <;> first | decide | exact IntWalk.i64_in _ (by omega)) (by assumption) ?_
  try simp only [Act.put, pw]
  refine wtk 5 12 (.int .i64 x.d) rfl (by kernel_rfl) (fun _ _ _ h => h) (by rfl) (fun x hSw => by obtain ⟨d0, d1⟩ := id hSw; (go_simp) <;> first | decide | exact IntWalk.i64_in _ (by omega)) (by assumption) ?_
  try simp only [Act.put, pw]
  refine wtk 6 13 (.int .i64 (t + x.d)) rfl (by kernel_rfl) (fun _ _ _ h => h) (by rfl) (fun x hSw => by obtain ⟨d0, d1⟩ := id hSw; (go_simp) <;> first | decide | exact IntWalk.i64_in _ (by omega)) (by assumption) ?_
  try simp only [Act.put, pw]
  refine wtk 7 6 (.int .i64 (t + x.d)) rfl (by kernel_rfl) (fun _ _ _ h => h) (by rfl) (fun x hSw => by obtain ⟨d0, d1⟩ := id hSw; (go_simp) <;> first | decide | exact IntWalk.i64_in _ (by omega)) (by assumption) ?_
  try simp only [Act.put, pw]
  refine wpAnyH_done (by kernel_rfl) ?_ _
  clear q1 hHeld
  go_wp2_with fail
  have HH := Lib.hid (HH.out.below (bl_drew (bl0 _)).out)
  have HZ := Lib.hid (HZ.out.below (bl_drew (bl0 _)).out)
  have HT := Lib.hid (HT.out.drew)
  generalize u0.drew = u1 at *
  have n1 : ¬ K.c = K.h := Cols.ne HH.out.cols.c HH.out.cols.h (by decide)
  have n2 : ¬ w.heap.size = K.h := Cols.ne hnew HH.out.cols.h (by decide)
  have KC : Hid (∀ y, Hid (Turn (fun i => i = K.h) u1 y) → (y.cell? ⟨K.c, 5, none⟩ = some (.int .i64 t) ∧ y.cell? ⟨K.c, 8, none⟩ = some (.pointer (some ⟨K.x, 0, none⟩)) ∧ y.cell? ⟨w.heap.size, 0, none⟩ = some (.int .i64 x.id))) := fun y b => ⟨(Bx.turn HH.out.box b.out n1).cell 5 rfl, (Bx.turn HH.out.box b.out n1).cell 8 rfl, (HZ.out.turn b.out n2).cell 0 rfl⟩
  have T1 : Hid (Turn (fun i => i = K.h) u1 u1.drew) := (Turn.refl _ _).drew
  refine wp_region_held_drew (S := fun y => (y.cell? ⟨K.c, 5, none⟩ = some (.int .i64 t) ∧ y.cell? ⟨K.c, 8, none⟩ = some (.pointer (some ⟨K.x, 0, none⟩)) ∧ y.cell? ⟨w.heap.size, 0, none⟩ = some (.int .i64 x.id)) ∧ Hid (Turn (fun i => i = K.h) u1 y)) (by kernel_rfl) (tkp KC T1) (fun hHeld => ?_)
  refine wtk 0 14 (.pointer (some ⟨K.c, 0, none⟩)) rfl (by kernel_rfl) (fun _ _ _ h => h) (by rfl) (fun x hSw => by obtain ⟨⟨d0, d1, d2⟩, _⟩ := id hSw; (go_simp) <;> first | decide | exact IntWalk.i64_in _ (by omega)) (by assumption) ?_
  try simp only [Act.put, pw]
  refine wtk 1 15 (.pointer (some ⟨K.c, 0, none⟩)) rfl (by kernel_rfl) (fun _ _ _ h => h) (by rfl) (fun x hSw => by obtain ⟨⟨d0, d1, d2⟩, _⟩ := id hSw; (go_simp) <;> first | decide | exact IntWalk.i64_in _ (by omega)) (by assumption) ?_
  try simp only [Act.put, pw]
  refine wtk 2 16 (.pointer (some ⟨K.c, 8, none⟩)) rfl (by kernel_rfl) (fun _ _ _ h => h) (by rfl) (fun x hSw => by obtain ⟨⟨d0, d1, d2⟩, _⟩ := id hSw; (go_simp) <;> first | decide | exact IntWalk.i64_in _ (by omega)) (by assumption) ?_
  try simp only [Act.put, pw]
  refine wtk 3 17 (.pointer (some ⟨K.x, 0, none⟩)) rfl (by kernel_rfl) (fun _ _ _ h => h) (by rfl) (fun x hSw => by obtain ⟨⟨d0, d1, d2⟩, _⟩ := id hSw; (go_simp) <;> first | decide | exact IntWalk.i64_in _ (by omega)) (by assumption) ?_
  try simp only [Act.put, pw]
  refine wtk 4 18 (.pointer (some ⟨w.heap.size, 0, none⟩)) rfl (by kernel_rfl) (fun _ _ _ h => h) (by rfl) (fun x hSw => by obtain ⟨⟨d0, d1, d2⟩, _⟩ := id hSw; (go_simp) <;> first | decide | exact IntWalk.i64_in _ (by omega)) (by assumption) ?_
  try simp only [Act.put, pw]
  refine wtk 5 19 (.int .i64 x.id) rfl (by kernel_rfl) (fun _ _ _ h => h) (by rfl) (fun x hSw => by obtain ⟨⟨d0, d1, d2⟩, _⟩ := id hSw; (go_simp) <;> first | decide | exact IntWalk.i64_in _ (by omega)) (by assumption) ?_
  try simp only [Act.put, pw]
  refine wtk 6 20 (.pointer (some ⟨K.c, 0, none⟩)) rfl (by kernel_rfl) (fun _ _ _ h => h) (by rfl) (fun x hSw => by obtain ⟨⟨d0, d1, d2⟩, _⟩ := id hSw; (go_simp) <;> first | decide | exact IntWalk.i64_in _ (by omega)) (by assumption) ?_
  try simp only [Act.put, pw]
  refine wtk 7 21 (.pointer (some ⟨K.c, 0, none⟩)) rfl (by kernel_rfl) (fun _ _ _ h => h) (by rfl) (fun x hSw => by obtain ⟨⟨d0, d1, d2⟩, _⟩ := id hSw; (go_simp) <;> first | decide | exact IntWalk.i64_in _ (by omega)) (by assumption) ?_
  try simp only [Act.put, pw]
  refine wtk 8 22 (.pointer (some ⟨K.c, 5, none⟩)) rfl (by kernel_rfl) (fun _ _ _ h => h) (by rfl) (fun x hSw => by obtain ⟨⟨d0, d1, d2⟩, _⟩ := id hSw; (go_simp) <;> first | decide | exact IntWalk.i64_in _ (by omega)) (by assumption) ?_
  try simp only [Act.put, pw]
  refine wtk 9 23 (.int .i64 t) rfl (by kernel_rfl) (fun _ _ _ h => h) (by rfl) (fun x hSw => by obtain ⟨⟨d0, d1, d2⟩, _⟩ := id hSw; (go_simp) <;> first | decide | exact IntWalk.i64_in _ (by omega)) (by assumption) ?_
  try simp only [Act.put, pw]
  refine wtk 10 24 (.int .i64 (t + x.d)) rfl (by kernel_rfl) (fun _ _ _ h => h) (by rfl) (fun x hSw => by obtain ⟨⟨d0, d1, d2⟩, _⟩ := id hSw; (go_simp) <;> first | decide | exact IntWalk.i64_in _ (by omega)) (by assumption) ?_
  try simp only [Act.put, pw]
  refine wtk 11 25 (.int .i64 r) rfl (by kernel_rfl) (fun _ _ _ h => h) (by rfl) (fun x hSw => by obtain ⟨⟨d0, d1, d2⟩, _⟩ := id hSw; (go_simp) <;> first | decide | exact IntWalk.i64_in _ (by omega)) (by assumption) ?_
  try simp only [Act.put, pw]
  refine wtk 12 26 (.agg #[.int .i64 x.id, .int .i64 t, .int .i64 (t + x.d), .int .i64 r]) rfl (by kernel_rfl) (fun _ _ _ h => h) (by rfl) (fun x hSw => by obtain ⟨⟨d0, d1, d2⟩, _⟩ := id hSw; (go_simp) <;> first | decide | exact IntWalk.i64_in _ (by omega)) (by assumption) ?_
  try simp only [Act.put, pw]
  refine wpAnyH_ready (rs := [13]) (by kernel_rfl) (by simp) (AllReadyH.cons rfl (fun KK hK => ?_) AllReadyH.nil)
  go_simp
  refine (eadd_any (HH.out.ex.below (bl_drew (bl0 _)).out) hl HJ.out hf).mono ?_
  rintro e w3 ⟨⟨v3, rfl⟩, hq, t3⟩
  have T3 : Hid (Turn (fun i => i = K.h) u1 w3) := T1.out.trans t3
  refine hK.out _ _ (tkp KC T3) (fun hHeld => ?_)
  clear hK KK
  have HQ := Lib.hid hq
  clear hq t3 T1
  try simp only [Act.put, pw]
  refine wpAnyH_done (by kernel_rfl) ?_ _
  go_wp2_with fail
  obtain ⟨js', hx', hadd⟩ := HQ.out
  have HA := Lib.hid hadd
  have HT := Lib.hid (HT.out.trans (Ctl.own T3.out HH.out.cols.h (by decide)))
  have HZ := Lib.hid (HZ.out.turn T3.out n2)
  have HH := Lib.hid (HH.out.setEx T3.out hx')
  clear HQ hadd hHeld T3 KC hx'
  obtain ⟨mn, hmn, D, hown⟩ := HH.out.mks
  obtain ⟨w9, hrun, ho9, hg9⟩ := (show w3.drew.ownsMap Tryz.prog 3 (plainElem Tryz.prog 2) K.mb mn D from hown).update klaw3 Tryz.underlying63 (by unfold maxLen; omega) hkey (plainElem_int (a := t + x.d) Tryz.underlying2 (WalkArith.wf_i64 (by omega)))
  have HO9 := Lib.hid ho9
  have HG9 := Lib.hid hg9
  clear ho9 hg9 hown
  have q3 : w3.drew.cell? ⟨K.c, 10, none⟩ = some (.map (some K.mb)) ∧ w3.drew.cell? ⟨w.heap.size, 0, none⟩ = some (.int .i64 x.id) := ⟨Bx.cell HH.out.box 10 rfl, HZ.out.cell 0 rfl⟩
  have hTd : Turn (fun i => i = K.mb) w3.drew w9 := Turn.grown HG9.out (fun j hj _ => (Option.some.inj hj).symm)
  have hT9 : Turn (fun i => i = K.mb) w3 w9 := ⟨hTd.os, hTd.tape, hTd.output, hTd.size, hTd.block⟩
  have q9 : w9.cell? ⟨K.c, 10, none⟩ = some (.map (some K.mb)) ∧ w9.cell? ⟨w.heap.size, 0, none⟩ = some (.int .i64 x.id) := ⟨(Bx.turn HH.out.box hT9 (Cols.ne HH.out.cols.c HH.out.cols.mb (by decide))).cell 10 rfl, (HZ.out.turn hT9 (Cols.ne hnew HH.out.cols.mb (by decide))).cell 0 rfl⟩
  refine wp_region_held_drew (S := fun y => y.cell? ⟨K.c, 10, none⟩ = some (.map (some K.mb)) ∧ y.cell? ⟨w.heap.size, 0, none⟩ = some (.int .i64 x.id)) (by kernel_rfl) (q3) (fun hHeld => ?_)
  refine wtk 0 28 (.pointer (some ⟨K.c, 0, none⟩)) rfl (by kernel_rfl) (fun _ _ _ h => h) (by rfl) (fun x hSw => by obtain ⟨d0, d1⟩ := id hSw; (go_simp) <;> first | decide | exact IntWalk.i64_in _ (by omega)) (by assumption) ?_
  try simp only [Act.put, pw]
  refine wtk 1 29 (.pointer (some ⟨K.c, 0, none⟩)) rfl (by kernel_rfl) (fun _ _ _ h => h) (by rfl) (fun x hSw => by obtain ⟨d0, d1⟩ := id hSw; (go_simp) <;> first | decide | exact IntWalk.i64_in _ (by omega)) (by assumption) ?_
  try simp only [Act.put, pw]
  refine wtk 2 30 (.pointer (some ⟨K.c, 10, none⟩)) rfl (by kernel_rfl) (fun _ _ _ h => h) (by rfl) (fun x hSw => by obtain ⟨d0, d1⟩ := id hSw; (go_simp) <;> first | decide | exact IntWalk.i64_in _ (by omega)) (by assumption) ?_
  try simp only [Act.put, pw]
  refine wtk 3 31 (.map (some K.mb)) rfl (by kernel_rfl) (fun _ _ _ h => h) (by rfl) (fun x hSw => by obtain ⟨d0, d1⟩ := id hSw; (go_simp) <;> first | decide | exact IntWalk.i64_in _ (by omega)) (by assumption) ?_
  try simp only [Act.put, pw]
  refine wtk 4 32 (.pointer (some ⟨w.heap.size, 0, none⟩)) rfl (by kernel_rfl) (fun _ _ _ h => h) (by rfl) (fun x hSw => by obtain ⟨d0, d1⟩ := id hSw; (go_simp) <;> first | decide | exact IntWalk.i64_in _ (by omega)) (by assumption) ?_
  try simp only [Act.put, pw]
  refine wtk 5 33 (.int .i64 x.id) rfl (by kernel_rfl) (fun _ _ _ h => h) (by rfl) (fun x hSw => by obtain ⟨d0, d1⟩ := id hSw; (go_simp) <;> first | decide | exact IntWalk.i64_in _ (by omega)) (by assumption) ?_
  try simp only [Act.put, pw]
  refine wtk 6 34 (.int .i64 (t + x.d)) rfl (by kernel_rfl) (fun _ _ _ h => h) (by rfl) (fun x hSw => by obtain ⟨d0, d1⟩ := id hSw; (go_simp) <;> first | decide | exact IntWalk.i64_in _ (by omega)) (by assumption) ?_
  try simp only [Act.put, pw]
  refine wpAnyH_ready (rs := [7]) (by kernel_rfl) (by simp) (AllReadyH.cons rfl (fun KK hK => ?_) AllReadyH.nil)
  go_simp
  try rw [hrun]
  refine hK.out _ _ (q9) (fun hHeld => ?_)
  clear hK KK
  try simp only [Act.put, pw]
  refine wpAnyH_done (by kernel_rfl) ?_ _
  have HT := Lib.hid (HT.out.trans (Ctl.own hT9 HH.out.cols.mb (by decide)))
  have HH := Lib.hid ((HH.out.more (Nat.le_succ u)).setMk hT9 ⟨mn + 1, by omega, _, HO9.out⟩)
  clear q3 hHeld HG9 HO9 hrun hT9
  have c12 := Bx.cell HH.out.box 12 rfl
  go_wp2_with fail
  refine (cadd_any HH.out 2 1 (by decide) (by decide)).mono ?_
  rintro e w10 ⟨⟨v10, rfl⟩, h10, t10⟩
  have H10 := Lib.hid h10
  have T10 := Lib.hid t10
  clear h10 t10 c12
  go_wp2_with fail
  go_end0
  exact ⟨rfl, ⟨js', H10.out, HA.out⟩, HT.out.trans T10.out⟩
end
end Go.Proofs.YtoichcickcgbgaaGreatDoor
namespace Go.Proofs.YtoichcickcgbgaaGreatDoor
open Go.RowKit Go.Maps
attribute [local go_sem] Oper.semAt_some
attribute [local go_sem] run_store_func
set_option maxRecDepth 100000 in
theorem idxe_nil (f : Value) (w : World) : Calls Tryz.prog 188 #[.slice none 0 0, f] w fun e w' => e = .returned (.int .i64 (-1)) ∧ Below w.heap.size w w' := by
  go_enter Tryz.func188, Tryz.ntmps188
  go_wp2_with fail
  refine wp_loop_rounds 1 ?_
  rw [rounds_succ]
  go_wp2_with fail
  go_ret
  exact ⟨rfl, Below.refl _ _⟩
set_option maxRecDepth 100000 in
theorem dele_nil (f : Value) (w : World) : Calls Tryz.prog 150 #[.slice none 0 0, f] w fun e w' => e = .returned (.slice none 0 0) ∧ Below w.heap.size w w' := by
  go_enter Tryz.func150, Tryz.ntmps150
  go_wp2_with fail
  refine (idxe_nil _ _).mono ?_
  rintro e w1 ⟨rfl, b1⟩
  have B1 := Lib.hid b1
  clear b1
  go_wp2_with fail
  go_ret
  exact ⟨rfl, B1.out⟩
/-- Whether a mark is past. -/
def pastM (t : Int) (_ : Lit) : DataW Unit → Bool
  | .lit (.int .i64 a) => decide (a ≤ t)
  | _ => false
set_option maxRecDepth 100000 in
theorem past_any {w : World} {b c : Nat} {key : Value} {a t : Int} (h1 : w.cell? ⟨b, 0, none⟩ = some (.pointer (some ⟨c, 0, none⟩))) (h2 : w.cell? ⟨c, 5, none⟩ = some (.int .i64 t)) :
    Calls Tryz.prog 149 #[key, .int .i64 a, .pointer (some ⟨b, 0, none⟩)] w fun e w' => e = .returned (.bool (decide (a ≤ t))) ∧ w = w' := by
  go_enter Tryz.func149, Tryz.ntmps149
  go_wp2_with fail
  go_ret
  exact ⟨rfl, rfl⟩
section
variable {w : World} {col : Nat → Nat} {K : Ck} {n0 t : Int} {rs : List Rk} {gm : Int → Option (Int × Int)} {js : List Jb} {u : Nat}
theorem marks_any (H : Ctl w col K n0 t rs gm js u) {b : Nat} (hb : Bx w b 26 [.pointer (some ⟨K.c, 0, none⟩)]) :
    Calls Tryz.prog 148 #[.map (some K.mb), .func (.func 149) #[] #[.pointer (some ⟨b, 0, none⟩)]] w fun e w' => e = .returned (.tuple #[]) ∧ PMk w' K u ∧ Turn (fun i => i = K.mb) w w' := by
  obtain ⟨n, hn, D, ho⟩ := H.mks
  have n1 : K.mb ≠ b := fun e => owns_ne ho hb e.symm
  have n2 : K.mb ≠ K.c := Cols.ne H.cols.mb H.cols.c (by decide)
  refine (AnyDf.maps_DeleteFunc Sh.delMarks (int_keyed Tryz.underlying3) (plainElem Tryz.prog 2) (pastM t) 149 #[.pointer (some ⟨b, 0, none⟩)] K.mb n D w (enters_of Tryz.func149 (by kernel_rfl) rfl) ho ?_).mono ?_
  · intro W key val kl yd yp hg hkey hv
    obtain ⟨a, rfl, hz, _⟩ := plainElem_int_inv Tryz.underlying2 hv
    cases hz
    refine (past_any (t := t) (c := K.c) ((World.cell?_of_block (hg.block b hb.lt (fun e => n1 (Option.some.inj e).symm))).trans (hb.cell 0 rfl)) ((World.cell?_of_block (hg.block K.c (Bx.lt H.box) (fun e => n2 (Option.some.inj e).symm))).trans (Bx.cell H.box 5 rfl))).mono ?_
    rintro e w1 ⟨rfl, rfl⟩
    exact ⟨rfl, ⟨rfl, rfl, rfl, Nat.le_refl _, fun _ _ _ => rfl⟩⟩
  · rintro e w1 ⟨rfl, ho', hg⟩
    exact ⟨rfl, ⟨n, hn, _, ho'⟩, Turn.grown hg (fun j hj _ => (Option.some.inj hj).symm)⟩
set_option maxRecDepth 100000 in
set_option maxHeartbeats 2000000 in
theorem csettles_any (H : Ctl w col K n0 t rs gm js u) :
    Calls Tryz.prog 98 #[.pointer (some ⟨K.c, 0, none⟩)] w fun e w' => e = .returned (.tuple #[]) ∧ Ctl w' col K n0 t rs gm js u ∧ Turn (Own col) w w' := by
  have b0 := (Below.refl w.heap.size w).alloc (Nat.le_refl _) (.cells #[.pointer (some ⟨K.c, 0, none⟩)] 26)
  have HZ := Lib.hid (Bx.new w [.pointer (some ⟨K.c, 0, none⟩)] 26)
  have HH := Lib.hid (H.below b0)
  have HT := Lib.hid (Turn.below (S := Own col) b0)
  have hnew := H.new
  clear b0 H
  go_enter Tryz.func98, Tryz.ntmps98
  have c8 := Bx.cell HH.out.box 8 rfl
  have z0 := HZ.out.cell 0 rfl
  go_wp2_with fail
  generalize w.alloc (.cells #[.pointer (some ⟨K.c, 0, none⟩)] 26) = u0 at *
  refine (idle_any HH.out.ex).mono ?_
  rintro e w1 ⟨rfl, rfl⟩
  have c10 := Bx.cell HH.out.box 10 rfl
  cases hd : decide (js = [])
  · go_wp2_with fail
    (try simp only [Exit.inBlock, Exit.then])
    refine bodyPost_ret (results_none rfl _ _ _) rfl ?_
    exact ⟨rfl, HH.out, HT.out⟩
  · go_wp2_with fail
    refine (marks_any HH.out HZ.out).mono ?_
    rintro e w2 ⟨rfl, h2, t2⟩
    have HZ2 := Lib.hid (HZ.out.turn t2 (Cols.ne hnew HH.out.cols.mb (by decide)))
    have HT2 := Lib.hid (HT.out.trans (Ctl.own t2 HH.out.cols.mb (by decide)))
    have HH2 := Lib.hid (HH.out.setMk t2 h2)
    clear h2 t2 HH HT HZ c10 c8 z0
    go_wp2_with fail
    have KC : Hid (∀ y, Hid (Below w2.heap.size w2 y) → (y.cell? ⟨K.c, 11, none⟩ = some (.slice none 0 0) ∧ y.cell? ⟨w.heap.size, 0, none⟩ = some (.pointer (some ⟨K.c, 0, none⟩)))) := fun y h => ⟨(Bx.below HH2.out.box h.out).cell 11 rfl, (HZ2.out.below h.out).cell 0 rfl⟩
    have B1 : Hid (Below w2.heap.size w2 w2.drew) := bl_drew (bl0 _)
    refine wp_region_held_drew (S := fun y => y.cell? ⟨K.c, 11, none⟩ = some (.slice none 0 0) ∧ y.cell? ⟨w.heap.size, 0, none⟩ = some (.pointer (some ⟨K.c, 0, none⟩))) (by kernel_rfl) (KC.out _ B1) (fun hHeld => ?_)
    refine wtk 0 14 (.pointer (some ⟨K.c, 0, none⟩)) rfl (by kernel_rfl) (fun _ _ _ h => h) (by rfl) (fun x hSw => by obtain ⟨d0, d1⟩ := id hSw; (go_simp) <;> first | decide | exact IntWalk.i64_in _ (by omega)) (by assumption) ?_
    try simp only [Act.put, pw]
    refine wtk 1 15 (.pointer (some ⟨K.c, 0, none⟩)) rfl (by kernel_rfl) (fun _ _ _ h => h) (by rfl) (fun x hSw => by obtain ⟨d0, d1⟩ := id hSw; (go_simp) <;> first | decide | exact IntWalk.i64_in _ (by omega)) (by assumption) ?_
    try simp only [Act.put, pw]
    refine wtk 2 16 (.pointer (some ⟨K.c, 0, none⟩)) rfl (by kernel_rfl) (fun _ _ _ h => h) (by rfl) (fun x hSw => by obtain ⟨d0, d1⟩ := id hSw; (go_simp) <;> first | decide | exact IntWalk.i64_in _ (by omega)) (by assumption) ?_
    try simp only [Act.put, pw]
    refine wtk 3 17 (.pointer (some ⟨K.c, 11, none⟩)) rfl (by kernel_rfl) (fun _ _ _ h => h) (by rfl) (fun x hSw => by obtain ⟨d0, d1⟩ := id hSw; (go_simp) <;> first | decide | exact IntWalk.i64_in _ (by omega)) (by assumption) ?_
    try simp only [Act.put, pw]
    refine wtk 4 18 (.slice none 0 0) rfl (by kernel_rfl) (fun _ _ _ h => h) (by rfl) (fun x hSw => by obtain ⟨d0, d1⟩ := id hSw; (go_simp) <;> first | decide | exact IntWalk.i64_in _ (by omega)) (by assumption) ?_
    try simp only [Act.put, pw]
    refine wtk 5 19 (.func (.func 151) #[] #[.pointer (some ⟨w.heap.size, 0, none⟩)]) rfl (by kernel_rfl) (fun _ _ _ h => h) (by rfl) (fun x hSw => by obtain ⟨d0, d1⟩ := id hSw; (go_simp) <;> first | decide | exact IntWalk.i64_in _ (by omega)) (by assumption) ?_
    try simp only [Act.put, pw]
    refine wpAnyH_ready (rs := [6]) (by kernel_rfl) (by simp) (AllReadyH.cons rfl (fun KK hK => ?_) AllReadyH.nil)
    go_simp
    refine (dele_nil _ _).mono ?_
    rintro e w3 ⟨rfl, b3⟩
    have B3 := bl_below B1 b3
    refine hK.out _ _ (KC.out _ B3) (fun hHeld => ?_)
    clear hK KK
    clear b3 B1
    try simp only [Act.put, pw]
    refine wtk 7 21 (.pointer (some ⟨K.c, 0, none⟩)) rfl (by kernel_rfl) (fun _ _ _ h => h) (by rfl) (fun x hSw => by obtain ⟨d0, d1⟩ := id hSw; (go_simp) <;> first | decide | exact IntWalk.i64_in _ (by omega)) (by assumption) ?_
    try simp only [Act.put, pw]
    refine wtk 8 22 (.pointer (some ⟨K.c, 11, none⟩)) rfl (by kernel_rfl) (fun _ _ _ h => h) (by rfl) (fun x hSw => by obtain ⟨d0, d1⟩ := id hSw; (go_simp) <;> first | decide | exact IntWalk.i64_in _ (by omega)) (by assumption) ?_
    try simp only [Act.put, pw]
    refine wpAnyH_ready (rs := [9]) (by kernel_rfl) (by simp) (AllReadyH.cons rfl (fun KK hK => ?_) AllReadyH.nil)
    go_simp
    have f11 := (Bx.below HH2.out.box B3.out).free 11
    have t5 : Turn (fun i => i = K.c) w3 (w3.setCell ⟨K.c, 11, none⟩ (.slice none 0 0)) := Turn.set _ _ _ _ rfl
    have s5 : PBox (w3.setCell ⟨K.c, 11, none⟩ (.slice none 0 0)) K n0 t := Bx.set (Bx.below HH2.out.box B3.out) 11 _ _ rfl
    have q5 : (w3.setCell ⟨K.c, 11, none⟩ (.slice none 0 0)).cell? ⟨w.heap.size, 0, none⟩ = some (.pointer (some ⟨K.c, 0, none⟩)) := ((HZ2.out.below B3.out).turn t5 (Cols.ne hnew HH2.out.cols.c (by decide))).cell 0 rfl
    go_simp
    refine hK.out _ _ (⟨Bx.cell s5 11 rfl, q5⟩) (fun hHeld => ?_)
    clear hK KK
    try simp only [Act.put, pw]
    refine wpAnyH_done (by kernel_rfl) ?_ _
    go_wp2_with fail
    go_end0
    exact ⟨rfl, (HH2.out.below B3.out).setBox t5 s5, (HT2.out.trans (Turn.below B3.out)).trans (Ctl.own t5 HH2.out.cols.c (by decide))⟩
end
end Go.Proofs.YtoichcickcgbgaaGreatDoor
namespace Go.Proofs.YtoichcickcgbgaaGreatDoor
open Go.RowKit
/-- Jobs as they are met. -/
structure JI (js : List Jb) : Prop where
  apart : js.Pairwise (fun a b => a.id ≠ b.id)
  ok : ∀ j ∈ js, (j.id = 0 ∨ j.id = 1) ∧ 1 ≤ j.left ∧ j.left ≤ 1024
theorem JI.nil : JI [] := ⟨.nil, by simp⟩
theorem JI.len {js : List Jb} (h : JI js) : js.length ≤ 2 := by
  match js, h with
  | [], _ => simp
  | [_], _ => simp
  | [_, _], _ => simp
  | a :: b :: c :: l, h =>
    exfalso
    have h1 := h.apart
    simp only [List.pairwise_cons, List.mem_cons] at h1
    have ha := (h.ok a (by simp)).1
    have hb := (h.ok b (by simp)).1
    have hc := (h.ok c (by simp)).1
    have e1 := h1.1 b (by simp)
    have e2 := h1.1 c (by simp)
    have e3 := h1.2.1 c (by simp)
    omega
theorem JI.room {js : List Jb} {i : Int} (h : JI js) (hi : i = 0 ∨ i = 1) (hn : (js.any fun y => y.id == i) = false) : js.length ≤ 1 := by
  match js, h with
  | [], _ => simp
  | [_], _ => simp
  | a :: b :: l, h =>
    exfalso
    have h1 := h.apart
    simp only [List.pairwise_cons, List.mem_cons] at h1
    have ha := (h.ok a (by simp)).1
    have hb := (h.ok b (by simp)).1
    have e1 := h1.1 b (by simp)
    simp at hn
    omega
theorem JI.adds {js js' : List Jb} {j : Jb} (h : JI js) (hj : (j.id = 0 ∨ j.id = 1) ∧ 1 ≤ j.left ∧ j.left ≤ 1024) (ha : Adds js js' j) : JI js' := by
  rcases ha with ⟨_, rfl⟩ | ⟨hn, hh⟩
  · exact h
  · have hne : ∀ y ∈ js, y.id ≠ j.id := fun y hy e => by
      simp at hn
      exact hn y hy e
    rcases hh with rfl | rfl
    · refine ⟨List.pairwise_append.2 ⟨h.apart, by simp, fun a ha b hb => ?_⟩, fun y hy => ?_⟩
      · simp at hb
        subst hb
        exact hne a ha
      · rcases List.mem_append.1 hy with hy | hy
        · exact h.ok y hy
        · simp at hy
          subst hy
          exact hj
    · refine ⟨List.pairwise_cons.2 ⟨fun a ha => (hne a ha).symm, h.apart⟩, fun y hy => ?_⟩
      rcases List.mem_cons.1 hy with rfl | hy
      · exact hj
      · exact h.ok y hy
/-- A row as it is met. -/
structure RowOk (x : Rk) : Prop where
  id : x.k.id = 0 ∨ x.k.id = 1
  c0 : 1 ≤ x.k.c
  c1 : x.k.c ≤ 10
  d0 : 1 ≤ x.k.d
  d1 : x.k.d ≤ 10
  t0 : 1 ≤ x.k.t
  t1 : x.k.t ≤ 10
  m : x.k.m = 1 ∨ x.k.m = 15
/-- What one row's turn may do. -/
def Sv1 (t : Int) (x : Rk) (gm : Int → Option (Int × Int)) (js : List Jb) (gm' : Int → Option (Int × Int)) (js' : List Jb) : Prop :=
  (gm' = gm ∧ js' = js) ∨ (x.s = true ∧ Grd.nx gm x.k.id ≤ t ∧ gm' = Grd.upd gm x.k.id (some (t, t + x.k.t)) ∧ ∃ r, 1 ≤ r ∧ r ≤ x.k.c ∧ Adds js js' ⟨x.k.id, t, t + x.k.d, r⟩)
theorem Sv1.ji {t : Int} {x : Rk} {gm gm' : Int → Option (Int × Int)} {js js' : List Jb} (h : Sv1 t x gm js gm' js') (hx : RowOk x) (hj : JI js) : JI js' := by
  rcases h with ⟨_, rfl⟩ | ⟨_, _, _, r, h1, h2, ha⟩
  · exact hj
  · exact hj.adds ⟨hx.id, h1, by have := hx.c1; simp only; omega⟩ ha
inductive SvL (t : Int) (gm : Int → Option (Int × Int)) (js : List Jb) : List Rk → (Int → Option (Int × Int)) → List Jb → Prop
  | nil : SvL t gm js [] gm js
  | snoc {l : List Rk} {x : Rk} {g1 g2 : Int → Option (Int × Int)} {j1 j2 : List Jb} : SvL t gm js l g1 j1 → Sv1 t x g1 j1 g2 j2 → SvL t gm js (l ++ [x]) g2 j2
end Go.Proofs.YtoichcickcgbgaaGreatDoor
