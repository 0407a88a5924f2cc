/-
  A heap of two jobs at most: Put, Min, Take, Change.
-/
import Derived.Test.YtoichcickcgbgaaGreatDoorGHm
import Derived.Deep.DeepCutAuto
namespace Go.Proofs.YtoichcickcgbgaaGreatDoor
open Go.RowKit
attribute [local go_sem] Oper.semAt_some
attribute [local go_sem] run_store_func
/-- What a heap holds. -/
def Hp (w : World) (h : Nat) : List Jb → Prop
  | [] => Hx w h (.pointer none) 0
  | [a] => ∃ p, Hx w h (.pointer (some ⟨p, 0, none⟩)) 1 ∧ Lf w p a
  | [a, b] => ∃ p c, Hx w h (.pointer (some ⟨p, 0, none⟩)) 2 ∧ Tw w p c a b
  | _ => False
theorem Lf.turn {S : Nat → Prop} {w w' : World} {p : Nat} {x : Jb} (h : Lf w p x) (t : Turn S w w') (hp : ¬ S p) : Lf w' p x := Bx.turn h t hp
theorem Lf.ne {w : World} {p h : Nat} {x : Jb} {top : Value} {n : Int} (h1 : Lf w p x) (h2 : Hx w h top n) : p ≠ h := Bx.ne h1 h2 (by decide)
theorem Tw.ne {w : World} {p c h : Nat} {x y : Jb} {top : Value} {n : Int} (h1 : Tw w p c x y) (h2 : Hx w h top n) : p ≠ h ∧ c ≠ h := ⟨Bx.ne h1.1 h2 (by decide), Bx.ne h1.2 h2 (by decide)⟩
/-- Only what is neither the heap nor a node turns. -/
theorem Hp.turn {S : Nat → Prop} {w w' : World} {h : Nat} {js : List Jb} (hp : Hp w h js) (t : Turn S w w') (hh : ¬ S h) (hn : ∀ p l, Bx w p 289 l → ¬ S p) : Hp w' h js := by
  match js, hp with
  | [], hp => exact Bx.turn hp t hh
  | [a], ⟨p, h1, h2⟩ => exact ⟨p, Bx.turn h1 t hh, Bx.turn h2 t (hn p _ h2)⟩
  | [a, b], ⟨p, c, h1, h2, h3⟩ => exact ⟨p, c, Bx.turn h1 t hh, Bx.turn h2 t (hn p _ h2), Bx.turn h3 t (hn c _ h3)⟩
  | _ :: _ :: _ :: _, hp => exact hp.elim
theorem Hp.below {w w' : World} {h : Nat} {js : List Jb} (hp : Hp w h js) (b : Below w.heap.size w w') : Hp w' h js := hp.turn (S := fun _ => False) (Turn.below b) (fun h => h) (fun _ _ _ h => h)
theorem Hp.hx {w : World} {h : Nat} {js : List Jb} (hp : Hp w h js) : ∃ top, Hx w h top js.length := by
  match js, hp with
  | [], hp => exact ⟨_, hp⟩
  | [a], ⟨p, h1, h2⟩ => exact ⟨_, h1⟩
  | [a, b], ⟨p, c, h1, h2, h3⟩ => exact ⟨_, h1⟩
  | _ :: _ :: _ :: _, hp => exact hp.elim
theorem eql_less (w : World) : (binOp .eql 138 (.func (.func 44) #[] #[]) .nilFunc).run Tryz.prog w = .ok (.bool false) w := by kernel_rfl
attribute [local go_sem] eql_less
set_option maxRecDepth 100000 in
theorem none_any {w : World} {h : Nat} {top : Value} {n : Int} (hH : Hx w h top n) : Calls Tryz.prog 115 #[.pointer (some ⟨h, 0, none⟩)] w fun e w' => e = .returned (.bool false) ∧ w = w' := by
  have c0 := Bx.cell hH 0 rfl
  go_enter Tryz.func115, Tryz.ntmps115
  go_wp2_with fail
  go_ret
  exact ⟨rfl, rfl⟩
set_option maxRecDepth 100000 in
theorem len_any {w : World} {h : Nat} {top : Value} {n : Int} (hH : Hx w h top n) : Calls Tryz.prog 187 #[.pointer (some ⟨h, 0, none⟩)] w fun e w' => e = .returned (.int .i64 n) ∧ w = w' := by
  have c2 := Bx.cell hH 2 rfl
  have HH := Lib.hid hH
  clear hH
  go_enter Tryz.func187, Tryz.ntmps187
  go_wp2_with fail
  refine (none_any HH.out).mono ?_
  rintro e w1 ⟨rfl, rfl⟩
  go_wp2_with fail
  go_ret
  exact ⟨rfl, rfl⟩
set_option maxRecDepth 100000 in
theorem hnew_any (w : World) : Calls Tryz.prog 43 #[.func (.func 44) #[] #[]] w fun e w' => e = .returned (.pointer (some ⟨w.heap.size, 0, none⟩)) ∧ Hp w' w.heap.size [] ∧ Below w.heap.size w w' := by
  go_enter Tryz.func43, Tryz.ntmps43
  go_wp2_with fail
  go_ret
  exact ⟨rfl, Bx.new w [.func (.func 44) #[] #[], .pointer none, .int .i64 0] 192, (Below.refl _ _).alloc (Nat.le_refl _) _⟩
set_option maxRecDepth 100000 in
set_option maxHeartbeats 1000000 in
theorem put_0 {w : World} {h : Nat} {x : Jb} (hp : Hp w h []) :
    Calls Tryz.prog 142 #[.pointer (some ⟨h, 0, none⟩), jv x] w fun e w' => e = .returned (.bool true) ∧ Hp w' h [x] ∧ Turn (fun i => i = h) w w' := by
  show Calls Tryz.prog 142 #[.pointer (some ⟨h, 0, none⟩), .agg #[.int .i64 x.id, .int .i64 x.rel, .int .i64 x.due, .int .i64 x.left]] w _
  have bX := (Below.refl w.heap.size w).alloc (Nat.le_refl _) (.cells #[.int .i64 x.id, .int .i64 x.rel, .int .i64 x.due, .int .i64 x.left] 137)
  have HX := Lib.hid (Bx.new w [.int .i64 x.id, .int .i64 x.rel, .int .i64 x.due, .int .i64 x.left] 137)
  have HH : Hid (Hx _ h _ _) := Bx.below hp bX
  have HB := Lib.hid bX
  clear bX hp
  go_enter Tryz.func142, Tryz.ntmps142
  go_wp2_with fail
  generalize w.alloc (.cells #[.int .i64 x.id, .int .i64 x.rel, .int .i64 x.due, .int .i64 x.left] 137) = u0 at *
  refine (none_any HH.out).mono ?_
  rintro e w1 ⟨rfl, rfl⟩
  go_upto_region 3 with fail
  go_cut [] (fun wx => ∃ q, Hid (Hx wx h (.pointer (some ⟨q, 0, none⟩)) 0) ∧ Hid (Lf wx q x) ∧ Hid (Turn (fun i => i = h) u0 wx))
  case first =>
    have HNE : Hid (¬ w.heap.size = h) := Bx.ne HX.out HH.out (by decide)
    have hlt : h < u0.drew.heap.size := Bx.lt HH.out
    have cT : u0.drew.cell? ⟨h, 1, none⟩ = some (.pointer none) := Bx.cell HH.out 1 rfl
    go_wp2_with fail
    have KC : Hid (∀ z, Hid (Turn (fun i => i = h) u0 z) → (z.cell? ⟨w.heap.size, 0, none⟩ = some (.int .i64 x.id) ∧ z.cell? ⟨w.heap.size, 1, none⟩ = some (.int .i64 x.rel) ∧ z.cell? ⟨w.heap.size, 2, none⟩ = some (.int .i64 x.due) ∧ z.cell? ⟨w.heap.size, 3, none⟩ = some (.int .i64 x.left))) := fun z b => ⟨(HX.out.turn b.out (HNE.out)).cell 0 rfl, (HX.out.turn b.out (HNE.out)).cell 1 rfl, (HX.out.turn b.out (HNE.out)).cell 2 rfl, (HX.out.turn b.out (HNE.out)).cell 3 rfl⟩
    have B1 : Hid (Below u0.heap.size u0 u0.drew) := bl_drew (bl0 _)
    refine wp_region_held_drew (S := fun z => (z.cell? ⟨w.heap.size, 0, none⟩ = some (.int .i64 x.id) ∧ z.cell? ⟨w.heap.size, 1, none⟩ = some (.int .i64 x.rel) ∧ z.cell? ⟨w.heap.size, 2, none⟩ = some (.int .i64 x.due) ∧ z.cell? ⟨w.heap.size, 3, none⟩ = some (.int .i64 x.left)) ∧ Hid (Turn (fun i => i = h) u0 z)) (by kernel_rfl) (tkp KC (Turn.below B1.out)) (fun hHeld => ?_)
    refine wtk 0 7 (.pointer (some ⟨h, 0, none⟩)) rfl (by kernel_rfl) (fun _ _ _ h => h) (by rfl) (fun x hSw => by obtain ⟨⟨d0, d1, d2, d3⟩, _⟩ := id hSw; (go_simp) <;> first | decide | exact IntWalk.i64_in _ (by omega)) (by assumption) ?_
    try simp only [Act.put, pw]
    refine wtk 1 8 (.pointer (some ⟨h, 0, none⟩)) rfl (by kernel_rfl) (fun _ _ _ h => h) (by rfl) (fun x hSw => by obtain ⟨⟨d0, d1, d2, d3⟩, _⟩ := id hSw; (go_simp) <;> first | decide | exact IntWalk.i64_in _ (by omega)) (by assumption) ?_
    try simp only [Act.put, pw]
    refine wtk 2 9 (.pointer (some ⟨h, 0, none⟩)) rfl (by kernel_rfl) (fun _ _ _ h => h) (by rfl) (fun x hSw => by obtain ⟨⟨d0, d1, d2, d3⟩, _⟩ := id hSw; (go_simp) <;> first | decide | exact IntWalk.i64_in _ (by omega)) (by assumption) ?_
    try simp only [Act.put, pw]
    refine wtk 3 10 (.pointer (some ⟨h, 0, none⟩)) rfl (by kernel_rfl) (fun _ _ _ h => h) (by rfl) (fun x hSw => by obtain ⟨⟨d0, d1, d2, d3⟩, _⟩ := id hSw; (go_simp) <;> first | decide | exact IntWalk.i64_in _ (by omega)) (by assumption) ?_
    try simp only [Act.put, pw]
    refine wtk 4 11 (.pointer (some ⟨h, 1, none⟩)) rfl (by kernel_rfl) (fun _ _ _ h => h) (by rfl) (fun x hSw => by obtain ⟨⟨d0, d1, d2, d3⟩, _⟩ := id hSw; (go_simp) <;> first | decide | exact IntWalk.i64_in _ (by omega)) (by assumption) ?_
    try simp only [Act.put, pw]
    refine wtk 6 13 (.agg #[.int .i64 x.id, .int .i64 x.rel, .int .i64 x.due, .int .i64 x.left]) rfl (by kernel_rfl) (fun _ _ _ h => h) (by rfl) (fun x hSw => by obtain ⟨⟨d0, d1, d2, d3⟩, _⟩ := id hSw; (go_simp) <;> first | decide | exact IntWalk.i64_in _ (by omega)) (by assumption) ?_
    try simp only [Act.put, pw]
    refine wtk 7 14 (.agg #[.int .i64 x.id, .int .i64 x.rel, .int .i64 x.due, .int .i64 x.left, .int .i64 1, .pointer none, .pointer none]) rfl (by kernel_rfl) (fun _ _ _ h => h) (by rfl) (fun x hSw => by obtain ⟨⟨d0, d1, d2, d3⟩, _⟩ := id hSw; (go_simp) <;> first | decide | exact IntWalk.i64_in _ (by omega)) (by assumption) ?_
    try simp only [Act.put, pw]
    refine wpAnyH_ready (rs := [5, 8]) (by kernel_rfl) (by simp) (AllReadyH.cons rfl (fun K hK => ?_) (AllReadyH.cons rfl (fun K hK => ?_) AllReadyH.nil))
    · go_simp
      refine hK.out _ _ (tkp KC (Turn.below B1.out)) (fun hHeld => ?_)
      clear hK K
      try simp only [Act.put, pw]
      refine wpAnyH_ready (rs := [8]) (by kernel_rfl) (by simp) (AllReadyH.cons rfl (fun K hK => ?_) AllReadyH.nil)
      go_simp
      have B2 := bl_drew (bl_alloc (.cells #[.int .i64 x.id, .int .i64 x.rel, .int .i64 x.due, .int .i64 x.left, .int .i64 1, .pointer none, .pointer none] 289) (bl0 u0))
      refine hK.out _ _ (tkp KC (Turn.below B2.out)) (fun hHeld => ?_)
      clear hK K
      have HN : Hid (Lf (u0.alloc (.cells #[.int .i64 x.id, .int .i64 x.rel, .int .i64 x.due, .int .i64 x.left, .int .i64 1, .pointer none, .pointer none] 289)).drew u0.heap.size x) := Bx.new u0 [.int .i64 x.id, .int .i64 x.rel, .int .i64 x.due, .int .i64 x.left, .int .i64 1, .pointer none, .pointer none] 289
      generalize (u0.alloc (.cells #[.int .i64 x.id, .int .i64 x.rel, .int .i64 x.due, .int .i64 x.left, .int .i64 1, .pointer none, .pointer none] 289)).drew = u2 at *
      clear B1 cT
      try simp only [Act.put, pw]
      refine wpAnyH_ready (rs := [9]) (by kernel_rfl) (by simp) (AllReadyH.cons rfl (fun K hK => ?_) AllReadyH.nil)
      go_simp
      refine (meld_ln _ _ _).mono ?_
      rintro e w2 ⟨rfl, rfl⟩
      refine hK.out _ _ (tkp KC (Turn.below B2.out)) (fun hHeld => ?_)
      clear hK K
      have hH3 : Hx u2 h (.pointer none) 0 := Bx.bl HH.out B2
      have c1 := Bx.cell hH3 1 rfl
      have f1 := Bx.free hH3 1
      have HH3 := Lib.hid hH3
      clear hH3
      try simp only [Act.put, pw]
      refine wtk 10 17 (.pointer (some ⟨h, 0, none⟩)) rfl (by kernel_rfl) (fun _ _ _ h => h) (by rfl) (fun x hSw => by obtain ⟨⟨d0, d1, d2, d3⟩, _⟩ := id hSw; (go_simp) <;> first | decide | exact IntWalk.i64_in _ (by omega)) (by assumption) ?_
      try simp only [Act.put, pw]
      refine wtk 11 18 (.pointer (some ⟨h, 1, none⟩)) rfl (by kernel_rfl) (fun _ _ _ h => h) (by rfl) (fun x hSw => by obtain ⟨⟨d0, d1, d2, d3⟩, _⟩ := id hSw; (go_simp) <;> first | decide | exact IntWalk.i64_in _ (by omega)) (by assumption) ?_
      try simp only [Act.put, pw]
      refine wpAnyH_ready (rs := [12]) (by kernel_rfl) (by simp) (AllReadyH.cons rfl (fun K hK => ?_) AllReadyH.nil)
      go_simp
      have T5 : Hid (Turn (fun i => i = h) u0 (u2.setCell ⟨h, 1, none⟩ (.pointer (some ⟨u0.heap.size, 0, none⟩)))) := (Turn.below B2.out).trans (Turn.set _ _ _ _ rfl)
      refine hK.out _ _ (tkp KC T5) (fun hHeld => ?_)
      clear hK K
      clear c1 f1
      try simp only [Act.put, pw]
      refine wpAnyH_done (by kernel_rfl) ?_ _
      go_wp2_with fail
      go_meet
      exact ⟨u0.heap.size, Bx.set HH3.out 1 (.pointer (some ⟨u0.heap.size, 0, none⟩)) _ rfl, HN.out.turn (Turn.set (S := fun i => i = h) u2 h 1 (.pointer (some ⟨u0.heap.size, 0, none⟩)) rfl) (HN.out.ne HH3.out), T5⟩
    · go_simp
      have B2 := bl_drew (bl_alloc (.cells #[.int .i64 x.id, .int .i64 x.rel, .int .i64 x.due, .int .i64 x.left, .int .i64 1, .pointer none, .pointer none] 289) (bl0 u0))
      refine hK.out _ _ (tkp KC (Turn.below B2.out)) (fun hHeld => ?_)
      clear hK K
      have HN : Hid (Lf (u0.alloc (.cells #[.int .i64 x.id, .int .i64 x.rel, .int .i64 x.due, .int .i64 x.left, .int .i64 1, .pointer none, .pointer none] 289)).drew u0.heap.size x) := Bx.new u0 [.int .i64 x.id, .int .i64 x.rel, .int .i64 x.due, .int .i64 x.left, .int .i64 1, .pointer none, .pointer none] 289
      generalize (u0.alloc (.cells #[.int .i64 x.id, .int .i64 x.rel, .int .i64 x.due, .int .i64 x.left, .int .i64 1, .pointer none, .pointer none] 289)).drew = u2 at *
      clear B1 cT
      have cT : u2.cell? ⟨h, 1, none⟩ = some (.pointer none) := Bx.cell (Bx.bl HH.out B2) 1 rfl
      try simp only [Act.put, pw]
      refine wpAnyH_ready (rs := [5]) (by kernel_rfl) (by simp) (AllReadyH.cons rfl (fun K hK => ?_) AllReadyH.nil)
      go_simp
      refine hK.out _ _ (tkp KC (Turn.below B2.out)) (fun hHeld => ?_)
      clear hK K
      clear cT
      try simp only [Act.put, pw]
      refine wpAnyH_ready (rs := [9]) (by kernel_rfl) (by simp) (AllReadyH.cons rfl (fun K hK => ?_) AllReadyH.nil)
      go_simp
      refine (meld_ln _ _ _).mono ?_
      rintro e w2 ⟨rfl, rfl⟩
      refine hK.out _ _ (tkp KC (Turn.below B2.out)) (fun hHeld => ?_)
      clear hK K
      have hH3 : Hx u2 h (.pointer none) 0 := Bx.bl HH.out B2
      have c1 := Bx.cell hH3 1 rfl
      have f1 := Bx.free hH3 1
      have HH3 := Lib.hid hH3
      clear hH3
      try simp only [Act.put, pw]
      refine wtk 10 17 (.pointer (some ⟨h, 0, none⟩)) rfl (by kernel_rfl) (fun _ _ _ h => h) (by rfl) (fun x hSw => by obtain ⟨⟨d0, d1, d2, d3⟩, _⟩ := id hSw; (go_simp) <;> first | decide | exact IntWalk.i64_in _ (by omega)) (by assumption) ?_
      try simp only [Act.put, pw]
      refine wtk 11 18 (.pointer (some ⟨h, 1, none⟩)) rfl (by kernel_rfl) (fun _ _ _ h => h) (by rfl) (fun x hSw => by obtain ⟨⟨d0, d1, d2, d3⟩, _⟩ := id hSw; (go_simp) <;> first | decide | exact IntWalk.i64_in _ (by omega)) (by assumption) ?_
      try simp only [Act.put, pw]
      refine wpAnyH_ready (rs := [12]) (by kernel_rfl) (by simp) (AllReadyH.cons rfl (fun K hK => ?_) AllReadyH.nil)
      go_simp
      have T5 : Hid (Turn (fun i => i = h) u0 (u2.setCell ⟨h, 1, none⟩ (.pointer (some ⟨u0.heap.size, 0, none⟩)))) := (Turn.below B2.out).trans (Turn.set _ _ _ _ rfl)
      refine hK.out _ _ (tkp KC T5) (fun hHeld => ?_)
      clear hK K
      clear c1 f1
      try simp only [Act.put, pw]
      refine wpAnyH_done (by kernel_rfl) ?_ _
      go_wp2_with fail
      go_meet
      exact ⟨u0.heap.size, Bx.set HH3.out 1 (.pointer (some ⟨u0.heap.size, 0, none⟩)) _ rfl, HN.out.turn (Turn.set (S := fun i => i = h) u2 h 1 (.pointer (some ⟨u0.heap.size, 0, none⟩)) rfl) (HN.out.ne HH3.out), T5⟩
  case rest =>
    obtain ⟨q, hH, hN, hT⟩ := hcut
    have c2 := Bx.cell hH.out 2 rfl
    have f2 := Bx.free hH.out 2
    go_wp2_with fail
    go_ret
    have t := Turn.set (S := fun i => i = h) wc h 2 (.int .i64 1) rfl
    exact ⟨rfl, ⟨q, Bx.set hH.out 2 (.int .i64 1) _ rfl, hN.out.turn t (hN.out.ne hH.out)⟩, ((Turn.below HB.out).trans hT.out).trans t⟩
set_option maxRecDepth 100000 in
set_option maxHeartbeats 1000000 in
theorem put_1 {w : World} {h : Nat} {a x : Jb} (hp : Hp w h [a]) :
    Calls Tryz.prog 142 #[.pointer (some ⟨h, 0, none⟩), jv x] w fun e w' => e = .returned (.bool true) ∧ (Hp w' h [a, x] ∨ Hp w' h [x, a]) ∧ Turn (fun i => i = h) w w' := by
  show Calls Tryz.prog 142 #[.pointer (some ⟨h, 0, none⟩), .agg #[.int .i64 x.id, .int .i64 x.rel, .int .i64 x.due, .int .i64 x.left]] w _
  have bX := (Below.refl w.heap.size w).alloc (Nat.le_refl _) (.cells #[.int .i64 x.id, .int .i64 x.rel, .int .i64 x.due, .int .i64 x.left] 137)
  have HX := Lib.hid (Bx.new w [.int .i64 x.id, .int .i64 x.rel, .int .i64 x.due, .int .i64 x.left] 137)
  obtain ⟨p, h1, h2⟩ := hp
  have HH : Hid (Hx _ h _ _) := Bx.below h1 bX
  have HL : Hid (Lf _ p a) := Bx.below h2 bX
  clear h1 h2
  have HB := Lib.hid bX
  clear bX
  go_enter Tryz.func142, Tryz.ntmps142
  go_wp2_with fail
  generalize w.alloc (.cells #[.int .i64 x.id, .int .i64 x.rel, .int .i64 x.due, .int .i64 x.left] 137) = u0 at *
  refine (none_any HH.out).mono ?_
  rintro e w1 ⟨rfl, rfl⟩
  go_upto_region 3 with fail
  go_cut [] (fun wx => ∃ q r j1 j2, Hid (Hx wx h (.pointer (some ⟨q, 0, none⟩)) 1) ∧ Hid (Tw wx q r j1 j2) ∧ Hid ((j1 = a ∧ j2 = x) ∨ (j1 = x ∧ j2 = a)) ∧ Hid (Turn (fun i => i = h) u0 wx))
  case first =>
    have HNE : Hid (¬ w.heap.size = h) := Bx.ne HX.out HH.out (by decide)
    have hlt : h < u0.drew.heap.size := Bx.lt HH.out
    have cT : u0.drew.cell? ⟨h, 1, none⟩ = some (.pointer (some ⟨p, 0, none⟩)) := Bx.cell HH.out 1 rfl
    go_wp2_with fail
    have KC : Hid (∀ z, Hid (Turn (fun i => i = h) u0 z) → (z.cell? ⟨w.heap.size, 0, none⟩ = some (.int .i64 x.id) ∧ z.cell? ⟨w.heap.size, 1, none⟩ = some (.int .i64 x.rel) ∧ z.cell? ⟨w.heap.size, 2, none⟩ = some (.int .i64 x.due) ∧ z.cell? ⟨w.heap.size, 3, none⟩ = some (.int .i64 x.left))) := fun z b => ⟨(HX.out.turn b.out (HNE.out)).cell 0 rfl, (HX.out.turn b.out (HNE.out)).cell 1 rfl, (HX.out.turn b.out (HNE.out)).cell 2 rfl, (HX.out.turn b.out (HNE.out)).cell 3 rfl⟩
    have B1 : Hid (Below u0.heap.size u0 u0.drew) := bl_drew (bl0 _)
    refine wp_region_held_drew (S := fun z => (z.cell? ⟨w.heap.size, 0, none⟩ = some (.int .i64 x.id) ∧ z.cell? ⟨w.heap.size, 1, none⟩ = some (.int .i64 x.rel) ∧ z.cell? ⟨w.heap.size, 2, none⟩ = some (.int .i64 x.due) ∧ z.cell? ⟨w.heap.size, 3, none⟩ = some (.int .i64 x.left)) ∧ Hid (Turn (fun i => i = h) u0 z)) (by kernel_rfl) (tkp KC (Turn.below B1.out)) (fun hHeld => ?_)
    refine wtk 0 7 (.pointer (some ⟨h, 0, none⟩)) rfl (by kernel_rfl) (fun _ _ _ h => h) (by rfl) (fun x hSw => by obtain ⟨⟨d0, d1, d2, d3⟩, _⟩ := id hSw; (go_simp) <;> first | decide | exact IntWalk.i64_in _ (by omega)) (by assumption) ?_
    try simp only [Act.put, pw]
    refine wtk 1 8 (.pointer (some ⟨h, 0, none⟩)) rfl (by kernel_rfl) (fun _ _ _ h => h) (by rfl) (fun x hSw => by obtain ⟨⟨d0, d1, d2, d3⟩, _⟩ := id hSw; (go_simp) <;> first | decide | exact IntWalk.i64_in _ (by omega)) (by assumption) ?_
    try simp only [Act.put, pw]
    refine wtk 2 9 (.pointer (some ⟨h, 0, none⟩)) rfl (by kernel_rfl) (fun _ _ _ h => h) (by rfl) (fun x hSw => by obtain ⟨⟨d0, d1, d2, d3⟩, _⟩ := id hSw; (go_simp) <;> first | decide | exact IntWalk.i64_in _ (by omega)) (by assumption) ?_
    try simp only [Act.put, pw]
    refine wtk 3 10 (.pointer (some ⟨h, 0, none⟩)) rfl (by kernel_rfl) (fun _ _ _ h => h) (by rfl) (fun x hSw => by obtain ⟨⟨d0, d1, d2, d3⟩, _⟩ := id hSw; (go_simp) <;> first | decide | exact IntWalk.i64_in _ (by omega)) (by assumption) ?_
    try simp only [Act.put, pw]
    refine wtk 4 11 (.pointer (some ⟨h, 1, none⟩)) rfl (by kernel_rfl) (fun _ _ _ h => h) (by rfl) (fun x hSw => by obtain ⟨⟨d0, d1, d2, d3⟩, _⟩ := id hSw; (go_simp) <;> first | decide | exact IntWalk.i64_in _ (by omega)) (by assumption) ?_
    try simp only [Act.put, pw]
    refine wtk 6 13 (.agg #[.int .i64 x.id, .int .i64 x.rel, .int .i64 x.due, .int .i64 x.left]) rfl (by kernel_rfl) (fun _ _ _ h => h) (by rfl) (fun x hSw => by obtain ⟨⟨d0, d1, d2, d3⟩, _⟩ := id hSw; (go_simp) <;> first | decide | exact IntWalk.i64_in _ (by omega)) (by assumption) ?_
    try simp only [Act.put, pw]
    refine wtk 7 14 (.agg #[.int .i64 x.id, .int .i64 x.rel, .int .i64 x.due, .int .i64 x.left, .int .i64 1, .pointer none, .pointer none]) rfl (by kernel_rfl) (fun _ _ _ h => h) (by rfl) (fun x hSw => by obtain ⟨⟨d0, d1, d2, d3⟩, _⟩ := id hSw; (go_simp) <;> first | decide | exact IntWalk.i64_in _ (by omega)) (by assumption) ?_
    try simp only [Act.put, pw]
    refine wpAnyH_ready (rs := [5, 8]) (by kernel_rfl) (by simp) (AllReadyH.cons rfl (fun K hK => ?_) (AllReadyH.cons rfl (fun K hK => ?_) AllReadyH.nil))
    · go_simp
      refine hK.out _ _ (tkp KC (Turn.below B1.out)) (fun hHeld => ?_)
      clear hK K
      try simp only [Act.put, pw]
      refine wpAnyH_ready (rs := [8]) (by kernel_rfl) (by simp) (AllReadyH.cons rfl (fun K hK => ?_) AllReadyH.nil)
      go_simp
      have B2 := bl_drew (bl_alloc (.cells #[.int .i64 x.id, .int .i64 x.rel, .int .i64 x.due, .int .i64 x.left, .int .i64 1, .pointer none, .pointer none] 289) (bl0 u0))
      refine hK.out _ _ (tkp KC (Turn.below B2.out)) (fun hHeld => ?_)
      clear hK K
      have HN : Hid (Lf (u0.alloc (.cells #[.int .i64 x.id, .int .i64 x.rel, .int .i64 x.due, .int .i64 x.left, .int .i64 1, .pointer none, .pointer none] 289)).drew u0.heap.size x) := Bx.new u0 [.int .i64 x.id, .int .i64 x.rel, .int .i64 x.due, .int .i64 x.left, .int .i64 1, .pointer none, .pointer none] 289
      generalize (u0.alloc (.cells #[.int .i64 x.id, .int .i64 x.rel, .int .i64 x.due, .int .i64 x.left, .int .i64 1, .pointer none, .pointer none] 289)).drew = u2 at *
      clear B1 cT
      try simp only [Act.put, pw]
      refine wpAnyH_ready (rs := [9]) (by kernel_rfl) (by simp) (AllReadyH.cons rfl (fun K hK => ?_) AllReadyH.nil)
      go_simp
      refine (meld_two (Bx.bl HH.out B2) (Bx.bl HL.out B2) HN.out).mono ?_
      rintro e w2 ⟨q, r, j1, j2, rfl, hT, hj, b2⟩
      have B3 := bl_below B2 b2
      have HT := Lib.hid hT
      have HJ := Lib.hid hj
      clear hT b2 HN hj
      refine hK.out _ _ (tkp KC (Turn.below B3.out)) (fun hHeld => ?_)
      clear hK K
      have hH3 : Hx w2 h (.pointer (some ⟨p, 0, none⟩)) 1 := Bx.bl HH.out B3
      have c1 := Bx.cell hH3 1 rfl
      have f1 := Bx.free hH3 1
      have HH3 := Lib.hid hH3
      clear hH3
      try simp only [Act.put, pw]
      refine wtk 10 17 (.pointer (some ⟨h, 0, none⟩)) rfl (by kernel_rfl) (fun _ _ _ h => h) (by rfl) (fun x hSw => by obtain ⟨⟨d0, d1, d2, d3⟩, _⟩ := id hSw; (go_simp) <;> first | decide | exact IntWalk.i64_in _ (by omega)) (by assumption) ?_
      try simp only [Act.put, pw]
      refine wtk 11 18 (.pointer (some ⟨h, 1, none⟩)) rfl (by kernel_rfl) (fun _ _ _ h => h) (by rfl) (fun x hSw => by obtain ⟨⟨d0, d1, d2, d3⟩, _⟩ := id hSw; (go_simp) <;> first | decide | exact IntWalk.i64_in _ (by omega)) (by assumption) ?_
      try simp only [Act.put, pw]
      refine wpAnyH_ready (rs := [12]) (by kernel_rfl) (by simp) (AllReadyH.cons rfl (fun K hK => ?_) AllReadyH.nil)
      go_simp
      have T5 : Hid (Turn (fun i => i = h) u0 (w2.setCell ⟨h, 1, none⟩ (.pointer (some ⟨q, 0, none⟩)))) := (Turn.below B3.out).trans (Turn.set _ _ _ _ rfl)
      refine hK.out _ _ (tkp KC T5) (fun hHeld => ?_)
      clear hK K
      clear c1 f1
      try simp only [Act.put, pw]
      refine wpAnyH_done (by kernel_rfl) ?_ _
      go_wp2_with fail
      go_meet
      exact ⟨q, r, j1, j2, Bx.set HH3.out 1 (.pointer (some ⟨q, 0, none⟩)) _ rfl, ⟨HT.out.1.turn (Turn.set (S := fun i => i = h) w2 h 1 (.pointer (some ⟨q, 0, none⟩)) rfl) (HT.out.ne HH3.out).1, HT.out.2.turn (Turn.set (S := fun i => i = h) w2 h 1 (.pointer (some ⟨q, 0, none⟩)) rfl) (HT.out.ne HH3.out).2⟩, HJ.out, T5⟩
    · go_simp
      have B2 := bl_drew (bl_alloc (.cells #[.int .i64 x.id, .int .i64 x.rel, .int .i64 x.due, .int .i64 x.left, .int .i64 1, .pointer none, .pointer none] 289) (bl0 u0))
      refine hK.out _ _ (tkp KC (Turn.below B2.out)) (fun hHeld => ?_)
      clear hK K
      have HN : Hid (Lf (u0.alloc (.cells #[.int .i64 x.id, .int .i64 x.rel, .int .i64 x.due, .int .i64 x.left, .int .i64 1, .pointer none, .pointer none] 289)).drew u0.heap.size x) := Bx.new u0 [.int .i64 x.id, .int .i64 x.rel, .int .i64 x.due, .int .i64 x.left, .int .i64 1, .pointer none, .pointer none] 289
      generalize (u0.alloc (.cells #[.int .i64 x.id, .int .i64 x.rel, .int .i64 x.due, .int .i64 x.left, .int .i64 1, .pointer none, .pointer none] 289)).drew = u2 at *
      clear B1 cT
      have cT : u2.cell? ⟨h, 1, none⟩ = some (.pointer (some ⟨p, 0, none⟩)) := Bx.cell (Bx.bl HH.out B2) 1 rfl
      try simp only [Act.put, pw]
      refine wpAnyH_ready (rs := [5]) (by kernel_rfl) (by simp) (AllReadyH.cons rfl (fun K hK => ?_) AllReadyH.nil)
      go_simp
      refine hK.out _ _ (tkp KC (Turn.below B2.out)) (fun hHeld => ?_)
      clear hK K
      clear cT
      try simp only [Act.put, pw]
      refine wpAnyH_ready (rs := [9]) (by kernel_rfl) (by simp) (AllReadyH.cons rfl (fun K hK => ?_) AllReadyH.nil)
      go_simp
      refine (meld_two (Bx.bl HH.out B2) (Bx.bl HL.out B2) HN.out).mono ?_
      rintro e w2 ⟨q, r, j1, j2, rfl, hT, hj, b2⟩
      have B3 := bl_below B2 b2
      have HT := Lib.hid hT
      have HJ := Lib.hid hj
      clear hT b2 HN hj
      refine hK.out _ _ (tkp KC (Turn.below B3.out)) (fun hHeld => ?_)
      clear hK K
      have hH3 : Hx w2 h (.pointer (some ⟨p, 0, none⟩)) 1 := Bx.bl HH.out B3
      have c1 := Bx.cell hH3 1 rfl
      have f1 := Bx.free hH3 1
      have HH3 := Lib.hid hH3
      clear hH3
      try simp only [Act.put, pw]
      refine wtk 10 17 (.pointer (some ⟨h, 0, none⟩)) rfl (by kernel_rfl) (fun _ _ _ h => h) (by rfl) (fun x hSw => by obtain ⟨⟨d0, d1, d2, d3⟩, _⟩ := id hSw; (go_simp) <;> first | decide | exact IntWalk.i64_in _ (by omega)) (by assumption) ?_
      try simp only [Act.put, pw]
      refine wtk 11 18 (.pointer (some ⟨h, 1, none⟩)) rfl (by kernel_rfl) (fun _ _ _ h => h) (by rfl) (fun x hSw => by obtain ⟨⟨d0, d1, d2, d3⟩, _⟩ := id hSw; (go_simp) <;> first | decide | exact IntWalk.i64_in _ (by omega)) (by assumption) ?_
      try simp only [Act.put, pw]
      refine wpAnyH_ready (rs := [12]) (by kernel_rfl) (by simp) (AllReadyH.cons rfl (fun K hK => ?_) AllReadyH.nil)
      go_simp
      have T5 : Hid (Turn (fun i => i = h) u0 (w2.setCell ⟨h, 1, none⟩ (.pointer (some ⟨q, 0, none⟩)))) := (Turn.below B3.out).trans (Turn.set _ _ _ _ rfl)
      refine hK.out _ _ (tkp KC T5) (fun hHeld => ?_)
      clear hK K
      clear c1 f1
      try simp only [Act.put, pw]
      refine wpAnyH_done (by kernel_rfl) ?_ _
      go_wp2_with fail
      go_meet
      exact ⟨q, r, j1, j2, Bx.set HH3.out 1 (.pointer (some ⟨q, 0, none⟩)) _ rfl, ⟨HT.out.1.turn (Turn.set (S := fun i => i = h) w2 h 1 (.pointer (some ⟨q, 0, none⟩)) rfl) (HT.out.ne HH3.out).1, HT.out.2.turn (Turn.set (S := fun i => i = h) w2 h 1 (.pointer (some ⟨q, 0, none⟩)) rfl) (HT.out.ne HH3.out).2⟩, HJ.out, T5⟩
  case rest =>
    obtain ⟨q, r, j1, j2, hH, hN, hj, hT⟩ := hcut
    have c2 := Bx.cell hH.out 2 rfl
    have f2 := Bx.free hH.out 2
    go_wp2_with fail
    go_ret
    have t := Turn.set (S := fun i => i = h) wc h 2 (.int .i64 2) rfl
    have hq : Hp (wc.setCell ⟨h, 2, none⟩ (.int .i64 2)) h [j1, j2] := ⟨q, r, Bx.set hH.out 2 (.int .i64 2) _ rfl, hN.out.1.turn t (hN.out.ne hH.out).1, hN.out.2.turn t (hN.out.ne hH.out).2⟩
    refine ⟨rfl, ?_, ((Turn.below HB.out).trans hT.out).trans t⟩
    rcases hj.out with ⟨rfl, rfl⟩ | ⟨rfl, rfl⟩
    · exact .inl hq
    · exact .inr hq
end Go.Proofs.YtoichcickcgbgaaGreatDoor
