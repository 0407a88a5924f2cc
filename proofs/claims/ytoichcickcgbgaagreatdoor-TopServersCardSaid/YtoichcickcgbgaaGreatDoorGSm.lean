/-
  A slot of an empty disk says nothing.
-/
import Derived.Test.YtoichcickcgbgaaGreatDoorGSl
namespace Go.Proofs.YtoichcickcgbgaaGreatDoor
open Go.RowKit Disk
attribute [local go_sem] Oper.semAt_some
theorem Kq.of_turn {F G : Nat → Prop} {p bp bq : Nat} {A B : World} (t : Turn G A B) (h : ∀ k, k < A.heap.size → (F k ∨ k = p ∨ k = bp ∨ k = bq) → ¬ G k) : Kq F p bp bq A B := ⟨t.size, fun k hk hs => t.block k hk (h k hk hs)⟩
/-- What lies between two rounds over a slot's sectors: H is where the slot's own variables begin. -/
structure Im (w : World) (F : Nat → Prop) (H p b : Nat) (rd : Bool) (ls : Int) (k : Nat) (W : World) : Prop where
  b0 : Bx W H 124 [.pointer (some ⟨p, 0, none⟩)]
  b1 : Bx W (H + 1) 119 [.int .u64 0, .string ⟨#[]⟩]
  b2 : Bx W (H + 1 + 1) 119 [.int .u64 0, .string ⟨#[]⟩]
  b3 : ∃ v, Bx W (H + 1 + 1 + 1) 4 [.bool v]
  b4 : Bx W (H + 1 + 1 + 1 + 1) 114 [.int .u64 k]
  b5 : Bx W (H + 1 + 1 + 1 + 1 + 1) 34 [.int .i64 0]
  bs : Sb W p b rd 0 ls
  tn : Turn (fun k => F k ∨ k = p) w W
theorem Im.turn {w : World} {F G : Nat → Prop} {H p b : Nat} {rd : Bool} {ls : Int} {k : Nat} {W W' : World} (h : Im w F H p b rd ls k W) (t : Turn G W W') (hp : ¬ G p) (hH : ∀ k, H ≤ k → k ≤ H + 5 → ¬ G k) (hG : ∀ k, k < w.heap.size → G k → F k) : Im w F H p b rd ls k W' :=
  ⟨h.b0.turn t (hH _ (by omega) (by omega)), h.b1.turn t (hH _ (by omega) (by omega)), h.b2.turn t (hH _ (by omega) (by omega)), (by obtain ⟨v, hv⟩ := h.b3; exact ⟨v, hv.turn t (hH _ (by omega) (by omega))⟩), h.b4.turn t (hH _ (by omega) (by omega)), h.b5.turn t (hH _ (by omega) (by omega)), Bx.turn h.bs t hp, h.tn.then t fun k hk hg => .inl (hG k hk hg)⟩
theorem Im.drew {w : World} {F : Nat → Prop} {H p b : Nat} {rd : Bool} {ls : Int} {k : Nat} {W : World} (h : Im w F H p b rd ls k W) : Im w F H p b rd ls k W.drew := ⟨h.b0, h.b1, h.b2, h.b3, h.b4, h.b5, h.bs, h.tn.drew⟩
theorem Im.setp {w : World} {F : Nat → Prop} {H p b : Nat} {rd : Bool} {ls : Int} {k : Nat} {W : World} (h : Im w F H p b rd ls k W) : Im w F H p b rd ls k (W.setCell ⟨p, 4, none⟩ (.int .u64 0)) := by
  have hs : Bx (W.setCell ⟨p, 4, none⟩ (.int .u64 0)) p 185 [.pointer (some ⟨b, 0, none⟩), .int .i64 0, .int .i64 9, .bool rd, .int .u64 0, .int .i64 ls] := Bx.set h.bs 4 _ _ rfl
  obtain ⟨v, hv⟩ := h.b3
  have ne : ∀ {q : Nat} {T : TypeId} {l : List Value}, Bx W q T l → T ≠ 185 → (W.setCell ⟨p, 4, none⟩ (.int .u64 0)).heap[q]? = W.heap[q]? := fun hq hT => heap_setCell_other _ _ _ _ (hq.ne h.bs hT)
  exact ⟨h.b0.keep (ne h.b0 (by decide)), h.b1.keep (ne h.b1 (by decide)), h.b2.keep (ne h.b2 (by decide)), ⟨v, hv.keep (ne hv (by decide))⟩, h.b4.keep (ne h.b4 (by decide)), h.b5.keep (ne h.b5 (by decide)), hs, h.tn.trans (Turn.set _ _ _ _ (.inr rfl))⟩
/-- A store into a block of the walk's own. -/
theorem Im.self {w : World} {F : Nat → Prop} {H p b : Nat} {rd : Bool} {ls : Int} {k : Nat} {W : World} (h : Im w F H p b rd ls k W) {j : Nat} {v : Value} (h2 : Bx (W.setCell ⟨H + 1 + 1, j, none⟩ v) (H + 1 + 1) 119 [.int .u64 0, .string ⟨#[]⟩]) (hp : p ≠ H + 1 + 1) (hH : w.heap.size ≤ H) : Im w F H p b rd ls k (W.setCell ⟨H + 1 + 1, j, none⟩ v) := by
  obtain ⟨u, hu⟩ := h.b3
  have ne : ∀ q, q ≠ H + 1 + 1 → (W.setCell ⟨H + 1 + 1, j, none⟩ v).heap[q]? = W.heap[q]? := fun q hq => heap_setCell_other _ _ _ _ hq
  exact ⟨h.b0.keep (ne _ (by omega)), h.b1.keep (ne _ (by omega)), h2, ⟨u, hu.keep (ne _ (by omega))⟩, h.b4.keep (ne _ (by omega)), h.b5.keep (ne _ (by omega)), Bx.keep h.bs (ne _ hp), h.tn.then (Turn.set (S := fun k => k = H + 1 + 1) _ _ _ _ rfl) (fun i hi e => by omega)⟩
theorem Im.set3 {w : World} {F : Nat → Prop} {H p b : Nat} {rd : Bool} {ls : Int} {k : Nat} {W : World} (h : Im w F H p b rd ls k W) (v : Bool) (hp : p ≠ H + 1 + 1 + 1) (hH : w.heap.size ≤ H) : Im w F H p b rd ls k (W.setCell ⟨H + 1 + 1 + 1, 0, none⟩ (.bool v)) := by
  obtain ⟨u, hu⟩ := h.b3
  have ne : ∀ q, q ≠ H + 1 + 1 + 1 → (W.setCell ⟨H + 1 + 1 + 1, 0, none⟩ (.bool v)).heap[q]? = W.heap[q]? := fun q hq => heap_setCell_other _ _ _ _ hq
  exact ⟨h.b0.keep (ne _ (by omega)), h.b1.keep (ne _ (by omega)), h.b2.keep (ne _ (by omega)), ⟨v, Bx.set hu 0 _ _ rfl⟩, h.b4.keep (ne _ (by omega)), h.b5.keep (ne _ (by omega)), Bx.keep h.bs (ne _ hp), h.tn.then (Turn.set (S := fun k => k = H + 1 + 1 + 1) _ _ _ _ rfl) (fun i hi e => by omega)⟩
theorem Im.set4 {w : World} {F : Nat → Prop} {H p b : Nat} {rd : Bool} {ls : Int} {k k' : Nat} {W : World} (h : Im w F H p b rd ls k W) (hp : p ≠ H + 1 + 1 + 1 + 1) (hH : w.heap.size ≤ H) (v : Value) (hv : v = .int .u64 k') : Im w F H p b rd ls k' (W.setCell ⟨H + 1 + 1 + 1 + 1, 0, none⟩ v) := by
  subst hv
  obtain ⟨u, hu⟩ := h.b3
  have ne : ∀ q, q ≠ H + 1 + 1 + 1 + 1 → (W.setCell ⟨H + 1 + 1 + 1 + 1, 0, none⟩ (.int .u64 k')).heap[q]? = W.heap[q]? := fun q hq => heap_setCell_other _ _ _ _ hq
  exact ⟨h.b0.keep (ne _ (by omega)), h.b1.keep (ne _ (by omega)), h.b2.keep (ne _ (by omega)), ⟨u, hu.keep (ne _ (by omega))⟩, Bx.set h.b4 0 _ _ rfl, h.b5.keep (ne _ (by omega)), Bx.keep h.bs (ne _ hp), h.tn.then (Turn.set (S := fun k => k = H + 1 + 1 + 1 + 1) _ _ _ _ rfl) (fun i hi e => by omega)⟩
theorem Im.alloc {w : World} {F : Nat → Prop} {H p b : Nat} {rd : Bool} {ls : Int} {k : Nat} {W : World} (h : Im w F H p b rd ls k W) (o : Obj) : Im w F H p b rd ls k (W.alloc o) := h.turn (G := fun _ => False) (Turn.below ((Below.refl _ _).alloc (Nat.le_refl _) _)) (fun h => h) (fun _ _ _ h => h) (fun _ _ h => h.elim)
theorem Im.below {w : World} {F : Nat → Prop} {H p b : Nat} {rd : Bool} {ls : Int} {k : Nat} {W W' : World} (h : Im w F H p b rd ls k W) (hb : Below W.heap.size W W') : Im w F H p b rd ls k W' := h.turn (G := fun _ => False) (Turn.below hb) (fun h => h) (fun _ _ _ h => h) (fun _ _ h => h.elim)
theorem Im.fin {w : World} {F : Nat → Prop} {H p b : Nat} {rd : Bool} {ls : Int} {k : Nat} {X : World} (h : Im w F H p b rd ls k X) (hp : ∀ q, H ≤ q → p ≠ q) (hH : w.heap.size ≤ H) (X' : World) (hX : X' = ((X.setCell ⟨H + 1 + 1 + 1, 0, none⟩ (.bool false)).setCell ⟨H + 1 + 1, 1, none⟩ (.string ((⟨#[]⟩ : ByteArray) ++ ⟨#[]⟩))).setCell ⟨H + 1 + 1 + 1 + 1, 0, none⟩ (.int .u64 ((k : Int) + 1))) :
    Im w F H p b rd ls (k + 1) X' ∧ X.heap.size ≤ X'.heap.size ∧ ∀ q, (q < H ∨ H + 6 ≤ q) → X'.heap[q]? = X.heap[q]? := by
  subst hX
  have h1 := h.set3 false (hp _ (by omega)) hH
  have h2 := h1.self (Bx.set h1.b2 1 (.string ((⟨#[]⟩ : ByteArray) ++ ⟨#[]⟩)) _ (by rfl)) (hp _ (by omega)) hH
  refine ⟨h2.set4 (hp _ (by omega)) hH _ (by simp), by simp [World.setCell], fun q hq => ?_⟩
  exact (heap_setCell_other _ _ _ _ (show q ≠ H + 1 + 1 + 1 + 1 from by omega)).trans ((heap_setCell_other _ _ _ _ (show q ≠ H + 1 + 1 from by omega)).trans (heap_setCell_other _ _ _ _ (show q ≠ H + 1 + 1 + 1 from by omega)))
set_option maxRecDepth 100000 in
set_option maxHeartbeats 4000000 in
theorem slot_0 {w : World} {F : Nat → Prop} {p b n : Nat} {rd : Bool} {ls : Int} {r : Int} (hS : Sb w p b rd 0 ls) (hD : Du w F b n (zs n) [] r) (hF : ∀ k, F k → k < w.heap.size ∧ k ≠ p) (hn : 18 ≤ n) (hr : r + 9 ≤ 1000000) :
    Calls Tryz.prog 73 #[.pointer (some ⟨p, 0, none⟩), .int .i64 0] w fun e w' => e = .returned (.tuple #[.agg #[.int .u64 0, .string ⟨#[]⟩], .int .i64 0]) ∧ Sb w' p b rd 0 ls ∧ Du w' F b n (zs n) [] (r + 9) ∧ Turn (fun k => F k ∨ k = p) w w' := by
  have hpl := Bx.lt hS
  have hA : Im w F w.heap.size p b rd ls 0 ((((((w.alloc (.cells #[.pointer (some ⟨p, 0, none⟩)] 124)).alloc (.cells #[.int .u64 0, .string ⟨#[]⟩] 119)).alloc (.cells #[.int .u64 0, .string ⟨#[]⟩] 119)).alloc (.cells #[.bool true] 4)).alloc (.cells #[.int .u64 0] 114)).alloc (.cells #[.int .i64 0] 34)) := by
    have e0 := Bx.new w [.pointer (some ⟨p, 0, none⟩)] 124
    have e1 := Bx.new (w.alloc (.cells #[.pointer (some ⟨p, 0, none⟩)] 124)) [.int .u64 0, .string ⟨#[]⟩] 119
    have e2 := Bx.new ((w.alloc (.cells #[.pointer (some ⟨p, 0, none⟩)] 124)).alloc (.cells #[.int .u64 0, .string ⟨#[]⟩] 119)) [.int .u64 0, .string ⟨#[]⟩] 119
    have e3 := Bx.new (((w.alloc (.cells #[.pointer (some ⟨p, 0, none⟩)] 124)).alloc (.cells #[.int .u64 0, .string ⟨#[]⟩] 119)).alloc (.cells #[.int .u64 0, .string ⟨#[]⟩] 119)) [.bool true] 4
    have e4 := Bx.new ((((w.alloc (.cells #[.pointer (some ⟨p, 0, none⟩)] 124)).alloc (.cells #[.int .u64 0, .string ⟨#[]⟩] 119)).alloc (.cells #[.int .u64 0, .string ⟨#[]⟩] 119)).alloc (.cells #[.bool true] 4)) [.int .u64 0] 114
    have e5 := Bx.new (((((w.alloc (.cells #[.pointer (some ⟨p, 0, none⟩)] 124)).alloc (.cells #[.int .u64 0, .string ⟨#[]⟩] 119)).alloc (.cells #[.int .u64 0, .string ⟨#[]⟩] 119)).alloc (.cells #[.bool true] 4)).alloc (.cells #[.int .u64 0] 114)) [.int .i64 0] 34
    simp only [World.size_alloc] at e1 e2 e3 e4 e5
    have hb := ((((((Below.refl w.heap.size w).alloc (Nat.le_refl _) (.cells #[.pointer (some ⟨p, 0, none⟩)] 124)).alloc (by simp) (.cells #[.int .u64 0, .string ⟨#[]⟩] 119)).alloc (by simp; omega) (.cells #[.int .u64 0, .string ⟨#[]⟩] 119)).alloc (by simp; omega) (.cells #[.bool true] 4)).alloc (by simp; omega) (.cells #[.int .u64 0] 114)).alloc (by simp; omega) (.cells #[.int .i64 0] 34)
    exact ⟨((((e0.more _).more _).more _).more _).more _, (((e1.more _).more _).more _).more _, ((e2.more _).more _).more _, ⟨_, (e3.more _).more _⟩, e4.more _, e5, Bx.below hS hb, Turn.below hb⟩
  have hDA := hD.below (((((((Below.refl w.heap.size w).alloc (Nat.le_refl _) (.cells #[.pointer (some ⟨p, 0, none⟩)] 124)).alloc (by simp) (.cells #[.int .u64 0, .string ⟨#[]⟩] 119)).alloc (by simp; omega) (.cells #[.int .u64 0, .string ⟨#[]⟩] 119)).alloc (by simp; omega) (.cells #[.bool true] 4)).alloc (by simp; omega) (.cells #[.int .u64 0] 114)).alloc (by simp; omega) (.cells #[.int .i64 0] 34))
  have hsz : ((((((w.alloc (.cells #[.pointer (some ⟨p, 0, none⟩)] 124)).alloc (.cells #[.int .u64 0, .string ⟨#[]⟩] 119)).alloc (.cells #[.int .u64 0, .string ⟨#[]⟩] 119)).alloc (.cells #[.bool true] 4)).alloc (.cells #[.int .u64 0] 114)).alloc (.cells #[.int .i64 0] 34)).heap.size = w.heap.size + 6 := by simp
  have HA := Lib.hid hA
  have HDA := Lib.hid hDA
  have HF := Lib.hid hF
  have HSZ := Lib.hid hsz
  clear hA hDA hF hsz hS hD
  refine (callsIn_wide (n := 3)).1 ?_
  refine callsIn_of_wp_marks Tryz.func73 rfl trivial ?_ rfl
  simp only [Tryz.ntmps73, List.size_toArray, List.length_cons, List.length_nil, Nat.reduceAdd, Nat.reduceSub, Array.replicate_succ, Array.replicate_zero, List.push_toArray, List.append_toArray, List.nil_append, List.cons_append]
  refine wpIn_wide.2 ?_
  go_wp2_with fail
  go_step3
  go_wp2_with fail
  go_step3
  generalize (((((w.alloc (.cells #[.pointer (some ⟨p, 0, none⟩)] 124)).alloc (.cells #[.int .u64 0, .string ⟨#[]⟩] 119)).alloc (.cells #[.int .u64 0, .string ⟨#[]⟩] 119)).alloc (.cells #[.bool true] 4)).alloc (.cells #[.int .u64 0] 114)).alloc (.cells #[.int .i64 0] 34) = wA at *
  have c0 := HA.out.b0.cell 0 rfl
  go_wp2_with fail
  refine (sectors_any _ _ _).mono ?_
  rintro e w1 ⟨rfl, hbp, hbq, hb1, hs1⟩
  go_wp2_with fail
  have HB1 := Lib.hid hb1
  have HI1 : Hid (Im w F w.heap.size p b rd ls 0 w1) := HA.out.turn (G := fun _ => False) (Turn.below hb1) (fun h => h) (fun _ _ _ h => h) (fun _ _ h => h.elim)
  have HD1 := Lib.hid (HDA.out.below hb1)
  have hw : w.heap.size ≤ wA.heap.size := HA.out.tn.size
  have h6 : w.heap.size + 6 ≤ wA.heap.size := by have := HSZ.out; omega
  have HS1 : Hid (Sq p b wA.heap.size (wA.heap.size + 1) 0 w1) := ⟨hbp.cell 0 rfl, Bx.cell HI1.out.bs 0 rfl, Bx.cell HI1.out.bs 1 rfl, Bx.cell HI1.out.bs 2 rfl, hbq.cell 0 rfl⟩
  have HBP := Lib.hid hbp
  have HBQ := Lib.hid hbq
  clear hb1 hbp hbq c0
  refine (wpIn_wide (n := 3)).1 ?_
  refine range_law (gf := 153) (lb := #[.pointer (some ⟨wA.heap.size, 0, none⟩), .pointer (some ⟨wA.heap.size + 1, 0, none⟩)]) rfl (enters_of Tryz.func153 (by kernel_rfl) rfl) (fun _ => rfl)
    (seq_0 2 (w0 := w1) HS1.out ⟨Bx.lt HI1.out.bs, HBP.out.lt, HBQ.out.lt⟩ HD1.out ⟨fun h => (HF.out p h).2 rfl, fun h => by have := (HF.out _ h).1; omega, fun h => by have := (HF.out _ h).1; omega⟩ hn hr)
    ⟨Nat.le_refl _, fun _ _ _ => rfl⟩ (fun k hk => by have := (HF.out k hk).1; omega) (fun h k => h.trans k)
    (fun A B _ t => Kq.of_turn t fun k _ hk => by
      rcases hk with hk | rfl | rfl | rfl
      · have := (HF.out k hk).1; omega
      · omega
      · omega
      · omega)
    (fun xs A B h t => ⟨h.1, h.2.turn t fun k _ hk => by have := (HF.out k hk).1; omega⟩) (fun _ _ _ h _ => h)
    (fun pre W => Im w F w.heap.size p b rd ls pre.length W) (fun _ _ _ => False)
    (fun xs A B h t => h.turn t (fun h2 => by rcases h2 with h2 | h2 | h2; exact (HF.out p h2).2 rfl; omega; omega) (fun k h1 h3 h2 => by rcases h2 with h2 | h2 | h2; have := (HF.out k h2).1; omega; omega; omega) (fun k hk h2 => by rcases h2 with h2 | h2 | h2; exact h2; omega; omega))
    (fun _ _ _ _ h _ => h) HI1.out
    (fun _ => { tmps := #[.pointer (some ⟨p, 0, none⟩), .int .i64 0, .pointer (some ⟨w.heap.size, 0, none⟩), undef, .pointer (some ⟨w.heap.size + 1, 0, none⟩), .int .i64 0, .pointer (some ⟨w.heap.size + 1 + 1, 0, none⟩), .pointer (some ⟨w.heap.size + 1 + 1 + 1, 0, none⟩), .pointer (some ⟨w.heap.size + 1 + 1 + 1 + 1, 0, none⟩), .pointer (some ⟨w.heap.size + 1 + 1 + 1 + 1 + 1, 0, none⟩), .string Z0, .int .i64 0, undef, undef, undef, undef, undef, .pointer (some ⟨p, 0, none⟩), .int .i64 0, .func (.func 153) #[] #[.pointer (some ⟨wA.heap.size, 0, none⟩), .pointer (some ⟨wA.heap.size + 1, 0, none⟩)], .string Z0, .int .i64 0, undef, undef, undef, undef, undef, undef, undef, undef, undef, undef, undef, undef, undef, undef, undef, undef, undef, undef, undef, undef, undef, undef, undef, undef, undef, undef, undef, undef, undef, undef, undef, undef, undef, undef, undef, undef, undef, undef, undef, undef, undef, undef, undef, undef, undef, undef, undef, undef, undef, undef, undef, undef, undef, undef, undef, undef, undef], defers := [] }) ?assign ?body ?done ?stop
  case assign =>
    intro l x W K hK
    gi_wp2
    exact hK
  case stop =>
    rintro c pre W _ h _
    exact h.elim
  case done =>
    rintro xs W ⟨hx9, hDW⟩ hI hK
    have HI := Lib.hid hI
    have HDW := Lib.hid hDW
    have HK := Lib.hid hK
    clear hI hDW hK
    obtain ⟨v, hv⟩ := HI.out.b3
    have c2 := HI.out.b2.cell 0 rfl
    have c3 := hv.cell 0 rfl
    have c5 := HI.out.b5.cell 0 rfl
    have c10 := HI.out.b1.cell 0 rfl
    have c11 := HI.out.b1.cell 1 rfl
    have fr10 := HI.out.b1.free 0
    have fr11 := HI.out.b1.free 1
    cases v
    all_goals
      go_wp2_with fail
      go_region
      go_wp2_with fail
      clear c2 c3 c5 c10 c11 fr10 fr11 hv
      have hX : Hid (Turn (fun k => k = w.heap.size + 1) W ((W.setCell ⟨w.heap.size + 1, 0, none⟩ (.int .u64 0)).setCell ⟨w.heap.size + 1, 1, none⟩ (.string ⟨#[]⟩)).drew) := ((Turn.set (S := fun k => k = w.heap.size + 1) W (w.heap.size + 1) _ _ rfl).trans (Turn.set _ _ _ _ rfl)).drew
      have hY : Hid (Bx ((W.setCell ⟨w.heap.size + 1, 0, none⟩ (.int .u64 0)).setCell ⟨w.heap.size + 1, 1, none⟩ (.string ⟨#[]⟩)).drew (w.heap.size + 1) 119 [.int .u64 0, .string ⟨#[]⟩]) := Bx.set (Bx.set HI.out.b1 0 _ _ rfl) 1 _ _ rfl
      generalize ((W.setCell ⟨w.heap.size + 1, 0, none⟩ (.int .u64 0)).setCell ⟨w.heap.size + 1, 1, none⟩ (.string ⟨#[]⟩)).drew = V at *
      have hW : wA.heap.size + 2 ≤ V.heap.size := by
        have h1 := (Array.getElem?_eq_some_iff.1 HK.out).1
        have h2 := hX.out.size
        omega
      have hK : V.heap[w1.heap.size]? = some (.deferred (some [])) := (hX.out.block _ (Array.getElem?_eq_some_iff.1 HK.out).1 (by omega)).trans HK.out
      rw [Exit.noGoto_ret]
      refine ⟨by simp, .inl ⟨_, _, rfl, run_takeDeferred hK, ?_⟩⟩
      have hl1 : w1.heap.size < V.heap.size := (Array.getElem?_eq_some_iff.1 hK).1
      have hT : Turn (fun k => k = w.heap.size + 1 ∨ k = w1.heap.size) W (V.putObj w1.heap.size (.deferred none)) := (hX.out.wide fun _ _ h => .inl h).then (Turn.put (S := fun k => k = w1.heap.size) V _ _ rfl) fun i _ h => .inr h
      have e0 := (hY.out.turn (Turn.put (S := fun k => k = w1.heap.size) V _ (.deferred none) rfl) (by omega)).cell 0 rfl
      have e1 := (hY.out.turn (Turn.put (S := fun k => k = w1.heap.size) V _ (.deferred none) rfl) (by omega)).cell 1 rfl
      refine ⟨.tuple #[.agg #[.int .u64 0, .string ⟨#[]⟩], .int .i64 0], by simp [results, Tryz.results73, go_sem, e0, e1], rfl, Bx.turn HI.out.bs hT (by omega), HDW.out.turn hT (fun k hk hf h => by have := (HF.out k hf).1; omega), HI.out.tn.then hT (fun k hk h => by omega)⟩
  case body =>
    rintro l pre ⟨⟩ W hI hx hsW hnc
    have hpl : pre.length < 9 := hx
    have HI := Lib.hid hI
    have HNC := Lib.hid hnc
    have HIP := Lib.hid HI.out.bs
    clear hI hx hnc
    gi_wp2
    refine ⟨trivial, CallsIn.mono (CallsIn.inRound l (callsIn_wide.2 (tag_zero Z0.zs _))) ?_⟩
    rintro e w2 ⟨rfl, hb2⟩
    gi_wp2
    have HI2 : Hid (Im w F w.heap.size p b rd ls pre.length w2) := HI.out.turn (G := fun _ => False) (Turn.below hb2) (fun h => h) (fun _ _ _ h => h) (fun _ _ h => h.elim)
    have HB2 := Lib.hid hb2
    clear hb2
    have hsW2 := HB2.out.size
    refine startW (S := fun x => x.cell? ⟨w.heap.size, 0, none⟩ = some (.pointer (some ⟨p, 0, none⟩)) ∧ x.cell? ⟨p, 4, none⟩ = some (.int .u64 0)) (by kernel_rfl) ⟨HI2.out.b0.cell 0 rfl, Bx.cell HI2.out.bs 4 rfl⟩ (fun hHeld => ?_)
    refine takeW (fun _ => trivial) (by kernel_rfl) (i := 0) (oi := ⟨some 31, _, _, _, _, _⟩) (v := .pointer (some ⟨p, 0, none⟩)) rfl (by kernel_rfl) (by kernel_rfl) (by kernel_rfl) (fun _ _ _ h => h) (Or.inl ⟨by rfl, fun x hSw => by obtain ⟨d1, d2⟩ := id hSw; (go_simp) <;> first | decide | exact IntWalk.i64_in _ (by omega)⟩) (by assumption) ?_
    try simp only [Act.put, pw]
    refine takeW (fun _ => trivial) (by kernel_rfl) (i := 1) (oi := ⟨some 32, _, _, _, _, _⟩) (v := .pointer (some ⟨p, 0, none⟩)) rfl (by kernel_rfl) (by kernel_rfl) (by kernel_rfl) (fun _ _ _ h => h) (Or.inl ⟨by rfl, fun x hSw => by obtain ⟨d1, d2⟩ := id hSw; (go_simp) <;> first | decide | exact IntWalk.i64_in _ (by omega)⟩) (by assumption) ?_
    try simp only [Act.put, pw]
    refine takeW (fun _ => trivial) (by kernel_rfl) (i := 2) (oi := ⟨some 33, _, _, _, _, _⟩) (v := .pointer (some ⟨p, 0, none⟩)) rfl (by kernel_rfl) (by kernel_rfl) (by kernel_rfl) (fun _ _ _ h => h) (Or.inl ⟨by rfl, fun x hSw => by obtain ⟨d1, d2⟩ := id hSw; (go_simp) <;> first | decide | exact IntWalk.i64_in _ (by omega)⟩) (by assumption) ?_
    try simp only [Act.put, pw]
    refine takeW (fun _ => trivial) (by kernel_rfl) (i := 3) (oi := ⟨some 34, _, _, _, _, _⟩) (v := .pointer (some ⟨p, 4, none⟩)) rfl (by kernel_rfl) (by kernel_rfl) (by kernel_rfl) (fun _ _ _ h => h) (Or.inl ⟨by rfl, fun x hSw => by obtain ⟨d1, d2⟩ := id hSw; (go_simp) <;> first | decide | exact IntWalk.i64_in _ (by omega)⟩) (by assumption) ?_
    try simp only [Act.put, pw]
    refine takeW (fun _ => trivial) (by kernel_rfl) (i := 4) (oi := ⟨some 35, _, _, _, _, _⟩) (v := .int .u64 0) rfl (by kernel_rfl) (by kernel_rfl) (by kernel_rfl) (fun _ _ _ h => h) (Or.inl ⟨by rfl, fun x hSw => by obtain ⟨d1, d2⟩ := id hSw; (go_simp) <;> first | decide | exact IntWalk.i64_in _ (by omega)⟩) (by assumption) ?_
    try simp only [Act.put, pw]
    refine takeW (fun _ => trivial) (by kernel_rfl) (i := 5) (oi := ⟨some 36, _, _, _, _, _⟩) (v := .int .u64 0) rfl (by kernel_rfl) (by kernel_rfl) (by kernel_rfl) (fun _ _ _ h => h) (Or.inl ⟨by rfl, fun x hSw => by obtain ⟨d1, d2⟩ := id hSw; (go_simp) <;> first | decide | exact IntWalk.i64_in _ (by omega)⟩) (by assumption) ?_
    try simp only [Act.put, pw]
    refine takeW (fun _ => trivial) (by kernel_rfl) (i := 6) (oi := ⟨some 37, _, _, _, _, _⟩) (v := .int .u64 0) rfl (by kernel_rfl) (by kernel_rfl) (by kernel_rfl) (fun _ _ _ h => h) (Or.inl ⟨by rfl, fun x hSw => by obtain ⟨d1, d2⟩ := id hSw; (go_simp) <;> first | decide | exact IntWalk.i64_in _ (by omega)⟩) (by assumption) ?_
    try simp only [Act.put, pw]
    refine takeW (fun _ => trivial) (by kernel_rfl) (i := 7) (oi := ⟨some 38, _, _, _, _, _⟩) (v := .pointer (some ⟨p, 0, none⟩)) rfl (by kernel_rfl) (by kernel_rfl) (by kernel_rfl) (fun _ _ _ h => h) (Or.inl ⟨by rfl, fun x hSw => by obtain ⟨d1, d2⟩ := id hSw; (go_simp) <;> first | decide | exact IntWalk.i64_in _ (by omega)⟩) (by assumption) ?_
    try simp only [Act.put, pw]
    refine takeW (fun _ => trivial) (by kernel_rfl) (i := 8) (oi := ⟨some 39, _, _, _, _, _⟩) (v := .pointer (some ⟨p, 4, none⟩)) rfl (by kernel_rfl) (by kernel_rfl) (by kernel_rfl) (fun _ _ _ h => h) (Or.inl ⟨by rfl, fun x hSw => by obtain ⟨d1, d2⟩ := id hSw; (go_simp) <;> first | decide | exact IntWalk.i64_in _ (by omega)⟩) (by assumption) ?_
    try simp only [Act.put, pw]
    refine oneW (i := 9) (by kernel_rfl) rfl (fun K hK => ?_)
    obtain ⟨d1, d2⟩ := id hHeld
    have fr1 := Bx.free (b := p) HI2.out.bs 4
    go_simp
    have HI3 : Hid (Im w F w.heap.size p b rd ls pre.length (w2.setCell ⟨p, 4, none⟩ (.int .u64 0)).drew) := HI2.out.setp.drew
    have hz3 : W.heap.size ≤ (w2.setCell ⟨p, 4, none⟩ (.int .u64 0)).drew.heap.size := by simpa using hsW2
    have hq3 : Hid (∀ k, k < W.heap.size → k ≠ p → (w2.setCell ⟨p, 4, none⟩ (.int .u64 0)).drew.heap[k]? = W.heap[k]?) := fun k hk hn => (heap_setCell_other _ _ _ _ hn).trans (HB2.out.block k hk)
    generalize (w2.setCell ⟨p, 4, none⟩ (.int .u64 0)).drew = w3 at *
    clear d1 d2 fr1
    refine hK.out _ _ ⟨HI3.out.b0.cell 0 rfl, Bx.cell HI3.out.bs 4 rfl⟩ (fun hHeld => ?_)
    clear hK K hHeld
    try simp only [Act.put, pw]
    refine endW (by kernel_rfl) ?_ _
    have c4 := HI3.out.b4.cell 0 rfl
    have c2 := HI3.out.b2.cell 0 rfl
    have fr2 := HI3.out.b2.free 0
    clear HI2 HB2 hsW2 HI hHeld
    have hpn : p < w.heap.size := by assumption
    have HN : Hid (∀ q, w.heap.size ≤ q → p ≠ q) := fun q hq => by omega
    gi_wp2
    all_goals clear c2 fr2 c4
    · have HI4 : Hid (Im w F w.heap.size p b rd ls pre.length (w3.setCell ⟨w.heap.size + 1 + 1, 0, none⟩ (.int .u64 0))) := HI3.out.self (Bx.set HI3.out.b2 0 _ _ rfl) (HN.out _ (by omega)) (Nat.le_refl _)
      have hz4 : W.heap.size ≤ (w3.setCell ⟨w.heap.size + 1 + 1, 0, none⟩ (.int .u64 0)).heap.size := by simpa using hz3
      have hq4 : Hid (∀ k, k < W.heap.size → k ≠ p → (k < w.heap.size ∨ w.heap.size + 6 ≤ k) → (w3.setCell ⟨w.heap.size + 1 + 1, 0, none⟩ (.int .u64 0)).heap[k]? = W.heap[k]?) := fun k hk hn h3 => (heap_setCell_other _ _ _ _ (show k ≠ w.heap.size + 1 + 1 from by omega)).trans (hq3.out k hk hn)
      generalize w3.setCell ⟨w.heap.size + 1 + 1, 0, none⟩ (.int .u64 0) = w4 at *
      clear HI3 hz3 hq3
      refine ⟨trivial, CallsIn.mono (CallsIn.inRound l (callsIn_wide.2 (fread_zero Z0.zs _))) ?_⟩
      rintro e w5 ⟨rfl, hb5⟩
      have HI5 : Hid (Im w F w.heap.size p b rd ls pre.length w5) := HI4.out.below hb5
      have hz5 := Nat.le_trans hz4 hb5.size
      have hq5 : Hid (∀ k, k < W.heap.size → k ≠ p → (k < w.heap.size ∨ w.heap.size + 6 ≤ k) → w5.heap[k]? = W.heap[k]?) := fun k hk hn h3 => (hb5.block k (Nat.lt_of_lt_of_le hk hz4)).trans (hq4.out k hk hn h3)
      clear hb5 HI4 hz4 hq4 w4
      have hH5 : w.heap.size + 6 ≤ w5.heap.size := by omega
      have n1 : w5.heap.size ≠ w.heap.size + 1 + 1 := by omega
      have n2 : w5.heap.size ≠ w.heap.size + 1 + 1 + 1 := by omega
      have n3 : w5.heap.size ≠ w.heap.size + 1 + 1 + 1 + 1 := by omega
      have n4 := Ne.symm n1
      have n5 := Ne.symm n2
      have n6 := Ne.symm n3
      have HI6 : Hid (Im w F w.heap.size p b rd ls pre.length (w5.alloc (.cells #[.string ⟨#[]⟩, .int .u64 0, .int .u64 0] 232))) := HI5.out.alloc _
      have c2 := HI6.out.b2.cell 0 rfl
      have c21 := HI6.out.b2.cell 1 rfl
      have fr21 := HI6.out.b2.free 1
      have c4 := HI6.out.b4.cell 0 rfl
      have fr4 := HI6.out.b4.free 0
      obtain ⟨v, hv⟩ := HI6.out.b3
      have c3 := hv.cell 0 rfl
      have fr3 := hv.free 0
      have hz6 : W.heap.size ≤ (w5.alloc (.cells #[.string ⟨#[]⟩, .int .u64 0, .int .u64 0] 232)).heap.size := by rw [World.size_alloc]; omega
      have hq6 : Hid (∀ k, k < W.heap.size → k ≠ p → (k < w.heap.size ∨ w.heap.size + 6 ≤ k) → (w5.alloc (.cells #[.string ⟨#[]⟩, .int .u64 0, .int .u64 0] 232)).heap[k]? = W.heap[k]?) := fun k hk hn h3 => (((Below.refl w5.heap.size w5).alloc (Nat.le_refl _) _).block k (Nat.lt_of_lt_of_le hk hz5)).trans (hq5.out k hk hn h3)
      cases v
      · gi_wp2
        refine ⟨trivial, ?_⟩
        gi_wp2
        clear c2 c21 fr21 c4 fr4 c3 fr3 hv
        obtain ⟨f1, f2, f3⟩ := HI6.out.fin (fun q hq => HN.out q hq) (Nat.le_refl _) _ rfl
        have hql : ∀ k, k < W.heap.size → k ≠ p → (k < w.heap.size ∨ w.heap.size + 6 ≤ k) → _ = W.heap[k]? := fun k h1 h2 h3 => (f3 k h3).trans (hq6.out k h1 h2 h3)
        refine ⟨⟨hql _ (by omega) (by omega) (by omega), hql _ (by omega) (by omega) (by omega)⟩, ⟨Nat.le_trans hz6 f2, fun k hk hs => ?_⟩, by show Im _ _ _ _ _ _ _ (pre ++ [PUnit.unit]).length _; rw [List.length_append]; exact f1⟩
        by_cases hkp : k = p
        · subst hkp; exact Eq.trans f1.bs (Eq.symm HIP.out)
        · exact hql k hk hkp (by rcases hs with h | h | h | h; (left; exact (HF.out k h).1); (exact absurd h hkp); (right; omega); (right; omega))
      · gi_wp2
        refine ⟨trivial, CallsIn.mono (CallsIn.inRound l (callsIn_wide.2 (whole_zero Z0.zs _ _ _))) ?_⟩
        rintro e w7 ⟨rfl, hb7⟩
        have HC := (Bx.new w5 [.string ⟨#[]⟩, .int .u64 0, .int .u64 0] 232).below hb7
        have cC := Bx.cell HC 0 rfl
        have HI7 : Hid (Im w F w.heap.size p b rd ls pre.length w7) := HI6.out.below hb7
        have hz7 := Nat.le_trans hz6 hb7.size
        have hq7 : Hid (∀ k, k < W.heap.size → k ≠ p → (k < w.heap.size ∨ w.heap.size + 6 ≤ k) → w7.heap[k]? = W.heap[k]?) := fun k hk hn h3 => (hb7.block k (Nat.lt_of_lt_of_le hk hz6)).trans (hq6.out k hk hn h3)
        clear hb7 HC c2 c21 fr21 c4 fr4 c3 fr3 hv HI6 hz6 hq6
        have HI6 := HI7
        have hz6 := hz7
        have hq6 := hq7
        clear HI7 hz7 hq7
        have c21 := HI6.out.b2.cell 1 rfl
        have fr21 := HI6.out.b2.free 1
        have c4 := HI6.out.b4.cell 0 rfl
        have fr4 := HI6.out.b4.free 0
        obtain ⟨v, hv⟩ := HI6.out.b3
        have c3 := hv.cell 0 rfl
        have fr3 := hv.free 0
        gi_wp2
        clear c21 fr21 c4 fr4 c3 fr3 hv cC
        obtain ⟨f1, f2, f3⟩ := HI6.out.fin (fun q hq => HN.out q hq) (Nat.le_refl _) _ rfl
        have hql : ∀ k, k < W.heap.size → k ≠ p → (k < w.heap.size ∨ w.heap.size + 6 ≤ k) → _ = W.heap[k]? := fun k h1 h2 h3 => (f3 k h3).trans (hq6.out k h1 h2 h3)
        refine ⟨⟨hql _ (by omega) (by omega) (by omega), hql _ (by omega) (by omega) (by omega)⟩, ⟨Nat.le_trans hz6 f2, fun k hk hs => ?_⟩, by show Im _ _ _ _ _ _ _ (pre ++ [PUnit.unit]).length _; rw [List.length_append]; exact f1⟩
        by_cases hkp : k = p
        · subst hkp; exact Eq.trans f1.bs (Eq.symm HIP.out)
        · exact hql k hk hkp (by rcases hs with h | h | h | h; (left; exact (HF.out k h).1); (exact absurd h hkp); (right; omega); (right; omega))
    · have HI4 := HI3
      have hz4 := hz3
      have hq4 : Hid (∀ k, k < W.heap.size → k ≠ p → (k < w.heap.size ∨ w.heap.size + 6 ≤ k) → w3.heap[k]? = W.heap[k]?) := fun k hk hn _ => hq3.out k hk hn
      generalize w3 = w4 at *
      clear HI3 hz3 hq3
      refine ⟨trivial, CallsIn.mono (CallsIn.inRound l (callsIn_wide.2 (fread_zero Z0.zs _))) ?_⟩
      rintro e w5 ⟨rfl, hb5⟩
      have HI5 : Hid (Im w F w.heap.size p b rd ls pre.length w5) := HI4.out.below hb5
      have hz5 := Nat.le_trans hz4 hb5.size
      have hq5 : Hid (∀ k, k < W.heap.size → k ≠ p → (k < w.heap.size ∨ w.heap.size + 6 ≤ k) → w5.heap[k]? = W.heap[k]?) := fun k hk hn h3 => (hb5.block k (Nat.lt_of_lt_of_le hk hz4)).trans (hq4.out k hk hn h3)
      clear hb5 HI4 hz4 hq4 w4
      have hH5 : w.heap.size + 6 ≤ w5.heap.size := by omega
      have n1 : w5.heap.size ≠ w.heap.size + 1 + 1 := by omega
      have n2 : w5.heap.size ≠ w.heap.size + 1 + 1 + 1 := by omega
      have n3 : w5.heap.size ≠ w.heap.size + 1 + 1 + 1 + 1 := by omega
      have n4 := Ne.symm n1
      have n5 := Ne.symm n2
      have n6 := Ne.symm n3
      have HI6 : Hid (Im w F w.heap.size p b rd ls pre.length (w5.alloc (.cells #[.string ⟨#[]⟩, .int .u64 0, .int .u64 0] 232))) := HI5.out.alloc _
      have c2 := HI6.out.b2.cell 0 rfl
      have c21 := HI6.out.b2.cell 1 rfl
      have fr21 := HI6.out.b2.free 1
      have c4 := HI6.out.b4.cell 0 rfl
      have fr4 := HI6.out.b4.free 0
      obtain ⟨v, hv⟩ := HI6.out.b3
      have c3 := hv.cell 0 rfl
      have fr3 := hv.free 0
      have hz6 : W.heap.size ≤ (w5.alloc (.cells #[.string ⟨#[]⟩, .int .u64 0, .int .u64 0] 232)).heap.size := by rw [World.size_alloc]; omega
      have hq6 : Hid (∀ k, k < W.heap.size → k ≠ p → (k < w.heap.size ∨ w.heap.size + 6 ≤ k) → (w5.alloc (.cells #[.string ⟨#[]⟩, .int .u64 0, .int .u64 0] 232)).heap[k]? = W.heap[k]?) := fun k hk hn h3 => (((Below.refl w5.heap.size w5).alloc (Nat.le_refl _) _).block k (Nat.lt_of_lt_of_le hk hz5)).trans (hq5.out k hk hn h3)
      cases v
      · gi_wp2
        refine ⟨trivial, ?_⟩
        gi_wp2
        clear c2 c21 fr21 c4 fr4 c3 fr3 hv
        obtain ⟨f1, f2, f3⟩ := HI6.out.fin (fun q hq => HN.out q hq) (Nat.le_refl _) _ rfl
        have hql : ∀ k, k < W.heap.size → k ≠ p → (k < w.heap.size ∨ w.heap.size + 6 ≤ k) → _ = W.heap[k]? := fun k h1 h2 h3 => (f3 k h3).trans (hq6.out k h1 h2 h3)
        refine ⟨⟨hql _ (by omega) (by omega) (by omega), hql _ (by omega) (by omega) (by omega)⟩, ⟨Nat.le_trans hz6 f2, fun k hk hs => ?_⟩, by show Im _ _ _ _ _ _ _ (pre ++ [PUnit.unit]).length _; rw [List.length_append]; exact f1⟩
        by_cases hkp : k = p
        · subst hkp; exact Eq.trans f1.bs (Eq.symm HIP.out)
        · exact hql k hk hkp (by rcases hs with h | h | h | h; (left; exact (HF.out k h).1); (exact absurd h hkp); (right; omega); (right; omega))
      · gi_wp2
        refine ⟨trivial, CallsIn.mono (CallsIn.inRound l (callsIn_wide.2 (whole_zero Z0.zs _ _ _))) ?_⟩
        rintro e w7 ⟨rfl, hb7⟩
        have HC := (Bx.new w5 [.string ⟨#[]⟩, .int .u64 0, .int .u64 0] 232).below hb7
        have cC := Bx.cell HC 0 rfl
        have HI7 : Hid (Im w F w.heap.size p b rd ls pre.length w7) := HI6.out.below hb7
        have hz7 := Nat.le_trans hz6 hb7.size
        have hq7 : Hid (∀ k, k < W.heap.size → k ≠ p → (k < w.heap.size ∨ w.heap.size + 6 ≤ k) → w7.heap[k]? = W.heap[k]?) := fun k hk hn h3 => (hb7.block k (Nat.lt_of_lt_of_le hk hz6)).trans (hq6.out k hk hn h3)
        clear hb7 HC c2 c21 fr21 c4 fr4 c3 fr3 hv HI6 hz6 hq6
        have HI6 := HI7
        have hz6 := hz7
        have hq6 := hq7
        clear HI7 hz7 hq7
        have c21 := HI6.out.b2.cell 1 rfl
        have fr21 := HI6.out.b2.free 1
        have c4 := HI6.out.b4.cell 0 rfl
        have fr4 := HI6.out.b4.free 0
        obtain ⟨v, hv⟩ := HI6.out.b3
        have c3 := hv.cell 0 rfl
        have fr3 := hv.free 0
        gi_wp2
        clear c21 fr21 c4 fr4 c3 fr3 hv cC
        obtain ⟨f1, f2, f3⟩ := HI6.out.fin (fun q hq => HN.out q hq) (Nat.le_refl _) _ rfl
        have hql : ∀ k, k < W.heap.size → k ≠ p → (k < w.heap.size ∨ w.heap.size + 6 ≤ k) → _ = W.heap[k]? := fun k h1 h2 h3 => (f3 k h3).trans (hq6.out k h1 h2 h3)
        refine ⟨⟨hql _ (by omega) (by omega) (by omega), hql _ (by omega) (by omega) (by omega)⟩, ⟨Nat.le_trans hz6 f2, fun k hk hs => ?_⟩, by show Im _ _ _ _ _ _ _ (pre ++ [PUnit.unit]).length _; rw [List.length_append]; exact f1⟩
        by_cases hkp : k = p
        · subst hkp; exact Eq.trans f1.bs (Eq.symm HIP.out)
        · exact hql k hk hkp (by rcases hs with h | h | h | h; (left; exact (HF.out k h).1); (exact absurd h hkp); (right; omega); (right; omega))
set_option maxRecDepth 100000 in
set_option maxHeartbeats 4000000 in
theorem slot_1 {w : World} {F : Nat → Prop} {p b n : Nat} {rd : Bool} {ls : Int} {r : Int} (hS : Sb w p b rd 0 ls) (hD : Du w F b n (zs n) [] r) (hF : ∀ k, F k → k < w.heap.size ∧ k ≠ p) (hn : 18 ≤ n) (hr : r + 9 ≤ 1000000) :
    Calls Tryz.prog 73 #[.pointer (some ⟨p, 0, none⟩), .int .i64 1] w fun e w' => e = .returned (.tuple #[.agg #[.int .u64 0, .string ⟨#[]⟩], .int .i64 0]) ∧ Sb w' p b rd 0 ls ∧ Du w' F b n (zs n) [] (r + 9) ∧ Turn (fun k => F k ∨ k = p) w w' := by
  have hpl := Bx.lt hS
  have hA : Im w F w.heap.size p b rd ls 0 ((((((w.alloc (.cells #[.pointer (some ⟨p, 0, none⟩)] 124)).alloc (.cells #[.int .u64 0, .string ⟨#[]⟩] 119)).alloc (.cells #[.int .u64 0, .string ⟨#[]⟩] 119)).alloc (.cells #[.bool true] 4)).alloc (.cells #[.int .u64 0] 114)).alloc (.cells #[.int .i64 0] 34)) := by
    have e0 := Bx.new w [.pointer (some ⟨p, 0, none⟩)] 124
    have e1 := Bx.new (w.alloc (.cells #[.pointer (some ⟨p, 0, none⟩)] 124)) [.int .u64 0, .string ⟨#[]⟩] 119
    have e2 := Bx.new ((w.alloc (.cells #[.pointer (some ⟨p, 0, none⟩)] 124)).alloc (.cells #[.int .u64 0, .string ⟨#[]⟩] 119)) [.int .u64 0, .string ⟨#[]⟩] 119
    have e3 := Bx.new (((w.alloc (.cells #[.pointer (some ⟨p, 0, none⟩)] 124)).alloc (.cells #[.int .u64 0, .string ⟨#[]⟩] 119)).alloc (.cells #[.int .u64 0, .string ⟨#[]⟩] 119)) [.bool true] 4
    have e4 := Bx.new ((((w.alloc (.cells #[.pointer (some ⟨p, 0, none⟩)] 124)).alloc (.cells #[.int .u64 0, .string ⟨#[]⟩] 119)).alloc (.cells #[.int .u64 0, .string ⟨#[]⟩] 119)).alloc (.cells #[.bool true] 4)) [.int .u64 0] 114
    have e5 := Bx.new (((((w.alloc (.cells #[.pointer (some ⟨p, 0, none⟩)] 124)).alloc (.cells #[.int .u64 0, .string ⟨#[]⟩] 119)).alloc (.cells #[.int .u64 0, .string ⟨#[]⟩] 119)).alloc (.cells #[.bool true] 4)).alloc (.cells #[.int .u64 0] 114)) [.int .i64 0] 34
    simp only [World.size_alloc] at e1 e2 e3 e4 e5
    have hb := ((((((Below.refl w.heap.size w).alloc (Nat.le_refl _) (.cells #[.pointer (some ⟨p, 0, none⟩)] 124)).alloc (by simp) (.cells #[.int .u64 0, .string ⟨#[]⟩] 119)).alloc (by simp; omega) (.cells #[.int .u64 0, .string ⟨#[]⟩] 119)).alloc (by simp; omega) (.cells #[.bool true] 4)).alloc (by simp; omega) (.cells #[.int .u64 0] 114)).alloc (by simp; omega) (.cells #[.int .i64 0] 34)
    exact ⟨((((e0.more _).more _).more _).more _).more _, (((e1.more _).more _).more _).more _, ((e2.more _).more _).more _, ⟨_, (e3.more _).more _⟩, e4.more _, e5, Bx.below hS hb, Turn.below hb⟩
  have hDA := hD.below (((((((Below.refl w.heap.size w).alloc (Nat.le_refl _) (.cells #[.pointer (some ⟨p, 0, none⟩)] 124)).alloc (by simp) (.cells #[.int .u64 0, .string ⟨#[]⟩] 119)).alloc (by simp; omega) (.cells #[.int .u64 0, .string ⟨#[]⟩] 119)).alloc (by simp; omega) (.cells #[.bool true] 4)).alloc (by simp; omega) (.cells #[.int .u64 0] 114)).alloc (by simp; omega) (.cells #[.int .i64 0] 34))
  have hsz : ((((((w.alloc (.cells #[.pointer (some ⟨p, 0, none⟩)] 124)).alloc (.cells #[.int .u64 0, .string ⟨#[]⟩] 119)).alloc (.cells #[.int .u64 0, .string ⟨#[]⟩] 119)).alloc (.cells #[.bool true] 4)).alloc (.cells #[.int .u64 0] 114)).alloc (.cells #[.int .i64 0] 34)).heap.size = w.heap.size + 6 := by simp
  have HA := Lib.hid hA
  have HDA := Lib.hid hDA
  have HF := Lib.hid hF
  have HSZ := Lib.hid hsz
  clear hA hDA hF hsz hS hD
  refine (callsIn_wide (n := 3)).1 ?_
  refine callsIn_of_wp_marks Tryz.func73 rfl trivial ?_ rfl
  simp only [Tryz.ntmps73, List.size_toArray, List.length_cons, List.length_nil, Nat.reduceAdd, Nat.reduceSub, Array.replicate_succ, Array.replicate_zero, List.push_toArray, List.append_toArray, List.nil_append, List.cons_append]
  refine wpIn_wide.2 ?_
  go_wp2_with fail
  go_step3
  go_wp2_with fail
  go_step3
  generalize (((((w.alloc (.cells #[.pointer (some ⟨p, 0, none⟩)] 124)).alloc (.cells #[.int .u64 0, .string ⟨#[]⟩] 119)).alloc (.cells #[.int .u64 0, .string ⟨#[]⟩] 119)).alloc (.cells #[.bool true] 4)).alloc (.cells #[.int .u64 0] 114)).alloc (.cells #[.int .i64 0] 34) = wA at *
  have c0 := HA.out.b0.cell 0 rfl
  go_wp2_with fail
  refine (sectors_any _ _ _).mono ?_
  rintro e w1 ⟨rfl, hbp, hbq, hb1, hs1⟩
  go_wp2_with fail
  have HB1 := Lib.hid hb1
  have HI1 : Hid (Im w F w.heap.size p b rd ls 0 w1) := HA.out.turn (G := fun _ => False) (Turn.below hb1) (fun h => h) (fun _ _ _ h => h) (fun _ _ h => h.elim)
  have HD1 := Lib.hid (HDA.out.below hb1)
  have hw : w.heap.size ≤ wA.heap.size := HA.out.tn.size
  have h6 : w.heap.size + 6 ≤ wA.heap.size := by have := HSZ.out; omega
  have HS1 : Hid (Sq p b wA.heap.size (wA.heap.size + 1) 1 w1) := ⟨hbp.cell 0 rfl, Bx.cell HI1.out.bs 0 rfl, Bx.cell HI1.out.bs 1 rfl, Bx.cell HI1.out.bs 2 rfl, hbq.cell 0 rfl⟩
  have HBP := Lib.hid hbp
  have HBQ := Lib.hid hbq
  clear hb1 hbp hbq c0
  refine (wpIn_wide (n := 3)).1 ?_
  refine range_law (gf := 153) (lb := #[.pointer (some ⟨wA.heap.size, 0, none⟩), .pointer (some ⟨wA.heap.size + 1, 0, none⟩)]) rfl (enters_of Tryz.func153 (by kernel_rfl) rfl) (fun _ => rfl)
    (seq_1 2 (w0 := w1) HS1.out ⟨Bx.lt HI1.out.bs, HBP.out.lt, HBQ.out.lt⟩ HD1.out ⟨fun h => (HF.out p h).2 rfl, fun h => by have := (HF.out _ h).1; omega, fun h => by have := (HF.out _ h).1; omega⟩ hn hr)
    ⟨Nat.le_refl _, fun _ _ _ => rfl⟩ (fun k hk => by have := (HF.out k hk).1; omega) (fun h k => h.trans k)
    (fun A B _ t => Kq.of_turn t fun k _ hk => by
      rcases hk with hk | rfl | rfl | rfl
      · have := (HF.out k hk).1; omega
      · omega
      · omega
      · omega)
    (fun xs A B h t => ⟨h.1, h.2.turn t fun k _ hk => by have := (HF.out k hk).1; omega⟩) (fun _ _ _ h _ => h)
    (fun pre W => Im w F w.heap.size p b rd ls pre.length W) (fun _ _ _ => False)
    (fun xs A B h t => h.turn t (fun h2 => by rcases h2 with h2 | h2 | h2; exact (HF.out p h2).2 rfl; omega; omega) (fun k h1 h3 h2 => by rcases h2 with h2 | h2 | h2; have := (HF.out k h2).1; omega; omega; omega) (fun k hk h2 => by rcases h2 with h2 | h2 | h2; exact h2; omega; omega))
    (fun _ _ _ _ h _ => h) HI1.out
    (fun _ => { tmps := #[.pointer (some ⟨p, 0, none⟩), .int .i64 1, .pointer (some ⟨w.heap.size, 0, none⟩), undef, .pointer (some ⟨w.heap.size + 1, 0, none⟩), .int .i64 0, .pointer (some ⟨w.heap.size + 1 + 1, 0, none⟩), .pointer (some ⟨w.heap.size + 1 + 1 + 1, 0, none⟩), .pointer (some ⟨w.heap.size + 1 + 1 + 1 + 1, 0, none⟩), .pointer (some ⟨w.heap.size + 1 + 1 + 1 + 1 + 1, 0, none⟩), .string Z0, .int .i64 0, undef, undef, undef, undef, undef, .pointer (some ⟨p, 0, none⟩), .int .i64 1, .func (.func 153) #[] #[.pointer (some ⟨wA.heap.size, 0, none⟩), .pointer (some ⟨wA.heap.size + 1, 0, none⟩)], .string Z0, .int .i64 0, undef, undef, undef, undef, undef, undef, undef, undef, undef, undef, undef, undef, undef, undef, undef, undef, undef, undef, undef, undef, undef, undef, undef, undef, undef, undef, undef, undef, undef, undef, undef, undef, undef, undef, undef, undef, undef, undef, undef, undef, undef, undef, undef, undef, undef, undef, undef, undef, undef, undef, undef, undef, undef, undef, undef, undef, undef], defers := [] }) ?assign ?body ?done ?stop
  case assign =>
    intro l x W K hK
    gi_wp2
    exact hK
  case stop =>
    rintro c pre W _ h _
    exact h.elim
  case done =>
    rintro xs W ⟨hx9, hDW⟩ hI hK
    have HI := Lib.hid hI
    have HDW := Lib.hid hDW
    have HK := Lib.hid hK
    clear hI hDW hK
    obtain ⟨v, hv⟩ := HI.out.b3
    have c2 := HI.out.b2.cell 0 rfl
    have c3 := hv.cell 0 rfl
    have c5 := HI.out.b5.cell 0 rfl
    have c10 := HI.out.b1.cell 0 rfl
    have c11 := HI.out.b1.cell 1 rfl
    have fr10 := HI.out.b1.free 0
    have fr11 := HI.out.b1.free 1
    cases v
    all_goals
      go_wp2_with fail
      go_region
      go_wp2_with fail
      clear c2 c3 c5 c10 c11 fr10 fr11 hv
      have hX : Hid (Turn (fun k => k = w.heap.size + 1) W ((W.setCell ⟨w.heap.size + 1, 0, none⟩ (.int .u64 0)).setCell ⟨w.heap.size + 1, 1, none⟩ (.string ⟨#[]⟩)).drew) := ((Turn.set (S := fun k => k = w.heap.size + 1) W (w.heap.size + 1) _ _ rfl).trans (Turn.set _ _ _ _ rfl)).drew
      have hY : Hid (Bx ((W.setCell ⟨w.heap.size + 1, 0, none⟩ (.int .u64 0)).setCell ⟨w.heap.size + 1, 1, none⟩ (.string ⟨#[]⟩)).drew (w.heap.size + 1) 119 [.int .u64 0, .string ⟨#[]⟩]) := Bx.set (Bx.set HI.out.b1 0 _ _ rfl) 1 _ _ rfl
      generalize ((W.setCell ⟨w.heap.size + 1, 0, none⟩ (.int .u64 0)).setCell ⟨w.heap.size + 1, 1, none⟩ (.string ⟨#[]⟩)).drew = V at *
      have hW : wA.heap.size + 2 ≤ V.heap.size := by
        have h1 := (Array.getElem?_eq_some_iff.1 HK.out).1
        have h2 := hX.out.size
        omega
      have hK : V.heap[w1.heap.size]? = some (.deferred (some [])) := (hX.out.block _ (Array.getElem?_eq_some_iff.1 HK.out).1 (by omega)).trans HK.out
      rw [Exit.noGoto_ret]
      refine ⟨by simp, .inl ⟨_, _, rfl, run_takeDeferred hK, ?_⟩⟩
      have hl1 : w1.heap.size < V.heap.size := (Array.getElem?_eq_some_iff.1 hK).1
      have hT : Turn (fun k => k = w.heap.size + 1 ∨ k = w1.heap.size) W (V.putObj w1.heap.size (.deferred none)) := (hX.out.wide fun _ _ h => .inl h).then (Turn.put (S := fun k => k = w1.heap.size) V _ _ rfl) fun i _ h => .inr h
      have e0 := (hY.out.turn (Turn.put (S := fun k => k = w1.heap.size) V _ (.deferred none) rfl) (by omega)).cell 0 rfl
      have e1 := (hY.out.turn (Turn.put (S := fun k => k = w1.heap.size) V _ (.deferred none) rfl) (by omega)).cell 1 rfl
      refine ⟨.tuple #[.agg #[.int .u64 0, .string ⟨#[]⟩], .int .i64 0], by simp [results, Tryz.results73, go_sem, e0, e1], rfl, Bx.turn HI.out.bs hT (by omega), HDW.out.turn hT (fun k hk hf h => by have := (HF.out k hf).1; omega), HI.out.tn.then hT (fun k hk h => by omega)⟩
  case body =>
    rintro l pre ⟨⟩ W hI hx hsW hnc
    have hpl : pre.length < 9 := hx
    have HI := Lib.hid hI
    have HNC := Lib.hid hnc
    have HIP := Lib.hid HI.out.bs
    clear hI hx hnc
    gi_wp2
    refine ⟨trivial, CallsIn.mono (CallsIn.inRound l (callsIn_wide.2 (tag_zero Z0.zs _))) ?_⟩
    rintro e w2 ⟨rfl, hb2⟩
    gi_wp2
    have HI2 : Hid (Im w F w.heap.size p b rd ls pre.length w2) := HI.out.turn (G := fun _ => False) (Turn.below hb2) (fun h => h) (fun _ _ _ h => h) (fun _ _ h => h.elim)
    have HB2 := Lib.hid hb2
    clear hb2
    have hsW2 := HB2.out.size
    refine startW (S := fun x => x.cell? ⟨w.heap.size, 0, none⟩ = some (.pointer (some ⟨p, 0, none⟩)) ∧ x.cell? ⟨p, 4, none⟩ = some (.int .u64 0)) (by kernel_rfl) ⟨HI2.out.b0.cell 0 rfl, Bx.cell HI2.out.bs 4 rfl⟩ (fun hHeld => ?_)
    refine takeW (fun _ => trivial) (by kernel_rfl) (i := 0) (oi := ⟨some 31, _, _, _, _, _⟩) (v := .pointer (some ⟨p, 0, none⟩)) rfl (by kernel_rfl) (by kernel_rfl) (by kernel_rfl) (fun _ _ _ h => h) (Or.inl ⟨by rfl, fun x hSw => by obtain ⟨d1, d2⟩ := id hSw; (go_simp) <;> first | decide | exact IntWalk.i64_in _ (by omega)⟩) (by assumption) ?_
    try simp only [Act.put, pw]
    refine takeW (fun _ => trivial) (by kernel_rfl) (i := 1) (oi := ⟨some 32, _, _, _, _, _⟩) (v := .pointer (some ⟨p, 0, none⟩)) rfl (by kernel_rfl) (by kernel_rfl) (by kernel_rfl) (fun _ _ _ h => h) (Or.inl ⟨by rfl, fun x hSw => by obtain ⟨d1, d2⟩ := id hSw; (go_simp) <;> first | decide | exact IntWalk.i64_in _ (by omega)⟩) (by assumption) ?_
    try simp only [Act.put, pw]
    refine takeW (fun _ => trivial) (by kernel_rfl) (i := 2) (oi := ⟨some 33, _, _, _, _, _⟩) (v := .pointer (some ⟨p, 0, none⟩)) rfl (by kernel_rfl) (by kernel_rfl) (by kernel_rfl) (fun _ _ _ h => h) (Or.inl ⟨by rfl, fun x hSw => by obtain ⟨d1, d2⟩ := id hSw; (go_simp) <;> first | decide | exact IntWalk.i64_in _ (by omega)⟩) (by assumption) ?_
    try simp only [Act.put, pw]
    refine takeW (fun _ => trivial) (by kernel_rfl) (i := 3) (oi := ⟨some 34, _, _, _, _, _⟩) (v := .pointer (some ⟨p, 4, none⟩)) rfl (by kernel_rfl) (by kernel_rfl) (by kernel_rfl) (fun _ _ _ h => h) (Or.inl ⟨by rfl, fun x hSw => by obtain ⟨d1, d2⟩ := id hSw; (go_simp) <;> first | decide | exact IntWalk.i64_in _ (by omega)⟩) (by assumption) ?_
    try simp only [Act.put, pw]
    refine takeW (fun _ => trivial) (by kernel_rfl) (i := 4) (oi := ⟨some 35, _, _, _, _, _⟩) (v := .int .u64 0) rfl (by kernel_rfl) (by kernel_rfl) (by kernel_rfl) (fun _ _ _ h => h) (Or.inl ⟨by rfl, fun x hSw => by obtain ⟨d1, d2⟩ := id hSw; (go_simp) <;> first | decide | exact IntWalk.i64_in _ (by omega)⟩) (by assumption) ?_
    try simp only [Act.put, pw]
    refine takeW (fun _ => trivial) (by kernel_rfl) (i := 5) (oi := ⟨some 36, _, _, _, _, _⟩) (v := .int .u64 0) rfl (by kernel_rfl) (by kernel_rfl) (by kernel_rfl) (fun _ _ _ h => h) (Or.inl ⟨by rfl, fun x hSw => by obtain ⟨d1, d2⟩ := id hSw; (go_simp) <;> first | decide | exact IntWalk.i64_in _ (by omega)⟩) (by assumption) ?_
    try simp only [Act.put, pw]
    refine takeW (fun _ => trivial) (by kernel_rfl) (i := 6) (oi := ⟨some 37, _, _, _, _, _⟩) (v := .int .u64 0) rfl (by kernel_rfl) (by kernel_rfl) (by kernel_rfl) (fun _ _ _ h => h) (Or.inl ⟨by rfl, fun x hSw => by obtain ⟨d1, d2⟩ := id hSw; (go_simp) <;> first | decide | exact IntWalk.i64_in _ (by omega)⟩) (by assumption) ?_
    try simp only [Act.put, pw]
    refine takeW (fun _ => trivial) (by kernel_rfl) (i := 7) (oi := ⟨some 38, _, _, _, _, _⟩) (v := .pointer (some ⟨p, 0, none⟩)) rfl (by kernel_rfl) (by kernel_rfl) (by kernel_rfl) (fun _ _ _ h => h) (Or.inl ⟨by rfl, fun x hSw => by obtain ⟨d1, d2⟩ := id hSw; (go_simp) <;> first | decide | exact IntWalk.i64_in _ (by omega)⟩) (by assumption) ?_
    try simp only [Act.put, pw]
    refine takeW (fun _ => trivial) (by kernel_rfl) (i := 8) (oi := ⟨some 39, _, _, _, _, _⟩) (v := .pointer (some ⟨p, 4, none⟩)) rfl (by kernel_rfl) (by kernel_rfl) (by kernel_rfl) (fun _ _ _ h => h) (Or.inl ⟨by rfl, fun x hSw => by obtain ⟨d1, d2⟩ := id hSw; (go_simp) <;> first | decide | exact IntWalk.i64_in _ (by omega)⟩) (by assumption) ?_
    try simp only [Act.put, pw]
    refine oneW (i := 9) (by kernel_rfl) rfl (fun K hK => ?_)
    obtain ⟨d1, d2⟩ := id hHeld
    have fr1 := Bx.free (b := p) HI2.out.bs 4
    go_simp
    have HI3 : Hid (Im w F w.heap.size p b rd ls pre.length (w2.setCell ⟨p, 4, none⟩ (.int .u64 0)).drew) := HI2.out.setp.drew
    have hz3 : W.heap.size ≤ (w2.setCell ⟨p, 4, none⟩ (.int .u64 0)).drew.heap.size := by simpa using hsW2
    have hq3 : Hid (∀ k, k < W.heap.size → k ≠ p → (w2.setCell ⟨p, 4, none⟩ (.int .u64 0)).drew.heap[k]? = W.heap[k]?) := fun k hk hn => (heap_setCell_other _ _ _ _ hn).trans (HB2.out.block k hk)
    generalize (w2.setCell ⟨p, 4, none⟩ (.int .u64 0)).drew = w3 at *
    clear d1 d2 fr1
    refine hK.out _ _ ⟨HI3.out.b0.cell 0 rfl, Bx.cell HI3.out.bs 4 rfl⟩ (fun hHeld => ?_)
    clear hK K hHeld
    try simp only [Act.put, pw]
    refine endW (by kernel_rfl) ?_ _
    have c4 := HI3.out.b4.cell 0 rfl
    have c2 := HI3.out.b2.cell 0 rfl
    have fr2 := HI3.out.b2.free 0
    clear HI2 HB2 hsW2 HI hHeld
    have hpn : p < w.heap.size := by assumption
    have HN : Hid (∀ q, w.heap.size ≤ q → p ≠ q) := fun q hq => by omega
    gi_wp2
    all_goals clear c2 fr2 c4
    · have HI4 : Hid (Im w F w.heap.size p b rd ls pre.length (w3.setCell ⟨w.heap.size + 1 + 1, 0, none⟩ (.int .u64 0))) := HI3.out.self (Bx.set HI3.out.b2 0 _ _ rfl) (HN.out _ (by omega)) (Nat.le_refl _)
      have hz4 : W.heap.size ≤ (w3.setCell ⟨w.heap.size + 1 + 1, 0, none⟩ (.int .u64 0)).heap.size := by simpa using hz3
      have hq4 : Hid (∀ k, k < W.heap.size → k ≠ p → (k < w.heap.size ∨ w.heap.size + 6 ≤ k) → (w3.setCell ⟨w.heap.size + 1 + 1, 0, none⟩ (.int .u64 0)).heap[k]? = W.heap[k]?) := fun k hk hn h3 => (heap_setCell_other _ _ _ _ (show k ≠ w.heap.size + 1 + 1 from by omega)).trans (hq3.out k hk hn)
      generalize w3.setCell ⟨w.heap.size + 1 + 1, 0, none⟩ (.int .u64 0) = w4 at *
      clear HI3 hz3 hq3
      refine ⟨trivial, CallsIn.mono (CallsIn.inRound l (callsIn_wide.2 (fread_zero Z0.zs _))) ?_⟩
      rintro e w5 ⟨rfl, hb5⟩
      have HI5 : Hid (Im w F w.heap.size p b rd ls pre.length w5) := HI4.out.below hb5
      have hz5 := Nat.le_trans hz4 hb5.size
      have hq5 : Hid (∀ k, k < W.heap.size → k ≠ p → (k < w.heap.size ∨ w.heap.size + 6 ≤ k) → w5.heap[k]? = W.heap[k]?) := fun k hk hn h3 => (hb5.block k (Nat.lt_of_lt_of_le hk hz4)).trans (hq4.out k hk hn h3)
      clear hb5 HI4 hz4 hq4 w4
      have hH5 : w.heap.size + 6 ≤ w5.heap.size := by omega
      have n1 : w5.heap.size ≠ w.heap.size + 1 + 1 := by omega
      have n2 : w5.heap.size ≠ w.heap.size + 1 + 1 + 1 := by omega
      have n3 : w5.heap.size ≠ w.heap.size + 1 + 1 + 1 + 1 := by omega
      have n4 := Ne.symm n1
      have n5 := Ne.symm n2
      have n6 := Ne.symm n3
      have HI6 : Hid (Im w F w.heap.size p b rd ls pre.length (w5.alloc (.cells #[.string ⟨#[]⟩, .int .u64 0, .int .u64 0] 232))) := HI5.out.alloc _
      have c2 := HI6.out.b2.cell 0 rfl
      have c21 := HI6.out.b2.cell 1 rfl
      have fr21 := HI6.out.b2.free 1
      have c4 := HI6.out.b4.cell 0 rfl
      have fr4 := HI6.out.b4.free 0
      obtain ⟨v, hv⟩ := HI6.out.b3
      have c3 := hv.cell 0 rfl
      have fr3 := hv.free 0
      have hz6 : W.heap.size ≤ (w5.alloc (.cells #[.string ⟨#[]⟩, .int .u64 0, .int .u64 0] 232)).heap.size := by rw [World.size_alloc]; omega
      have hq6 : Hid (∀ k, k < W.heap.size → k ≠ p → (k < w.heap.size ∨ w.heap.size + 6 ≤ k) → (w5.alloc (.cells #[.string ⟨#[]⟩, .int .u64 0, .int .u64 0] 232)).heap[k]? = W.heap[k]?) := fun k hk hn h3 => (((Below.refl w5.heap.size w5).alloc (Nat.le_refl _) _).block k (Nat.lt_of_lt_of_le hk hz5)).trans (hq5.out k hk hn h3)
      cases v
      · gi_wp2
        refine ⟨trivial, ?_⟩
        gi_wp2
        clear c2 c21 fr21 c4 fr4 c3 fr3 hv
        obtain ⟨f1, f2, f3⟩ := HI6.out.fin (fun q hq => HN.out q hq) (Nat.le_refl _) _ rfl
        have hql : ∀ k, k < W.heap.size → k ≠ p → (k < w.heap.size ∨ w.heap.size + 6 ≤ k) → _ = W.heap[k]? := fun k h1 h2 h3 => (f3 k h3).trans (hq6.out k h1 h2 h3)
        refine ⟨⟨hql _ (by omega) (by omega) (by omega), hql _ (by omega) (by omega) (by omega)⟩, ⟨Nat.le_trans hz6 f2, fun k hk hs => ?_⟩, by show Im _ _ _ _ _ _ _ (pre ++ [PUnit.unit]).length _; rw [List.length_append]; exact f1⟩
        by_cases hkp : k = p
        · subst hkp; exact Eq.trans f1.bs (Eq.symm HIP.out)
        · exact hql k hk hkp (by rcases hs with h | h | h | h; (left; exact (HF.out k h).1); (exact absurd h hkp); (right; omega); (right; omega))
      · gi_wp2
        refine ⟨trivial, CallsIn.mono (CallsIn.inRound l (callsIn_wide.2 (whole_zero Z0.zs _ _ _))) ?_⟩
        rintro e w7 ⟨rfl, hb7⟩
        have HC := (Bx.new w5 [.string ⟨#[]⟩, .int .u64 0, .int .u64 0] 232).below hb7
        have cC := Bx.cell HC 0 rfl
        have HI7 : Hid (Im w F w.heap.size p b rd ls pre.length w7) := HI6.out.below hb7
        have hz7 := Nat.le_trans hz6 hb7.size
        have hq7 : Hid (∀ k, k < W.heap.size → k ≠ p → (k < w.heap.size ∨ w.heap.size + 6 ≤ k) → w7.heap[k]? = W.heap[k]?) := fun k hk hn h3 => (hb7.block k (Nat.lt_of_lt_of_le hk hz6)).trans (hq6.out k hk hn h3)
        clear hb7 HC c2 c21 fr21 c4 fr4 c3 fr3 hv HI6 hz6 hq6
        have HI6 := HI7
        have hz6 := hz7
        have hq6 := hq7
        clear HI7 hz7 hq7
        have c21 := HI6.out.b2.cell 1 rfl
        have fr21 := HI6.out.b2.free 1
        have c4 := HI6.out.b4.cell 0 rfl
        have fr4 := HI6.out.b4.free 0
        obtain ⟨v, hv⟩ := HI6.out.b3
        have c3 := hv.cell 0 rfl
        have fr3 := hv.free 0
        gi_wp2
        clear c21 fr21 c4 fr4 c3 fr3 hv cC
        obtain ⟨f1, f2, f3⟩ := HI6.out.fin (fun q hq => HN.out q hq) (Nat.le_refl _) _ rfl
        have hql : ∀ k, k < W.heap.size → k ≠ p → (k < w.heap.size ∨ w.heap.size + 6 ≤ k) → _ = W.heap[k]? := fun k h1 h2 h3 => (f3 k h3).trans (hq6.out k h1 h2 h3)
        refine ⟨⟨hql _ (by omega) (by omega) (by omega), hql _ (by omega) (by omega) (by omega)⟩, ⟨Nat.le_trans hz6 f2, fun k hk hs => ?_⟩, by show Im _ _ _ _ _ _ _ (pre ++ [PUnit.unit]).length _; rw [List.length_append]; exact f1⟩
        by_cases hkp : k = p
        · subst hkp; exact Eq.trans f1.bs (Eq.symm HIP.out)
        · exact hql k hk hkp (by rcases hs with h | h | h | h; (left; exact (HF.out k h).1); (exact absurd h hkp); (right; omega); (right; omega))
    · have HI4 := HI3
      have hz4 := hz3
      have hq4 : Hid (∀ k, k < W.heap.size → k ≠ p → (k < w.heap.size ∨ w.heap.size + 6 ≤ k) → w3.heap[k]? = W.heap[k]?) := fun k hk hn _ => hq3.out k hk hn
      generalize w3 = w4 at *
      clear HI3 hz3 hq3
      refine ⟨trivial, CallsIn.mono (CallsIn.inRound l (callsIn_wide.2 (fread_zero Z0.zs _))) ?_⟩
      rintro e w5 ⟨rfl, hb5⟩
      have HI5 : Hid (Im w F w.heap.size p b rd ls pre.length w5) := HI4.out.below hb5
      have hz5 := Nat.le_trans hz4 hb5.size
      have hq5 : Hid (∀ k, k < W.heap.size → k ≠ p → (k < w.heap.size ∨ w.heap.size + 6 ≤ k) → w5.heap[k]? = W.heap[k]?) := fun k hk hn h3 => (hb5.block k (Nat.lt_of_lt_of_le hk hz4)).trans (hq4.out k hk hn h3)
      clear hb5 HI4 hz4 hq4 w4
      have hH5 : w.heap.size + 6 ≤ w5.heap.size := by omega
      have n1 : w5.heap.size ≠ w.heap.size + 1 + 1 := by omega
      have n2 : w5.heap.size ≠ w.heap.size + 1 + 1 + 1 := by omega
      have n3 : w5.heap.size ≠ w.heap.size + 1 + 1 + 1 + 1 := by omega
      have n4 := Ne.symm n1
      have n5 := Ne.symm n2
      have n6 := Ne.symm n3
      have HI6 : Hid (Im w F w.heap.size p b rd ls pre.length (w5.alloc (.cells #[.string ⟨#[]⟩, .int .u64 0, .int .u64 0] 232))) := HI5.out.alloc _
      have c2 := HI6.out.b2.cell 0 rfl
      have c21 := HI6.out.b2.cell 1 rfl
      have fr21 := HI6.out.b2.free 1
      have c4 := HI6.out.b4.cell 0 rfl
      have fr4 := HI6.out.b4.free 0
      obtain ⟨v, hv⟩ := HI6.out.b3
      have c3 := hv.cell 0 rfl
      have fr3 := hv.free 0
      have hz6 : W.heap.size ≤ (w5.alloc (.cells #[.string ⟨#[]⟩, .int .u64 0, .int .u64 0] 232)).heap.size := by rw [World.size_alloc]; omega
      have hq6 : Hid (∀ k, k < W.heap.size → k ≠ p → (k < w.heap.size ∨ w.heap.size + 6 ≤ k) → (w5.alloc (.cells #[.string ⟨#[]⟩, .int .u64 0, .int .u64 0] 232)).heap[k]? = W.heap[k]?) := fun k hk hn h3 => (((Below.refl w5.heap.size w5).alloc (Nat.le_refl _) _).block k (Nat.lt_of_lt_of_le hk hz5)).trans (hq5.out k hk hn h3)
      cases v
      · gi_wp2
        refine ⟨trivial, ?_⟩
        gi_wp2
        clear c2 c21 fr21 c4 fr4 c3 fr3 hv
        obtain ⟨f1, f2, f3⟩ := HI6.out.fin (fun q hq => HN.out q hq) (Nat.le_refl _) _ rfl
        have hql : ∀ k, k < W.heap.size → k ≠ p → (k < w.heap.size ∨ w.heap.size + 6 ≤ k) → _ = W.heap[k]? := fun k h1 h2 h3 => (f3 k h3).trans (hq6.out k h1 h2 h3)
        refine ⟨⟨hql _ (by omega) (by omega) (by omega), hql _ (by omega) (by omega) (by omega)⟩, ⟨Nat.le_trans hz6 f2, fun k hk hs => ?_⟩, by show Im _ _ _ _ _ _ _ (pre ++ [PUnit.unit]).length _; rw [List.length_append]; exact f1⟩
        by_cases hkp : k = p
        · subst hkp; exact Eq.trans f1.bs (Eq.symm HIP.out)
        · exact hql k hk hkp (by rcases hs with h | h | h | h; (left; exact (HF.out k h).1); (exact absurd h hkp); (right; omega); (right; omega))
      · gi_wp2
        refine ⟨trivial, CallsIn.mono (CallsIn.inRound l (callsIn_wide.2 (whole_zero Z0.zs _ _ _))) ?_⟩
        rintro e w7 ⟨rfl, hb7⟩
        have HC := (Bx.new w5 [.string ⟨#[]⟩, .int .u64 0, .int .u64 0] 232).below hb7
        have cC := Bx.cell HC 0 rfl
        have HI7 : Hid (Im w F w.heap.size p b rd ls pre.length w7) := HI6.out.below hb7
        have hz7 := Nat.le_trans hz6 hb7.size
        have hq7 : Hid (∀ k, k < W.heap.size → k ≠ p → (k < w.heap.size ∨ w.heap.size + 6 ≤ k) → w7.heap[k]? = W.heap[k]?) := fun k hk hn h3 => (hb7.block k (Nat.lt_of_lt_of_le hk hz6)).trans (hq6.out k hk hn h3)
        clear hb7 HC c2 c21 fr21 c4 fr4 c3 fr3 hv HI6 hz6 hq6
        have HI6 := HI7
        have hz6 := hz7
        have hq6 := hq7
        clear HI7 hz7 hq7
        have c21 := HI6.out.b2.cell 1 rfl
        have fr21 := HI6.out.b2.free 1
        have c4 := HI6.out.b4.cell 0 rfl
        have fr4 := HI6.out.b4.free 0
        obtain ⟨v, hv⟩ := HI6.out.b3
        have c3 := hv.cell 0 rfl
        have fr3 := hv.free 0
        gi_wp2
        clear c21 fr21 c4 fr4 c3 fr3 hv cC
        obtain ⟨f1, f2, f3⟩ := HI6.out.fin (fun q hq => HN.out q hq) (Nat.le_refl _) _ rfl
        have hql : ∀ k, k < W.heap.size → k ≠ p → (k < w.heap.size ∨ w.heap.size + 6 ≤ k) → _ = W.heap[k]? := fun k h1 h2 h3 => (f3 k h3).trans (hq6.out k h1 h2 h3)
        refine ⟨⟨hql _ (by omega) (by omega) (by omega), hql _ (by omega) (by omega) (by omega)⟩, ⟨Nat.le_trans hz6 f2, fun k hk hs => ?_⟩, by show Im _ _ _ _ _ _ _ (pre ++ [PUnit.unit]).length _; rw [List.length_append]; exact f1⟩
        by_cases hkp : k = p
        · subst hkp; exact Eq.trans f1.bs (Eq.symm HIP.out)
        · exact hql k hk hkp (by rcases hs with h | h | h | h; (left; exact (HF.out k h).1); (exact absurd h hkp); (right; omega); (right; omega))
end Go.Proofs.YtoichcickcgbgaaGreatDoor
