/-
  The bytes of an op that admits, and of an empty table.
-/
import Derived.Test.YtoichcickcgbgaaGreatDoorGWq
namespace Go.Proofs.YtoichcickcgbgaaGreatDoor
open Go.RowKit
attribute [local go_sem] Oper.semAt_some
theorem qstep {F : Nat → Prop} {b : Nat} {l : List UInt8} {w0 w w' : World} (hT : Turn F w0 w) (h : Wq (Upb (Upb F w0 w) w w') b l w') (t : Turn (Upb F w0 w) w w') : Wq (Upb F w0 w') b l w' ∧ Turn F w0 w' := ⟨h.mono (Upb.up hT.size t.size), hT.up t⟩
theorem tkeep {F : Nat → Prop} {w : World} {C : World → Prop} (K : Hid (∀ x, Hid (Turn F w x) → C x)) {x : World} (h : Hid (Turn F w x)) : C x ∧ Hid (Turn F w x) := ⟨K.out x h, h⟩
section
variable {F : Nat → Prop} {b : Nat} {l : List UInt8} {w : World}
theorem qnum_at (h : Wq F b l w) (hl : l.length ≤ 800) (v : Int) (h0 : 0 ≤ v) (h1 : v < 256) : Calls Tryz.prog 36 #[.pointer (some ⟨b, 0, none⟩), .int .u64 v] w fun e w' => e = .returned (.pointer (some ⟨b, 0, none⟩)) ∧ Wq (Upb F w w') b (l ++ numB v.toNat) w' ∧ Turn F w w' := by
  obtain ⟨n, rfl⟩ := Int.eq_ofNat_of_zero_le h0
  exact qnum_any h hl n (by omega)
theorem qint_at (h : Wq F b l w) (hl : l.length ≤ 800) (v : Int) (h0 : 0 ≤ v) (h1 : v < 256) : Calls Tryz.prog 35 #[.pointer (some ⟨b, 0, none⟩), .int .i64 v] w fun e w' => e = .returned (.pointer (some ⟨b, 0, none⟩)) ∧ Wq (Upb F w w') b (l ++ numB v.toNat) w' ∧ Turn F w w' := by
  obtain ⟨n, rfl⟩ := Int.eq_ofNat_of_zero_le h0
  exact qint_any h hl n (by omega)
end
/-- A row of numbers below 256. -/
def Lo (x : Rk) : Prop := (0 ≤ x.k.id ∧ x.k.id < 256) ∧ (0 ≤ x.k.c ∧ x.k.c < 256) ∧ (0 ≤ x.k.d ∧ x.k.d < 256) ∧ (0 ≤ x.k.t ∧ x.k.t < 256) ∧ (0 ≤ x.k.m ∧ x.k.m < 256)
set_option maxRecDepth 100000 in
set_option maxHeartbeats 2000000 in
theorem puts_any (x : Rk) (hx : Lo x) {F : Nat → Prop} {b : Nat} {l : List UInt8} {w : World} (h : Wq F b l w) (hF : ∀ k, F k → k < w.heap.size) (hl : l.length ≤ 700) :
    Calls Tryz.prog 306 #[rv x, .pointer (some ⟨b, 0, none⟩)] w fun e w' => (∃ v, e = .returned v) ∧ (∃ m, m.length ≤ 12 ∧ Wq (Upb F w w') b (l ++ m) w') ∧ Turn F w w' := by
  obtain ⟨hid, hc, hd, ht, hm⟩ := hx
  have hv : rv x = .agg #[.int .i64 x.k.id, .int .i64 x.k.c, .int .i64 x.k.d, .int .i64 x.k.t, .int .i64 x.k.m, .bool x.s] := rfl
  rw [hv]
  clear hv
  have bb := ((Below.refl w.heap.size w).alloc (Nat.le_refl _) (.cells #[.int .i64 x.k.id, .int .i64 x.k.c, .int .i64 x.k.d, .int .i64 x.k.t, .int .i64 x.k.m, .bool x.s] 298)).alloc (by simp) (.cells #[.int .i64 x.k.id, .int .i64 x.k.c, .int .i64 x.k.d, .int .i64 x.k.t, .int .i64 x.k.m] 32)
  have R0 := Lib.hid ((Bx.new w [.int .i64 x.k.id, .int .i64 x.k.c, .int .i64 x.k.d, .int .i64 x.k.t, .int .i64 x.k.m, .bool x.s] 298).more (.cells #[.int .i64 x.k.id, .int .i64 x.k.c, .int .i64 x.k.d, .int .i64 x.k.t, .int .i64 x.k.m] 32))
  have T0 := Lib.hid (Bx.new (w.alloc (.cells #[.int .i64 x.k.id, .int .i64 x.k.c, .int .i64 x.k.d, .int .i64 x.k.t, .int .i64 x.k.m, .bool x.s] 298)) [.int .i64 x.k.id, .int .i64 x.k.c, .int .i64 x.k.d, .int .i64 x.k.t, .int .i64 x.k.m] 32)
  rw [World.size_alloc] at T0
  have hz := bb.size
  have HW := Lib.hid (h.keep fun k _ hk => bb.block k hk)
  have HTb : Hid (Turn F w ((w.alloc (.cells #[.int .i64 x.k.id, .int .i64 x.k.c, .int .i64 x.k.d, .int .i64 x.k.t, .int .i64 x.k.m, .bool x.s] 298)).alloc (.cells #[.int .i64 x.k.id, .int .i64 x.k.c, .int .i64 x.k.d, .int .i64 x.k.t, .int .i64 x.k.m] 32))) := Turn.below bb
  clear bb h
  go_enter Tryz.func306, Tryz.ntmps306
  go_wp2_with fail
  generalize (w.alloc (.cells #[.int .i64 x.k.id, .int .i64 x.k.c, .int .i64 x.k.d, .int .i64 x.k.t, .int .i64 x.k.m, .bool x.s] 298)).alloc (.cells #[.int .i64 x.k.id, .int .i64 x.k.c, .int .i64 x.k.d, .int .i64 x.k.t, .int .i64 x.k.m] 32) = w0 at *
  have HT0 : Hid (Turn F w0 w0.drew) := (Turn.refl _ _).drew
  have HW0 : Hid (Wq (Upb F w0 w0.drew) b l w0.drew) := (HW.out.keep fun _ _ _ => rfl).mono fun k hk => .inl hk
  have hnF1 : ¬ F (w.heap.size + 1) := fun h => by have := hF _ h; omega
  have hnF0 : ¬ F w.heap.size := fun h => by have := hF _ h; omega
  have KC : Hid (∀ y, Hid (Turn F w0 y) → (y.cell? ⟨w.heap.size + 1, 0, none⟩ = some (.int .i64 x.k.id) ∧ y.cell? ⟨w.heap.size + 1, 1, none⟩ = some (.int .i64 x.k.c) ∧ y.cell? ⟨w.heap.size + 1, 2, none⟩ = some (.int .i64 x.k.d) ∧ y.cell? ⟨w.heap.size + 1, 3, none⟩ = some (.int .i64 x.k.t) ∧ y.cell? ⟨w.heap.size + 1, 4, none⟩ = some (.int .i64 x.k.m) ∧ y.cell? ⟨w.heap.size, 5, none⟩ = some (.bool x.s))) := fun y h => ⟨(T0.out.turn h.out hnF1).cell 0 rfl, (T0.out.turn h.out hnF1).cell 1 rfl, (T0.out.turn h.out hnF1).cell 2 rfl, (T0.out.turn h.out hnF1).cell 3 rfl, (T0.out.turn h.out hnF1).cell 4 rfl, (R0.out.turn h.out hnF0).cell 5 rfl⟩
  refine wp_region_held_drew (S := fun y => (y.cell? ⟨w.heap.size + 1, 0, none⟩ = some (.int .i64 x.k.id) ∧ y.cell? ⟨w.heap.size + 1, 1, none⟩ = some (.int .i64 x.k.c) ∧ y.cell? ⟨w.heap.size + 1, 2, none⟩ = some (.int .i64 x.k.d) ∧ y.cell? ⟨w.heap.size + 1, 3, none⟩ = some (.int .i64 x.k.t) ∧ y.cell? ⟨w.heap.size + 1, 4, none⟩ = some (.int .i64 x.k.m) ∧ y.cell? ⟨w.heap.size, 5, none⟩ = some (.bool x.s)) ∧ Hid (Turn F w0 y)) (by kernel_rfl) (tkeep KC HT0) (fun hHeld => ?_)
  refine wtk 0 7 (.pointer (some ⟨b, 0, none⟩)) rfl (by kernel_rfl) (fun _ _ _ h => h) (by rfl) (fun x hSw => by obtain ⟨⟨d0, d1, d2, d3, d4, d5⟩, _⟩ := id hSw; (go_simp) <;> first | decide | exact IntWalk.u64_in _ (by omega)) (by assumption) ?_
  try simp only [Act.put, pw]
  refine wtk 1 8 (.pointer (some ⟨w.heap.size + 1, 0, none⟩)) rfl (by kernel_rfl) (fun _ _ _ h => h) (by rfl) (fun x hSw => by obtain ⟨⟨d0, d1, d2, d3, d4, d5⟩, _⟩ := id hSw; (go_simp) <;> first | decide | exact IntWalk.u64_in _ (by omega)) (by assumption) ?_
  try simp only [Act.put, pw]
  refine wtk 2 9 (.int .i64 x.k.id) rfl (by kernel_rfl) (fun _ _ _ h => h) (by rfl) (fun x hSw => by obtain ⟨⟨d0, d1, d2, d3, d4, d5⟩, _⟩ := id hSw; (go_simp) <;> first | decide | exact IntWalk.u64_in _ (by omega)) (by assumption) ?_
  try simp only [Act.put, pw]
  refine wtk 4 11 (.pointer (some ⟨w.heap.size + 1, 1, none⟩)) rfl (by kernel_rfl) (fun _ _ _ h => h) (by rfl) (fun x hSw => by obtain ⟨⟨d0, d1, d2, d3, d4, d5⟩, _⟩ := id hSw; (go_simp) <;> first | decide | exact IntWalk.u64_in _ (by omega)) (by assumption) ?_
  try simp only [Act.put, pw]
  refine wtk 5 12 (.int .i64 x.k.c) rfl (by kernel_rfl) (fun _ _ _ h => h) (by rfl) (fun x hSw => by obtain ⟨⟨d0, d1, d2, d3, d4, d5⟩, _⟩ := id hSw; (go_simp) <;> first | decide | exact IntWalk.u64_in _ (by omega)) (by assumption) ?_
  try simp only [Act.put, pw]
  refine wtk 6 13 (.int .u64 x.k.c) rfl (by kernel_rfl) (fun _ _ _ h => h) (by rfl) (fun x hSw => by obtain ⟨⟨d0, d1, d2, d3, d4, d5⟩, _⟩ := id hSw; (go_simp) <;> first | decide | exact IntWalk.u64_in _ (by omega)) (by assumption) ?_
  try simp only [Act.put, pw]
  refine wtk 8 15 (.pointer (some ⟨w.heap.size + 1, 2, none⟩)) rfl (by kernel_rfl) (fun _ _ _ h => h) (by rfl) (fun x hSw => by obtain ⟨⟨d0, d1, d2, d3, d4, d5⟩, _⟩ := id hSw; (go_simp) <;> first | decide | exact IntWalk.u64_in _ (by omega)) (by assumption) ?_
  try simp only [Act.put, pw]
  refine wtk 9 16 (.int .i64 x.k.d) rfl (by kernel_rfl) (fun _ _ _ h => h) (by rfl) (fun x hSw => by obtain ⟨⟨d0, d1, d2, d3, d4, d5⟩, _⟩ := id hSw; (go_simp) <;> first | decide | exact IntWalk.u64_in _ (by omega)) (by assumption) ?_
  try simp only [Act.put, pw]
  refine wtk 10 17 (.int .u64 x.k.d) rfl (by kernel_rfl) (fun _ _ _ h => h) (by rfl) (fun x hSw => by obtain ⟨⟨d0, d1, d2, d3, d4, d5⟩, _⟩ := id hSw; (go_simp) <;> first | decide | exact IntWalk.u64_in _ (by omega)) (by assumption) ?_
  try simp only [Act.put, pw]
  refine wtk 12 19 (.pointer (some ⟨w.heap.size + 1, 3, none⟩)) rfl (by kernel_rfl) (fun _ _ _ h => h) (by rfl) (fun x hSw => by obtain ⟨⟨d0, d1, d2, d3, d4, d5⟩, _⟩ := id hSw; (go_simp) <;> first | decide | exact IntWalk.u64_in _ (by omega)) (by assumption) ?_
  try simp only [Act.put, pw]
  refine wtk 13 20 (.int .i64 x.k.t) rfl (by kernel_rfl) (fun _ _ _ h => h) (by rfl) (fun x hSw => by obtain ⟨⟨d0, d1, d2, d3, d4, d5⟩, _⟩ := id hSw; (go_simp) <;> first | decide | exact IntWalk.u64_in _ (by omega)) (by assumption) ?_
  try simp only [Act.put, pw]
  refine wtk 14 21 (.int .u64 x.k.t) rfl (by kernel_rfl) (fun _ _ _ h => h) (by rfl) (fun x hSw => by obtain ⟨⟨d0, d1, d2, d3, d4, d5⟩, _⟩ := id hSw; (go_simp) <;> first | decide | exact IntWalk.u64_in _ (by omega)) (by assumption) ?_
  try simp only [Act.put, pw]
  refine wtk 16 23 (.pointer (some ⟨w.heap.size + 1, 4, none⟩)) rfl (by kernel_rfl) (fun _ _ _ h => h) (by rfl) (fun x hSw => by obtain ⟨⟨d0, d1, d2, d3, d4, d5⟩, _⟩ := id hSw; (go_simp) <;> first | decide | exact IntWalk.u64_in _ (by omega)) (by assumption) ?_
  try simp only [Act.put, pw]
  refine wtk 17 24 (.int .i64 x.k.m) rfl (by kernel_rfl) (fun _ _ _ h => h) (by rfl) (fun x hSw => by obtain ⟨⟨d0, d1, d2, d3, d4, d5⟩, _⟩ := id hSw; (go_simp) <;> first | decide | exact IntWalk.u64_in _ (by omega)) (by assumption) ?_
  try simp only [Act.put, pw]
  refine wtk 19 26 (.pointer (some ⟨w.heap.size, 5, none⟩)) rfl (by kernel_rfl) (fun _ _ _ h => h) (by rfl) (fun x hSw => by obtain ⟨⟨d0, d1, d2, d3, d4, d5⟩, _⟩ := id hSw; (go_simp) <;> first | decide | exact IntWalk.u64_in _ (by omega)) (by assumption) ?_
  try simp only [Act.put, pw]
  refine wtk 20 27 (.bool x.s) rfl (by kernel_rfl) (fun _ _ _ h => h) (by rfl) (fun x hSw => by obtain ⟨⟨d0, d1, d2, d3, d4, d5⟩, _⟩ := id hSw; (go_simp) <;> first | decide | exact IntWalk.u64_in _ (by omega)) (by assumption) ?_
  try simp only [Act.put, pw]
  refine wpAnyH_ready (rs := [3]) (by kernel_rfl) (by simp) (AllReadyH.cons rfl (fun K hK => ?_) AllReadyH.nil)
  go_simp
  refine (qint_at (w := w0.drew) HW0.out (by (try simp only [List.length_append]); omega) x.k.id hid.1 hid.2).mono ?_
  rintro e wx1 ⟨rfl, h1, t1⟩
  obtain ⟨h2, t2⟩ := qstep HT0.out h1 t1
  have HW1 := Lib.hid h2
  have HT1 := Lib.hid t2
  have hn1 := (numB_len x.k.id.toNat).1
  refine hK.out _ _ (tkeep KC HT1) (fun hHeld => ?_)
  clear hK K
  clear h1 t1 h2 t2
  try simp only [Act.put, pw]
  refine wpAnyH_ready (rs := [7]) (by kernel_rfl) (by simp) (AllReadyH.cons rfl (fun K hK => ?_) AllReadyH.nil)
  go_simp
  refine (qnum_at (w := wx1) HW1.out (by (try simp only [List.length_append]); omega) x.k.c hc.1 hc.2).mono ?_
  rintro e wx2 ⟨rfl, h1, t1⟩
  obtain ⟨h2, t2⟩ := qstep HT1.out h1 t1
  have HW2 := Lib.hid h2
  have HT2 := Lib.hid t2
  have hn2 := (numB_len x.k.c.toNat).1
  refine hK.out _ _ (tkeep KC HT2) (fun hHeld => ?_)
  clear hK K
  clear h1 t1 h2 t2
  try simp only [Act.put, pw]
  refine wpAnyH_ready (rs := [11]) (by kernel_rfl) (by simp) (AllReadyH.cons rfl (fun K hK => ?_) AllReadyH.nil)
  go_simp
  refine (qnum_at (w := wx2) HW2.out (by (try simp only [List.length_append]); omega) x.k.d hd.1 hd.2).mono ?_
  rintro e wx3 ⟨rfl, h1, t1⟩
  obtain ⟨h2, t2⟩ := qstep HT2.out h1 t1
  have HW3 := Lib.hid h2
  have HT3 := Lib.hid t2
  have hn3 := (numB_len x.k.d.toNat).1
  refine hK.out _ _ (tkeep KC HT3) (fun hHeld => ?_)
  clear hK K
  clear h1 t1 h2 t2
  try simp only [Act.put, pw]
  refine wpAnyH_ready (rs := [15]) (by kernel_rfl) (by simp) (AllReadyH.cons rfl (fun K hK => ?_) AllReadyH.nil)
  go_simp
  refine (qnum_at (w := wx3) HW3.out (by (try simp only [List.length_append]); omega) x.k.t ht.1 ht.2).mono ?_
  rintro e wx4 ⟨rfl, h1, t1⟩
  obtain ⟨h2, t2⟩ := qstep HT3.out h1 t1
  have HW4 := Lib.hid h2
  have HT4 := Lib.hid t2
  have hn4 := (numB_len x.k.t.toNat).1
  refine hK.out _ _ (tkeep KC HT4) (fun hHeld => ?_)
  clear hK K
  clear h1 t1 h2 t2
  try simp only [Act.put, pw]
  refine wpAnyH_ready (rs := [18]) (by kernel_rfl) (by simp) (AllReadyH.cons rfl (fun K hK => ?_) AllReadyH.nil)
  go_simp
  refine (qint_at (w := wx4) HW4.out (by (try simp only [List.length_append]); omega) x.k.m hm.1 hm.2).mono ?_
  rintro e wx5 ⟨rfl, h1, t1⟩
  obtain ⟨h2, t2⟩ := qstep HT4.out h1 t1
  have HW5 := Lib.hid h2
  have HT5 := Lib.hid t2
  have hn5 := (numB_len x.k.m.toNat).1
  refine hK.out _ _ (tkeep KC HT5) (fun hHeld => ?_)
  clear hK K
  clear h1 t1 h2 t2
  try simp only [Act.put, pw]
  refine wpAnyH_ready (rs := [21]) (by kernel_rfl) (by simp) (AllReadyH.cons rfl (fun K hK => ?_) AllReadyH.nil)
  go_simp
  refine (qflag_any (w := wx5) HW5.out (by (try simp only [List.length_append]); omega) x.s).mono ?_
  rintro e wx6 ⟨rfl, h1, t1⟩
  obtain ⟨h2, t2⟩ := qstep HT5.out h1 t1
  have HW6 := Lib.hid h2
  have HT6 := Lib.hid t2
  have hn6 := (numB_len x.s.toNat).1
  refine hK.out _ _ (tkeep KC HT6) (fun hHeld => ?_)
  clear hK K
  clear h1 t1 h2 t2
  try simp only [Act.put, pw]
  refine wpAnyH_done (by kernel_rfl) ?_ _
  clear hHeld KC HW0 HT0 HW1 HT1 HW2 HT2 HW3 HT3 HW4 HT4 HW5 HT5 HW
  go_wp2_with fail
  go_end0
  have hW := HW6.out
  simp only [List.append_assoc] at hW
  refine ⟨⟨_, rfl⟩, ⟨_, ?_, hW.mono fun k hk => ?_⟩, HTb.out.trans HT6.out⟩
  · simp only [List.length_append]; omega
  · exact hk.imp id fun h' => ⟨by omega, h'.2⟩
@[local go_sem] theorem m_puts (v : Value) (w : World) : (method 531 298 v "horarium/ops.puts").run Tryz.prog w = .ok (306, v) w := by kernel_rfl
@[local go_sem] theorem n_puts (v : Value) (w : World) : (nilAhead 531 298 v "horarium/ops.puts").run Tryz.prog w = .ok (some false) w := by kernel_rfl
theorem wbytes_end {w1 w2 w3 w4 w : World} (hT : Turn (fun k => k = w1.heap.size) w2 w3) (hB : Below w.heap.size w w2) (h1 : w.heap.size ≤ w1.heap.size) (h2 : w1.heap.size ≤ w2.heap.size) (h4 : Below w1.heap.size w3 w4) : Below w.heap.size w w4 :=
  (hT.to hB (Nat.le_trans h1 h2) fun _ hk => hk ▸ h1).trans (h4.mono h1)
set_option maxRecDepth 100000 in
set_option maxHeartbeats 2000000 in
theorem bytes_any (x : Rk) (hx : Gk x) (hlo : Lo x) (w : World) :
    Calls Tryz.prog 137 #[av x] w fun e w' => (∃ s : ByteArray, s.size ≤ 14 ∧ e = .returned (.tuple #[.string s, .int .i64 0])) ∧ Below w.heap.size w w' := by
  have bb := (Below.refl w.heap.size w).alloc (Nat.le_refl _) (.cells #[.int .i64 1, .int .i64 x.k.id, .int .i64 x.k.c, .int .i64 x.k.d, .int .i64 x.k.t, .int .i64 x.k.m, .bool x.s, .int .i64 0, .int .i64 0, .int .i64 0] 43)
  have R0 := Lib.hid (Bx.new w [.int .i64 1, .int .i64 x.k.id, .int .i64 x.k.c, .int .i64 x.k.d, .int .i64 x.k.t, .int .i64 x.k.m, .bool x.s, .int .i64 0, .int .i64 0, .int .i64 0] 43)
  have BB := Lib.hid bb
  have hv : av x = .agg #[.int .i64 1, .int .i64 x.k.id, .int .i64 x.k.c, .int .i64 x.k.d, .int .i64 x.k.t, .int .i64 x.k.m, .bool x.s, .int .i64 0, .int .i64 0, .int .i64 0] := rfl
  rw [hv]
  have hz := bb.size
  have hz0 := World.size_alloc w (.cells #[.int .i64 1, .int .i64 x.k.id, .int .i64 x.k.c, .int .i64 x.k.d, .int .i64 x.k.t, .int .i64 x.k.m, .bool x.s, .int .i64 0, .int .i64 0, .int .i64 0] 43)
  clear hv bb
  have hmf : ∀ (fn : Fn) (first cap : Array Value) (w : World), (Instr.makeFunc fn first cap).run Tryz.prog w = .ok (.func fn first cap) w := fun _ _ _ _ => rfl
  go_enter Tryz.func137, Tryz.ntmps137
  go_wp2_with fail
  generalize w.alloc (.cells #[.int .i64 1, .int .i64 x.k.id, .int .i64 x.k.c, .int .i64 x.k.d, .int .i64 x.k.t, .int .i64 x.k.m, .bool x.s, .int .i64 0, .int .i64 0, .int .i64 0] 43) = w0 at *
  refine (ochk_any x hx _).mono ?_
  rintro e w1 ⟨rfl, b1⟩
  have R1 := Lib.hid (R0.out.below b1)
  have BB1 := Lib.hid (BB.out.trans (b1.mono hz))
  have hz1 := b1.size
  clear b1
  go_wp2_with fail
  have W2 := Lib.hid (Wq.new w1)
  have R2 := Lib.hid (R1.out.more (.cells #[.pointer none, .slice none 0 0] 111))
  have BB2 := Lib.hid (BB1.out.alloc (Nat.le_trans hz hz1) (.cells #[.pointer none, .slice none 0 0] 111))
  have HB2 := Lib.hid ((Below.refl w1.heap.size w1).alloc (Nat.le_refl _) (.cells #[.pointer none, .slice none 0 0] 111))
  have hz2 := World.size_alloc w1 (.cells #[.pointer none, .slice none 0 0] 111)
  generalize w1.alloc (.cells #[.pointer none, .slice none 0 0] 111) = w2 at *
  have HT0 : Hid (Turn (fun k => k = w1.heap.size) w2 w2.drew) := (Turn.refl _ _).drew
  have HW0 : Hid (Wq (Upb (fun k => k = w1.heap.size) w2 w2.drew) w1.heap.size [] w2.drew) := (W2.out.keep fun _ _ _ => rfl).mono fun k hk => .inl hk
  have hnF : ¬ w.heap.size = w1.heap.size := by omega
  have KC : Hid (∀ y, Hid (Turn (fun k => k = w1.heap.size) w2 y) → (y.cell? ⟨w.heap.size, 0, none⟩ = some (.int .i64 1) ∧ y.cell? ⟨w.heap.size, 1, none⟩ = some (.int .i64 x.k.id) ∧ y.cell? ⟨w.heap.size, 2, none⟩ = some (.int .i64 x.k.c) ∧ y.cell? ⟨w.heap.size, 3, none⟩ = some (.int .i64 x.k.d) ∧ y.cell? ⟨w.heap.size, 4, none⟩ = some (.int .i64 x.k.t) ∧ y.cell? ⟨w.heap.size, 5, none⟩ = some (.int .i64 x.k.m) ∧ y.cell? ⟨w.heap.size, 6, none⟩ = some (.bool x.s) ∧ y.cell? ⟨w.heap.size, 7, none⟩ = some (.int .i64 0) ∧ y.cell? ⟨w.heap.size, 8, none⟩ = some (.int .i64 0) ∧ y.cell? ⟨w.heap.size, 9, none⟩ = some (.int .i64 0))) := fun y h => ⟨(R2.out.turn h.out hnF).cell 0 rfl, (R2.out.turn h.out hnF).cell 1 rfl, (R2.out.turn h.out hnF).cell 2 rfl, (R2.out.turn h.out hnF).cell 3 rfl, (R2.out.turn h.out hnF).cell 4 rfl, (R2.out.turn h.out hnF).cell 5 rfl, (R2.out.turn h.out hnF).cell 6 rfl, (R2.out.turn h.out hnF).cell 7 rfl, (R2.out.turn h.out hnF).cell 8 rfl, (R2.out.turn h.out hnF).cell 9 rfl⟩
  refine wp_region_held_drew (S := fun y => (y.cell? ⟨w.heap.size, 0, none⟩ = some (.int .i64 1) ∧ y.cell? ⟨w.heap.size, 1, none⟩ = some (.int .i64 x.k.id) ∧ y.cell? ⟨w.heap.size, 2, none⟩ = some (.int .i64 x.k.c) ∧ y.cell? ⟨w.heap.size, 3, none⟩ = some (.int .i64 x.k.d) ∧ y.cell? ⟨w.heap.size, 4, none⟩ = some (.int .i64 x.k.t) ∧ y.cell? ⟨w.heap.size, 5, none⟩ = some (.int .i64 x.k.m) ∧ y.cell? ⟨w.heap.size, 6, none⟩ = some (.bool x.s) ∧ y.cell? ⟨w.heap.size, 7, none⟩ = some (.int .i64 0) ∧ y.cell? ⟨w.heap.size, 8, none⟩ = some (.int .i64 0) ∧ y.cell? ⟨w.heap.size, 9, none⟩ = some (.int .i64 0)) ∧ Hid (Turn (fun k => k = w1.heap.size) w2 y)) (by kernel_rfl) (tkeep KC HT0) (fun hHeld => ?_)
  refine wtk 0 10 (.agg #[.int .i64 1, .int .i64 x.k.id, .int .i64 x.k.c, .int .i64 x.k.d, .int .i64 x.k.t, .int .i64 x.k.m, .bool x.s, .int .i64 0, .int .i64 0, .int .i64 0]) rfl (by kernel_rfl) (fun _ _ _ h => h) (by rfl) (fun x hSw => by obtain ⟨⟨d0, d1, d2, d3, d4, d5, d6, d7, d8, d9⟩, _⟩ := id hSw; (go_simp) <;> first | decide | simp) (by assumption) ?_
  try simp only [Act.put, pw]
  refine wtk 2 12 (.pointer (some ⟨w1.heap.size, 0, none⟩)) rfl (by kernel_rfl) (fun _ _ _ h => h) (by rfl) (fun x hSw => by obtain ⟨⟨d0, d1, d2, d3, d4, d5, d6, d7, d8, d9⟩, _⟩ := id hSw; (go_simp) <;> first | decide | simp) (by assumption) ?_
  try simp only [Act.put, pw]
  refine wtk 3 13 (.pointer (some ⟨w.heap.size, 0, none⟩)) rfl (by kernel_rfl) (fun _ _ _ h => h) (by rfl) (fun x hSw => by obtain ⟨⟨d0, d1, d2, d3, d4, d5, d6, d7, d8, d9⟩, _⟩ := id hSw; (go_simp) <;> first | decide | simp) (by assumption) ?_
  try simp only [Act.put, pw]
  refine wtk 4 14 (.int .i64 1) rfl (by kernel_rfl) (fun _ _ _ h => h) (by rfl) (fun x hSw => by obtain ⟨⟨d0, d1, d2, d3, d4, d5, d6, d7, d8, d9⟩, _⟩ := id hSw; (go_simp) <;> first | decide | simp) (by assumption) ?_
  try simp only [Act.put, pw]
  refine wpAnyH_ready (rs := [1]) (by kernel_rfl) (by simp) (AllReadyH.cons rfl (fun K hK => ?_) AllReadyH.nil)
  go_simp
  refine (of_any x _).mono ?_
  rintro e y1 ⟨rfl, b1⟩
  have HT1 : Hid (Turn (fun k => k = w1.heap.size) w2 y1) := HT0.out.then (Turn.below (S := fun _ => False) b1) fun _ _ h => h.elim
  have HW1 : Hid (Wq (Upb (fun k => k = w1.heap.size) w2 y1) w1.heap.size [] y1) := (HW0.out.keep fun k _ hk => b1.block k hk).mono fun k hk => hk.imp id fun h' => ⟨h'.1, Nat.lt_of_lt_of_le h'.2 b1.size⟩
  refine hK.out _ _ (tkeep KC HT1) (fun hHeld => ?_)
  clear hK K
  clear b1
  simp only [iv, rv]
  try simp only [Act.put, pw]
  refine wtk 6 16 (.func (.method "horarium/ops.puts") #[.iface 298 (.agg #[.int .i64 x.k.id, .int .i64 x.k.c, .int .i64 x.k.d, .int .i64 x.k.t, .int .i64 x.k.m, .bool x.s])] #[]) rfl (by kernel_rfl) (fun _ _ _ h => h) (by rfl) (fun x hSw => by obtain ⟨⟨d0, d1, d2, d3, d4, d5, d6, d7, d8, d9⟩, _⟩ := id hSw; (go_simp) <;> first | decide | simp) (by assumption) ?_
  try simp only [Act.put, pw]
  refine wtk 7 17 (.func (.method "horarium/ops.puts") #[.iface 298 (.agg #[.int .i64 x.k.id, .int .i64 x.k.c, .int .i64 x.k.d, .int .i64 x.k.t, .int .i64 x.k.m, .bool x.s])] #[]) rfl (by kernel_rfl) (fun _ _ _ h => h) (by rfl) (fun x hSw => by obtain ⟨⟨d0, d1, d2, d3, d4, d5, d6, d7, d8, d9⟩, _⟩ := id hSw; (go_simp) <;> first | decide | simp) (by assumption) ?_
  try simp only [Act.put, pw]
  refine wtk 8 18 (.iface 298 (.agg #[.int .i64 x.k.id, .int .i64 x.k.c, .int .i64 x.k.d, .int .i64 x.k.t, .int .i64 x.k.m, .bool x.s])) rfl (by kernel_rfl) (fun _ _ _ h => h) (by rfl) (fun x hSw => by obtain ⟨⟨d0, d1, d2, d3, d4, d5, d6, d7, d8, d9⟩, _⟩ := id hSw; (go_simp) <;> first | decide | simp) (by assumption) ?_
  try simp only [Act.put, pw]
  refine wpAnyH_ready (rs := [5]) (by kernel_rfl) (by simp) (AllReadyH.cons rfl (fun K hK => ?_) AllReadyH.nil)
  go_simp
  refine (qint_at (w := y1) HW1.out (by decide) 1 (by omega) (by omega)).mono ?_
  rintro e y2 ⟨rfl, h1, t1⟩
  obtain ⟨h2, t2⟩ := qstep HT1.out h1 t1
  have HWb := Lib.hid h2
  have HTb := Lib.hid t2
  refine hK.out _ _ (tkeep KC HTb) (fun hHeld => ?_)
  clear hK K
  clear h1 t1 h2 t2
  try simp only [Act.put, pw]
  refine wpAnyH_ready (rs := [9]) (by kernel_rfl) (by simp) (AllReadyH.cons rfl (fun K hK => ?_) AllReadyH.nil)
  go_simp
  refine (puts_any (w := y2) x hlo HWb.out (fun k hk => ?_) (by decide)).mono ?_
  · rcases hk with hk | hk
    · have := HTb.out.size; omega
    · exact hk.2
  rintro e y3 ⟨⟨v, rfl⟩, ⟨m, hm, hW3⟩, hT3⟩
  have HT3 := Lib.hid (HTb.out.up hT3)
  have HW3 := Lib.hid (hW3.mono (Upb.up HTb.out.size hT3.size))
  refine hK.out _ _ (tkeep KC HT3) (fun hHeld => ?_)
  clear hK K
  clear hW3 hT3
  try simp only [Act.put, pw]
  refine wpAnyH_done (by kernel_rfl) ?_ _
  clear hHeld KC
  have hWt := Lib.hid (HW3.out.wt (B := w1.heap.size) fun k hk => by
    rcases hk with rfl | hk
    · exact Nat.le_refl _
    · have := hk.1; omega)
  have hne : [] ++ numB (1 : Int).toNat ++ m ≠ [] := by simp [numB]
  go_wp2_with fail
  refine (wstr_any hWt.out hne).mono ?_
  rintro e y4 ⟨rfl, b4⟩
  go_wp2_with fail
  refine bodyPost_ret (v := .tuple #[.string ⟨([] ++ numB (1 : Int).toNat ++ m).toArray⟩, .int .i64 0]) (by simp [results, Tryz.results137, go_sem]) rfl ⟨⟨_, ?_, rfl⟩, wbytes_end HT3.out BB2.out (Nat.le_trans hz hz1) (by omega) b4⟩
  simp [ByteArray.size, numB]
  omega
end Go.Proofs.YtoichcickcgbgaaGreatDoor
