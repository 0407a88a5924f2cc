/-
  registry.Table: the set, its rows cloned.
  table.Find of two rows at most; slices.Contains over tasks.
-/
import Derived.Test.YtoichcickcgbgaaGreatDoorGAdMy
import Derived.Shelf.SlicesQ.Contains
namespace Go.Proofs.YtoichcickcgbgaaGreatDoor
open Go.RowKit
attribute [local go_sem] Oper.semAt_some
theorem vclone {w : World} {v : Value} {rs : List Rk} (h : Vr w v rs) (hn : rs.length ≤ 1000) :
    Calls Tryz.prog 125 #[v] w fun e w' => ∃ v', e = .returned v' ∧ Vr w' v' rs ∧ (∀ g, v'.ownBlock = some g → w.heap.size ≤ g) ∧ Below w.heap.size w w' := by
  by_cases hne : rs = []
  · subst hne
    rw [h.2 rfl]
    refine (AnyE.slices_Clone_nil Sh.cloneRow 0 0 w).mono ?_
    rintro e w' ⟨rfl, rfl⟩
    exact ⟨_, rfl, ⟨Sx.nil, fun _ => rfl⟩, fun g hg => by simp [Value.ownBlock] at hg, Below.refl _ _⟩
  · refine (rclone_any h.1 hn).mono ?_
    rintro e w' ⟨v', rfl, hx, ho, hb⟩
    exact ⟨v', rfl, ⟨hx, fun h => absurd h hne⟩, ho, hb⟩
set_option maxRecDepth 100000 in
set_option maxHeartbeats 1000000 in
theorem rtable {w : World} {q j : Nat} {v : Value} {rs : List Rk} (hB : Bx w q 86 [.pointer (some ⟨j, 0, none⟩), v, .int .i64 0]) (hV : Vr w v rs) (hn : rs.length ≤ 1000) :
    Calls Tryz.prog 101 #[.pointer (some ⟨q, 0, none⟩)] w fun e w' => ∃ v', e = .returned (.agg #[v', .int .i64 0]) ∧ Vr w' v' rs ∧ (∀ g, v'.ownBlock = some g → w.heap.size ≤ g) ∧ Below w.heap.size w w' := by
  have hb0 := (Below.refl w.heap.size w).alloc (Nat.le_refl _) (.cells #[.slice none 0 0, .int .i64 0] 79)
  have HZ := Lib.hid (Bx.new w [.slice none 0 0, .int .i64 0] 79)
  have HQ := Lib.hid (hB.below hb0)
  have HV := Lib.hid (hV.below hb0)
  have HB := Lib.hid hb0
  have hq : q ≠ w.heap.size := by have := hB.lt; omega
  obtain ⟨⟨oa, cap, rfl, -, -⟩, -⟩ := hV
  have hz : w.heap.size < (w.alloc (.cells #[.slice none 0 0, .int .i64 0] 79)).heap.size := by simp
  clear hb0 hB
  generalize hnn : rs.length = n at *
  go_enter Tryz.func101, Tryz.ntmps101
  go_wp2_with fail
  generalize w.alloc (.cells #[.slice none 0 0, .int .i64 0] 79) = u1 at *
  have KC : Hid (∀ y, Hid (Turn (fun b => b = w.heap.size) u1 y) → y.cell? ⟨q, 1, none⟩ = some (.slice oa n cap) ∧ y.cell? ⟨q, 2, none⟩ = some (.int .i64 0)) := fun y h => ⟨(HQ.out.turn h.out hq).cell 1 rfl, (HQ.out.turn h.out hq).cell 2 rfl⟩
  have B1 : Hid (Below u1.heap.size u1 u1.drew) := bl_drew (bl0 _)
  refine wp_region_held_drew (S := fun y => (y.cell? ⟨q, 1, none⟩ = some (.slice oa n cap) ∧ y.cell? ⟨q, 2, none⟩ = some (.int .i64 0)) ∧ Hid (Turn (fun b => b = w.heap.size) u1 y)) (by kernel_rfl) (tkp KC (Turn.below B1.out)) (fun hHeld => ?_)
  refine wtk 0 6 (.pointer (some ⟨q, 0, none⟩)) rfl (by kernel_rfl) (fun _ _ _ h => h) (by rfl) (fun x hSw => by obtain ⟨⟨d0, d1⟩, _⟩ := id hSw; (go_simp) <;> first | decide | exact IntWalk.i64_in _ (by omega)) (by assumption) ?_
  try simp only [Act.put, pw]
  refine wtk 1 7 (.pointer (some ⟨q, 0, none⟩)) rfl (by kernel_rfl) (fun _ _ _ h => h) (by rfl) (fun x hSw => by obtain ⟨⟨d0, d1⟩, _⟩ := id hSw; (go_simp) <;> first | decide | exact IntWalk.i64_in _ (by omega)) (by assumption) ?_
  try simp only [Act.put, pw]
  refine wtk 2 8 (.pointer (some ⟨q, 1, none⟩)) rfl (by kernel_rfl) (fun _ _ _ h => h) (by rfl) (fun x hSw => by obtain ⟨⟨d0, d1⟩, _⟩ := id hSw; (go_simp) <;> first | decide | exact IntWalk.i64_in _ (by omega)) (by assumption) ?_
  try simp only [Act.put, pw]
  refine wtk 3 9 (.pointer (some ⟨q, 1, none⟩)) rfl (by kernel_rfl) (fun _ _ _ h => h) (by rfl) (fun x hSw => by obtain ⟨⟨d0, d1⟩, _⟩ := id hSw; (go_simp) <;> first | decide | exact IntWalk.i64_in _ (by omega)) (by assumption) ?_
  try simp only [Act.put, pw]
  refine wtk 4 10 (.slice oa n cap) rfl (by kernel_rfl) (fun _ _ _ h => h) (by rfl) (fun x hSw => by obtain ⟨⟨d0, d1⟩, _⟩ := id hSw; (go_simp) <;> first | decide | exact IntWalk.i64_in _ (by omega)) (by assumption) ?_
  try simp only [Act.put, pw]
  refine wtk 6 12 (.pointer (some ⟨q, 0, none⟩)) rfl (by kernel_rfl) (fun _ _ _ h => h) (by rfl) (fun x hSw => by obtain ⟨⟨d0, d1⟩, _⟩ := id hSw; (go_simp) <;> first | decide | exact IntWalk.i64_in _ (by omega)) (by assumption) ?_
  try simp only [Act.put, pw]
  refine wtk 7 13 (.pointer (some ⟨q, 0, none⟩)) rfl (by kernel_rfl) (fun _ _ _ h => h) (by rfl) (fun x hSw => by obtain ⟨⟨d0, d1⟩, _⟩ := id hSw; (go_simp) <;> first | decide | exact IntWalk.i64_in _ (by omega)) (by assumption) ?_
  try simp only [Act.put, pw]
  refine wtk 8 14 (.pointer (some ⟨q, 1, none⟩)) rfl (by kernel_rfl) (fun _ _ _ h => h) (by rfl) (fun x hSw => by obtain ⟨⟨d0, d1⟩, _⟩ := id hSw; (go_simp) <;> first | decide | exact IntWalk.i64_in _ (by omega)) (by assumption) ?_
  try simp only [Act.put, pw]
  refine wtk 9 15 (.pointer (some ⟨q, 2, none⟩)) rfl (by kernel_rfl) (fun _ _ _ h => h) (by rfl) (fun x hSw => by obtain ⟨⟨d0, d1⟩, _⟩ := id hSw; (go_simp) <;> first | decide | exact IntWalk.i64_in _ (by omega)) (by assumption) ?_
  try simp only [Act.put, pw]
  refine wtk 10 16 (.int .i64 0) rfl (by kernel_rfl) (fun _ _ _ h => h) (by rfl) (fun x hSw => by obtain ⟨⟨d0, d1⟩, _⟩ := id hSw; (go_simp) <;> first | decide | exact IntWalk.i64_in _ (by omega)) (by assumption) ?_
  try simp only [Act.put, pw]
  refine wpAnyH_ready (rs := [5]) (by kernel_rfl) (by simp) (AllReadyH.cons rfl (fun K hK => ?_) AllReadyH.nil)
  go_simp
  refine (vclone (HV.out.below B1.out) (by omega)).mono ?_
  rintro e w2 ⟨v2, rfl, hV2, ho2, b2⟩
  have B2 := bl_below B1 b2
  obtain ⟨oa1, cap1, hv2, -, -⟩ := id hV2.1
  rw [hnn] at hv2
  subst hv2
  refine hK.out _ _ (tkp KC (Turn.below B2.out)) (fun hHeld => ?_)
  clear hK K
  have HV2 := Lib.hid hV2
  have HO2 : Hid (∀ g, Value.ownBlock (.slice oa1 n cap1) = some g → u1.heap.size ≤ g) := ho2
  have hZ2 := HZ.out.below B2.out
  have z0 := hZ2.cell 0 rfl
  have z1 := hZ2.cell 1 rfl
  have f0 := hZ2.free 0
  have f1 := hZ2.free 1
  have HZ2 := Lib.hid hZ2
  clear b2 hV2 ho2 B1 HV hZ2
  try simp only [Act.put, pw]
  refine wtk 11 17 (.agg #[.slice oa1 n cap1, .int .i64 0]) rfl (by kernel_rfl) (fun _ _ _ h => h) (by rfl) (fun x hSw => by obtain ⟨⟨d0, d1⟩, _⟩ := id hSw; (go_simp) <;> first | decide | exact IntWalk.i64_in _ (by omega)) (by assumption) ?_
  try simp only [Act.put, pw]
  refine wpAnyH_ready (rs := [12]) (by kernel_rfl) (by simp) (AllReadyH.cons rfl (fun K hK => ?_) AllReadyH.nil)
  go_simp
  have t : Turn (fun k => k = w.heap.size) w2 ((w2.setCell ⟨w.heap.size, 0, none⟩ (.slice oa1 n cap1)).setCell ⟨w.heap.size, 1, none⟩ (.int .i64 0)) := (Turn.set (S := fun k => k = w.heap.size) _ _ _ _ rfl).trans (Turn.set _ _ _ _ rfl)
  refine hK.out _ _ (tkp KC ((Turn.below B2.out).trans t)) (fun hHeld => ?_)
  clear hK K
  clear z0 z1 f0 f1
  try simp only [Act.put, pw]
  refine wpAnyH_done (by kernel_rfl) ?_ _
  go_wp2_with fail
  have s1 := Bx.set (Bx.set (w := w2) HZ2.out 0 (.slice oa1 n cap1) _ rfl) 1 (.int .i64 0) [.slice oa1 n cap1, .int .i64 0] rfl
  have e0 := s1.cell 0 rfl
  have e1 := s1.cell 1 rfl
  have B3 : Below w.heap.size w w2 := HB.out.trans (B2.out.mono (by omega))
  refine bodyPost_ret (v := .agg #[.slice oa1 n cap1, .int .i64 0]) (by simp [results, Tryz.results101, go_sem, e0, e1]) rfl ?_
  exact ⟨_, rfl, HV2.out.turn t (fun _ g hg h => by have := HO2.out g hg; omega), fun g hg => by have := HO2.out g hg; omega, Turn.to B3 t B3.size (fun k hk => by omega)⟩
end Go.Proofs.YtoichcickcgbgaaGreatDoor
namespace Go.Proofs.YtoichcickcgbgaaGreatDoor
open Go.RowKit
attribute [local go_sem] Oper.semAt_some
/-- Two tasks are one. -/
def eqT (x y : Tk) : Bool := x.id == y.id && (x.c == y.c && (x.d == y.d && (x.t == y.t && x.m == y.m)))
theorem eqT_self (x : Tk) : eqT x x = true := by simp [eqT]
theorem eql_task : EqlAt Tryz.prog 32 (fun x => .agg (tc x).toArray) eqT := by
  refine ⟨fun x y w => ?_, GuardAt.agg (fun x => (tc x).toArray) (by kernel_rfl)⟩
  show (binOp .eql 32 (.agg #[.int .i64 x.id, .int .i64 x.c, .int .i64 x.d, .int .i64 x.t, .int .i64 x.m]) (.agg #[.int .i64 y.id, .int .i64 y.c, .int .i64 y.d, .int .i64 y.t, .int .i64 y.m])).run Tryz.prog w = _
  have u2 := Tryz.underlying2
  have a2 := Tryz.isAgg2
  have z2 := Tryz.sizeOf2
  have u3 := Tryz.underlying3
  have a3 := Tryz.isAgg3
  have z3 := Tryz.sizeOf3
  have hS : Tryz.prog.underlying 32 = some (.struct (Tryz.prog.fieldsOf 32)) := by kernel_rfl
  have hp : Tryz.prog.stoodInHeld 32 = false := by kernel_rfl
  rw [run_eql_struct, show (10000 : Nat) = 9999 + 1 from rfl, run_equalIn_agg w 9999 32 _ _ hS hp]
  simp only [Program.fieldsOf, Tryz.underlying32]
  go_simp
  by_cases h1 : x.id = y.id <;> by_cases h2 : x.c = y.c <;> by_cases h3 : x.d = y.d <;> by_cases h4 : x.t = y.t <;> by_cases h5 : x.m = y.m <;> simp [eqT, h1, h2, h3, h4, h5]
/-- Is a task there? -/
theorem has_task {w : World} {v : Value} {ts : List Tk} (h : Sx tc w v ts) (hn : ts.length ≤ 16) (hne : ts ≠ []) (x : Tk) :
    Calls Tryz.prog 133 #[v, .agg (tc x).toArray] w fun e w' => e = .returned (.bool (ts.any fun y => eqT x y)) ∧ Below w.heap.size w w' := by
  obtain ⟨oa, cap, rfl, ha, h⟩ := h
  obtain ⟨b, rfl, hb, hc, hr⟩ := h hne
  refine (AnyQ.slices_Contains Sh.containsTask 5 (fun w => by kernel_rfl) (fun w => by kernel_rfl) tc (fun _ => rfl) eqT eql_task b 0 ts.length cap ts x w (Nat.le_refl _) (by omega) ?_).mono ?_
  · intro j hj i u hu
    have := hr _ _ (chunk_at tc 5 (fun _ => rfl) ts j hj i u hu)
    rw [show 0 + j * 5 + i = 0 + (j * 5 + i) from by omega]
    exact this
  · rintro e w' ⟨rfl, hb⟩
    exact ⟨by rw [List.take_of_length_le (Nat.le_refl _)], hb⟩
set_option maxRecDepth 100000 in
theorem find_pred {w : World} {b : Nat} {i : Int} (hb : b < w.heap.size) (hc : w.cell? ⟨b, 0, none⟩ = some (.int .i64 i)) (x : Rk) :
    Calls Tryz.prog 100 (#[.agg (rc x).toArray] ++ #[.pointer (some ⟨b, 0, none⟩)]) w fun e w' => e = .returned (.bool (x.k.id == i)) ∧ Below w.heap.size w w' := by
  have hbn : b ≠ w.heap.size := by omega
  show Calls Tryz.prog 100 #[.agg #[.int .i64 x.k.id, .int .i64 x.k.c, .int .i64 x.k.d, .int .i64 x.k.t, .int .i64 x.k.m, .bool x.s], .pointer (some ⟨b, 0, none⟩)] w _
  go_enter Tryz.func100, Tryz.ntmps100
  go_wp2_with fail
  go_ret
  exact ⟨rfl, (Below.refl _ _).alloc (Nat.le_refl _) _⟩
set_option maxRecDepth 100000 in
theorem idxr_nil (oa : Option Addr) (c : Nat) (f : Value) (w : World) : Calls Tryz.prog 99 #[.slice oa 0 c, f] w fun e w' => e = .returned (.int .i64 (-1)) ∧ Below w.heap.size w w' := by
  go_enter Tryz.func99, Tryz.ntmps99
  go_wp2_with fail
  refine wp_loop_rounds 1 ?_
  rw [rounds_succ]
  go_wp2_with fail
  go_ret
  exact ⟨rfl, Below.refl _ _⟩
theorem idxr_any {w : World} {v : Value} {rs : List Rk} (h : Sx rc w v rs) (hn : rs.length ≤ 16) (p : Rk → Bool) (g : Nat) (lb : Array Value) (eg : ∀ args w, (callFunc g args).run Tryz.prog w = .ok (.enter g args) w)
    (hp : PredBelow Tryz.prog g lb (fun x => .agg (rc x).toArray) p w) :
    Calls Tryz.prog 99 #[v, .func (.func g) #[] lb] w fun e w' => e = .returned (.int .i64 (Lib.idxBy (fun _ y => p y) rs default)) ∧ Below w.heap.size w w' := by
  obtain ⟨oa, cap, rfl, ha, h⟩ := h
  by_cases hne : rs = []
  · subst hne
    exact idxr_nil oa cap _ w
  · obtain ⟨b, rfl, hb, hc, hr⟩ := h hne
    refine (AnyQ.slices_IndexFunc Sh.idxRow 6 (fun w => by kernel_rfl) (fun w => by kernel_rfl) rc (fun _ => rfl) p g lb eg b 0 rs.length cap rs w hp (Nat.le_refl _) (by omega) hb ?_).mono ?_
    · intro j hj i u hu
      have := hr _ _ (chunk_at rc 6 (fun _ => rfl) rs j hj i u hu)
      rw [show 0 + j * 6 + i = 0 + (j * 6 + i) from by omega]
      exact this
    · rintro e w' ⟨rfl, hb⟩
      exact ⟨by rw [List.take_of_length_le (Nat.le_refl _)], hb⟩
theorem World.size_setCell (w : World) (a : Addr) (v : Value) : (w.setCell a v).heap.size = w.heap.size := by simp [World.setCell]
set_option maxRecDepth 100000 in
theorem find_0 {w : World} {v : Value} {rs : List Rk} {i : Int} {r : Rk} (h : Sx rc w v rs) (hn : rs.length ≤ 16) (hi : Lib.idxBy (fun _ y => y.k.id == i) rs default = 0) (hr : rs[0]? = some r) :
    Calls Tryz.prog 61 #[.agg #[v, .int .i64 0], .int .i64 i] w fun e w' => e = .returned (.tuple #[.agg #[.int .i64 r.k.id, .int .i64 r.k.c, .int .i64 r.k.d, .int .i64 r.k.t, .int .i64 r.k.m, .bool r.s], .bool true]) ∧ Below w.heap.size w w' := by
  have hb0 := (((Below.refl w.heap.size w).alloc (Nat.le_refl _) (.cells #[v, .int .i64 0] 79)).alloc (by simp) (.cells #[.int .i64 i] 3)).alloc (by simp; omega) (.cells #[.int .i64 0, .int .i64 0, .int .i64 0, .int .i64 0, .int .i64 0, .bool false] 37)
  have hA := ((Bx.new w [v, .int .i64 0] 79).more (.cells #[.int .i64 i] 3)).more (.cells #[.int .i64 0, .int .i64 0, .int .i64 0, .int .i64 0, .int .i64 0, .bool false] 37)
  have hI := (Bx.new (w.alloc (.cells #[v, .int .i64 0] 79)) [.int .i64 i] 3).more (.cells #[.int .i64 0, .int .i64 0, .int .i64 0, .int .i64 0, .int .i64 0, .bool false] 37)
  have hZ := Bx.new ((w.alloc (.cells #[v, .int .i64 0] 79)).alloc (.cells #[.int .i64 i] 3)) [.int .i64 0, .int .i64 0, .int .i64 0, .int .i64 0, .int .i64 0, .bool false] 37
  simp only [World.size_alloc] at hI hZ
  have HX := Lib.hid (h.below hb0)
  have HB := Lib.hid hb0
  have HA := Lib.hid hA
  have HZ := Lib.hid hZ
  have HC := Lib.hid (idxr_any HX.out hn (fun y => y.k.id == i) 100 #[.pointer (some ⟨w.heap.size + 1, 0, none⟩)] (enters_of Tryz.func100 (by kernel_rfl) rfl) (fun W x hb => (find_pred (Nat.lt_of_lt_of_le hI.lt hb.size) ((hI.below hb).cell 0 rfl) x).mono fun e w' h => ⟨h.1, hb.trans (h.2.mono hb.size)⟩))
  rw [hi] at HC
  obtain ⟨oa, cap, rfl, -, hh⟩ := h
  have hlen : 0 < rs.length := by
    rcases Nat.lt_or_ge 0 rs.length with h | h
    · exact h
    · rw [List.getElem?_eq_none h] at hr; cases hr
  obtain ⟨g, rfl, hg, -, hrr⟩ := hh (fun e => by rw [e] at hlen; simp at hlen)
  have hri : 0 < ((rs.length : Nat) : Int) := by omega
  have HR : Hid (w.rangeAt g 0 (rc r)) := fun jj u hu => by
    have := hrr (0 * 6 + jj) u (chunk_at rc 6 (fun _ => rfl) rs 0 hlen jj u (by rw [getElem!_pos rs 0 hlen, (List.getElem?_eq_some_iff.1 hr).2]; exact hu))
    rwa [Nat.zero_add] at this
  clear hrr hr
  clear hb0 hA hI hZ hi
  go_enter Tryz.func61, Tryz.ntmps61
  go_wp2_with fail
  refine HC.out.mono ?_
  rintro e w1 ⟨rfl, b1⟩
  have hA1 := HA.out.below b1
  have hZ1 := HZ.out.below b1
  have HB1 := Lib.hid (HB.out.trans (b1.mono HB.out.size))
  have cA0 := hA1.cell 0 rfl
  have z0 := hZ1.cell 0 rfl
  have f0 := hZ1.free 0
  have z1 := hZ1.cell 1 rfl
  have f1 := hZ1.free 1
  have z2 := hZ1.cell 2 rfl
  have f2 := hZ1.free 2
  have z3 := hZ1.cell 3 rfl
  have f3 := hZ1.free 3
  have z4 := hZ1.cell 4 rfl
  have f4 := hZ1.free 4
  have z5 := hZ1.cell 5 rfl
  have f5 := hZ1.free 5
  have hR1 := rangeAt_block HR.out ((b1.block g (Nat.lt_of_lt_of_le hg HB.out.size)).trans (HB.out.block g hg))
  have q0 := hR1 0 _ rfl
  have q1 := hR1 1 _ rfl
  have q2 := hR1 2 _ rfl
  have q3 := hR1 3 _ rfl
  have q4 := hR1 4 _ rfl
  have q5 := hR1 5 _ rfl
  simp only [Nat.zero_add] at q0 q1 q2 q3 q4 q5
  clear b1 HA HZ HB HC HX
  go_wp2_with fail
  have s0 := Bx.set (w := w1) hZ1 0 (.int .i64 r.k.id) _ rfl
  have s1 := Bx.set (w := _) s0 1 (.int .i64 r.k.c) _ rfl
  have s2 := Bx.set (w := _) s1 2 (.int .i64 r.k.d) _ rfl
  have s3 := Bx.set (w := _) s2 3 (.int .i64 r.k.t) _ rfl
  have s4 := Bx.set (w := _) s3 4 (.int .i64 r.k.m) _ rfl
  have s5 := Bx.set (w := _) s4 5 (.bool r.s) _ rfl
  have e0 := s5.cell 0 rfl
  have e1 := s5.cell 1 rfl
  have e2 := s5.cell 2 rfl
  have e3 := s5.cell 3 rfl
  have e4 := s5.cell 4 rfl
  have e5 := s5.cell 5 rfl
  refine bodyPost_ret (v := .tuple #[.agg #[.int .i64 r.k.id, .int .i64 r.k.c, .int .i64 r.k.d, .int .i64 r.k.t, .int .i64 r.k.m, .bool r.s], .bool true]) (by simp [results, Tryz.results61, go_sem, e0, e1, e2, e3, e4, e5]) rfl ?_
  exact ⟨rfl, (bset (bset (bset (bset (bset (bset HB1.out HB1.out.size (w.heap.size + 1 + 1) 0 (.int .i64 r.k.id) (by omega)) (by simp only [World.size_setCell]; exact HB1.out.size) (w.heap.size + 1 + 1) 1 (.int .i64 r.k.c) (by omega)) (by simp only [World.size_setCell]; exact HB1.out.size) (w.heap.size + 1 + 1) 2 (.int .i64 r.k.d) (by omega)) (by simp only [World.size_setCell]; exact HB1.out.size) (w.heap.size + 1 + 1) 3 (.int .i64 r.k.t) (by omega)) (by simp only [World.size_setCell]; exact HB1.out.size) (w.heap.size + 1 + 1) 4 (.int .i64 r.k.m) (by omega)) (by simp only [World.size_setCell]; exact HB1.out.size) (w.heap.size + 1 + 1) 5 (.bool r.s) (by omega))⟩
set_option maxRecDepth 100000 in
theorem find_1 {w : World} {v : Value} {rs : List Rk} {i : Int} {r : Rk} (h : Sx rc w v rs) (hn : rs.length ≤ 16) (hi : Lib.idxBy (fun _ y => y.k.id == i) rs default = 1) (hr : rs[1]? = some r) :
    Calls Tryz.prog 61 #[.agg #[v, .int .i64 0], .int .i64 i] w fun e w' => e = .returned (.tuple #[.agg #[.int .i64 r.k.id, .int .i64 r.k.c, .int .i64 r.k.d, .int .i64 r.k.t, .int .i64 r.k.m, .bool r.s], .bool true]) ∧ Below w.heap.size w w' := by
  have hb0 := (((Below.refl w.heap.size w).alloc (Nat.le_refl _) (.cells #[v, .int .i64 0] 79)).alloc (by simp) (.cells #[.int .i64 i] 3)).alloc (by simp; omega) (.cells #[.int .i64 0, .int .i64 0, .int .i64 0, .int .i64 0, .int .i64 0, .bool false] 37)
  have hA := ((Bx.new w [v, .int .i64 0] 79).more (.cells #[.int .i64 i] 3)).more (.cells #[.int .i64 0, .int .i64 0, .int .i64 0, .int .i64 0, .int .i64 0, .bool false] 37)
  have hI := (Bx.new (w.alloc (.cells #[v, .int .i64 0] 79)) [.int .i64 i] 3).more (.cells #[.int .i64 0, .int .i64 0, .int .i64 0, .int .i64 0, .int .i64 0, .bool false] 37)
  have hZ := Bx.new ((w.alloc (.cells #[v, .int .i64 0] 79)).alloc (.cells #[.int .i64 i] 3)) [.int .i64 0, .int .i64 0, .int .i64 0, .int .i64 0, .int .i64 0, .bool false] 37
  simp only [World.size_alloc] at hI hZ
  have HX := Lib.hid (h.below hb0)
  have HB := Lib.hid hb0
  have HA := Lib.hid hA
  have HZ := Lib.hid hZ
  have HC := Lib.hid (idxr_any HX.out hn (fun y => y.k.id == i) 100 #[.pointer (some ⟨w.heap.size + 1, 0, none⟩)] (enters_of Tryz.func100 (by kernel_rfl) rfl) (fun W x hb => (find_pred (Nat.lt_of_lt_of_le hI.lt hb.size) ((hI.below hb).cell 0 rfl) x).mono fun e w' h => ⟨h.1, hb.trans (h.2.mono hb.size)⟩))
  rw [hi] at HC
  obtain ⟨oa, cap, rfl, -, hh⟩ := h
  have hlen : 1 < rs.length := by
    rcases Nat.lt_or_ge 1 rs.length with h | h
    · exact h
    · rw [List.getElem?_eq_none h] at hr; cases hr
  obtain ⟨g, rfl, hg, -, hrr⟩ := hh (fun e => by rw [e] at hlen; simp at hlen)
  have hri : 1 < ((rs.length : Nat) : Int) := by omega
  have HR : Hid (w.rangeAt g 6 (rc r)) := fun jj u hu => by
    have := hrr (1 * 6 + jj) u (chunk_at rc 6 (fun _ => rfl) rs 1 hlen jj u (by rw [getElem!_pos rs 1 hlen, (List.getElem?_eq_some_iff.1 hr).2]; exact hu))
    rwa [Nat.zero_add] at this
  clear hrr hr
  clear hb0 hA hI hZ hi
  go_enter Tryz.func61, Tryz.ntmps61
  go_wp2_with fail
  refine HC.out.mono ?_
  rintro e w1 ⟨rfl, b1⟩
  have hA1 := HA.out.below b1
  have hZ1 := HZ.out.below b1
  have HB1 := Lib.hid (HB.out.trans (b1.mono HB.out.size))
  have cA0 := hA1.cell 0 rfl
  have z0 := hZ1.cell 0 rfl
  have f0 := hZ1.free 0
  have z1 := hZ1.cell 1 rfl
  have f1 := hZ1.free 1
  have z2 := hZ1.cell 2 rfl
  have f2 := hZ1.free 2
  have z3 := hZ1.cell 3 rfl
  have f3 := hZ1.free 3
  have z4 := hZ1.cell 4 rfl
  have f4 := hZ1.free 4
  have z5 := hZ1.cell 5 rfl
  have f5 := hZ1.free 5
  have hR1 := rangeAt_block HR.out ((b1.block g (Nat.lt_of_lt_of_le hg HB.out.size)).trans (HB.out.block g hg))
  have q0 := hR1 0 _ rfl
  have q1 := hR1 1 _ rfl
  have q2 := hR1 2 _ rfl
  have q3 := hR1 3 _ rfl
  have q4 := hR1 4 _ rfl
  have q5 := hR1 5 _ rfl
  simp only [Nat.reduceAdd] at q0 q1 q2 q3 q4 q5
  clear b1 HA HZ HB HC HX
  go_wp2_with fail
  have s0 := Bx.set (w := w1) hZ1 0 (.int .i64 r.k.id) _ rfl
  have s1 := Bx.set (w := _) s0 1 (.int .i64 r.k.c) _ rfl
  have s2 := Bx.set (w := _) s1 2 (.int .i64 r.k.d) _ rfl
  have s3 := Bx.set (w := _) s2 3 (.int .i64 r.k.t) _ rfl
  have s4 := Bx.set (w := _) s3 4 (.int .i64 r.k.m) _ rfl
  have s5 := Bx.set (w := _) s4 5 (.bool r.s) _ rfl
  have e0 := s5.cell 0 rfl
  have e1 := s5.cell 1 rfl
  have e2 := s5.cell 2 rfl
  have e3 := s5.cell 3 rfl
  have e4 := s5.cell 4 rfl
  have e5 := s5.cell 5 rfl
  refine bodyPost_ret (v := .tuple #[.agg #[.int .i64 r.k.id, .int .i64 r.k.c, .int .i64 r.k.d, .int .i64 r.k.t, .int .i64 r.k.m, .bool r.s], .bool true]) (by simp [results, Tryz.results61, go_sem, e0, e1, e2, e3, e4, e5]) rfl ?_
  exact ⟨rfl, (bset (bset (bset (bset (bset (bset HB1.out HB1.out.size (w.heap.size + 1 + 1) 0 (.int .i64 r.k.id) (by omega)) (by simp only [World.size_setCell]; exact HB1.out.size) (w.heap.size + 1 + 1) 1 (.int .i64 r.k.c) (by omega)) (by simp only [World.size_setCell]; exact HB1.out.size) (w.heap.size + 1 + 1) 2 (.int .i64 r.k.d) (by omega)) (by simp only [World.size_setCell]; exact HB1.out.size) (w.heap.size + 1 + 1) 3 (.int .i64 r.k.t) (by omega)) (by simp only [World.size_setCell]; exact HB1.out.size) (w.heap.size + 1 + 1) 4 (.int .i64 r.k.m) (by omega)) (by simp only [World.size_setCell]; exact HB1.out.size) (w.heap.size + 1 + 1) 5 (.bool r.s) (by omega))⟩
end Go.Proofs.YtoichcickcgbgaaGreatDoor
