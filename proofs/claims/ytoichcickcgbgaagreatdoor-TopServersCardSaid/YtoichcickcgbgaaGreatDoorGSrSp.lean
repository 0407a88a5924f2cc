/-
  Slots: reading an empty disk's two slots.
  Slots: writing.
-/
import Derived.Test.YtoichcickcgbgaaGreatDoorGSm
namespace Go.Proofs.YtoichcickcgbgaaGreatDoor
open Go.RowKit Disk
attribute [local go_sem] Oper.semAt_some
structure Rm (w : World) (F : Nat → Prop) (p b n : Nat) (r : Int) (W : World) : Prop where
  a : Bx W w.heap.size 119 [.int .u64 0, .string ⟨#[]⟩]
  c : Bx W (w.heap.size + 1) 119 [.int .u64 0, .string ⟨#[]⟩]
  s : Sb W p b false 0 (-1)
  d : Du W F b n (zs n) [] r
  t : Turn (fun k => F k ∨ k = p) w W
theorem Rm.step {w : World} {F : Nat → Prop} {p b n : Nat} {r r' : Int} {W W' : World} (h : Rm w F p b n r W) (hF : ∀ k, F k → k < w.heap.size) (hp : p < w.heap.size) (s : Sb W' p b false 0 (-1)) (d : Du W' F b n (zs n) [] r') (t : Turn (fun k => F k ∨ k = p) W W') : Rm w F p b n r' W' :=
  ⟨h.a.turn t (fun e => by rcases e with e | e; have := hF _ e; omega; omega), h.c.turn t (fun e => by rcases e with e | e; have := hF _ e; omega; omega), s, d, h.t.then t fun _ _ h => h⟩
theorem Rm.alloc {w : World} {F : Nat → Prop} {p b n : Nat} {r : Int} {W : World} (h : Rm w F p b n r W) (o : Obj) : Rm w F p b n r (W.alloc o) :=
  ⟨h.a.more o, h.c.more o, Bx.more h.s o, h.d.below ((Below.refl _ _).alloc (Nat.le_refl _) _), h.t.alloc o⟩
theorem Rm.by_int {w : World} {F : Nat → Prop} {p b n : Nat} {r r' : Int} {W : World} (h : Rm w F p b n r W) (e : r = r') : Rm w F p b n r' W := e ▸ h
set_option maxRecDepth 100000 in
set_option maxHeartbeats 4000000 in
theorem sl_read {w : World} {F : Nat → Prop} {p b n : Nat} {rd : Bool} {nw ls : Int} {r : Int} (hS : Sb w p b rd nw ls) (hD : Du w F b n (zs n) [] r) (hF : ∀ k, F k → k < w.heap.size ∧ k ≠ p) (hn : 18 ≤ n) (hr : r + 18 ≤ 1000000) :
    Calls Tryz.prog 40 #[.pointer (some ⟨p, 0, none⟩)] w fun e w' => e = .returned (.tuple #[.agg #[.int .u64 0, .string ⟨#[]⟩], .bool false, .int .i64 0]) ∧ Sb w' p b true 0 (-1) ∧ Du w' F b n (zs n) [] (r + 18) ∧ Turn (fun k => F k ∨ k = p) w w' := by
  have hpl := Bx.lt hS
  have HF := Lib.hid hF
  clear hF
  have HD := Lib.hid hD
  clear hD
  have f3 := Bx.free (b := p) hS 3
  have f4 := Bx.free (b := p) hS 4
  have f5 := Bx.free (b := p) hS 5
  have c3 := Bx.cell hS 3 rfl
  have c4 := Bx.cell hS 4 rfl
  have c5 := Bx.cell hS 5 rfl
  have hA : Rm w F p b n r (((((w.setCell ⟨p, 3, none⟩ (.bool false)).setCell ⟨p, 4, none⟩ (.int .u64 0)).setCell ⟨p, 5, none⟩ (.int .i64 (-1))).alloc (.cells #[.int .u64 0, .string ⟨#[]⟩] 119)).alloc (.cells #[.int .u64 0, .string ⟨#[]⟩] 119)) := by
    have t1 : Turn (fun k => k = p) w (((w.setCell ⟨p, 3, none⟩ (.bool false)).setCell ⟨p, 4, none⟩ (.int .u64 0)).setCell ⟨p, 5, none⟩ (.int .i64 (-1))) := ((Turn.set (S := fun k => k = p) w p _ _ rfl).trans (Turn.set (S := fun k => k = p) _ p _ _ rfl)).trans (Turn.set (S := fun k => k = p) _ p _ _ rfl)
    have s1 : Sb (((w.setCell ⟨p, 3, none⟩ (.bool false)).setCell ⟨p, 4, none⟩ (.int .u64 0)).setCell ⟨p, 5, none⟩ (.int .i64 (-1))) p b false 0 (-1) := Bx.set (Bx.set (Bx.set hS 3 _ _ rfl) 4 _ _ rfl) 5 _ _ rfl
    have hs : (((w.setCell ⟨p, 3, none⟩ (.bool false)).setCell ⟨p, 4, none⟩ (.int .u64 0)).setCell ⟨p, 5, none⟩ (.int .i64 (-1))).heap.size = w.heap.size := by simp [World.setCell]
    have e1 := Bx.new (((w.setCell ⟨p, 3, none⟩ (.bool false)).setCell ⟨p, 4, none⟩ (.int .u64 0)).setCell ⟨p, 5, none⟩ (.int .i64 (-1))) [.int .u64 0, .string ⟨#[]⟩] 119
    have e2 := Bx.new ((((w.setCell ⟨p, 3, none⟩ (.bool false)).setCell ⟨p, 4, none⟩ (.int .u64 0)).setCell ⟨p, 5, none⟩ (.int .i64 (-1))).alloc (.cells #[.int .u64 0, .string ⟨#[]⟩] 119)) [.int .u64 0, .string ⟨#[]⟩] 119
    rw [hs] at e1
    rw [World.size_alloc, hs] at e2
    exact ⟨e1.more _, e2, Bx.more (Bx.more s1 _) _, (HD.out.turn t1 (fun k _ h => (HF.out k h).2)).below (((Below.refl _ _).alloc (Nat.le_refl _) _).alloc (by simp) _), ((t1.wide fun _ _ h => .inr h).alloc _).alloc _⟩
  have HA := Lib.hid hA
  clear hA HD hS
  go_enter Tryz.func40, Tryz.ntmps40
  go_wp2_with fail
  clear f3 f4 f5 c3 c4 c5
  generalize ((((w.setCell ⟨p, 3, none⟩ (.bool false)).setCell ⟨p, 4, none⟩ (.int .u64 0)).setCell ⟨p, 5, none⟩ (.int .i64 (-1))).alloc (.cells #[.int .u64 0, .string ⟨#[]⟩] 119)).alloc (.cells #[.int .u64 0, .string ⟨#[]⟩] 119) = wA at *
  refine wp_loop_rounds 3 ?_
  rw [rounds_succ]
  go_wp2_with fail
  refine (slot_0 (w := wA) HA.out.s HA.out.d (fun k h => ⟨Nat.lt_of_lt_of_le (HF.out k h).1 HA.out.t.size, (HF.out k h).2⟩) hn (by omega)).mono ?_
  rintro e w1 ⟨rfl, s1, d1, t1⟩
  have HB : Hid (Rm w F p b n (r + 9) (w1.alloc (.cells #[.int .u64 0, .string ⟨#[]⟩] 119))) := (HA.out.step (fun k h => (HF.out k h).1) hpl s1 d1 t1).alloc _
  clear s1 d1 t1 HA wA
  go_wp2_with fail
  generalize w1.alloc (.cells #[.int .u64 0, .string ⟨#[]⟩] 119) = wB at *
  rw [rounds_succ]
  go_wp2_with fail
  refine (slot_1 (w := wB) HB.out.s HB.out.d (fun k h => ⟨Nat.lt_of_lt_of_le (HF.out k h).1 HB.out.t.size, (HF.out k h).2⟩) hn (by omega)).mono ?_
  rintro e w2 ⟨rfl, s1, d1, t1⟩
  have HC : Hid (Rm w F p b n (r + 18) (w2.alloc (.cells #[.int .u64 0, .string ⟨#[]⟩] 119))) := ((HB.out.step (fun k h => (HF.out k h).1) hpl s1 d1 t1).alloc _).by_int (by omega)
  clear s1 d1 t1 HB wB
  go_wp2_with fail
  rw [rounds_succ]
  generalize w2.alloc (.cells #[.int .u64 0, .string ⟨#[]⟩] 119) = wC at *
  have c3 := Bx.cell HC.out.s 3 rfl
  have c5 := Bx.cell HC.out.s 5 rfl
  have f3 := Bx.free (b := p) HC.out.s 3
  have f5 := Bx.free (b := p) HC.out.s 5
  go_wp2_with fail
  clear c3 c5 f3 f5
  have tD : Turn (fun k => k = p) wC ((wC.setCell ⟨p, 3, none⟩ (.bool true)).setCell ⟨p, 5, none⟩ (.int .i64 (-1))) := (Turn.set (S := fun k => k = p) wC p _ _ rfl).trans (Turn.set (S := fun k => k = p) _ p _ _ rfl)
  have hsz : ((wC.setCell ⟨p, 3, none⟩ (.bool true)).setCell ⟨p, 5, none⟩ (.int .i64 (-1))).heap.size = wC.heap.size := by simp [World.setCell]
  have e1 := Bx.new ((wC.setCell ⟨p, 3, none⟩ (.bool true)).setCell ⟨p, 5, none⟩ (.int .i64 (-1))) [.int .u64 0, .string ⟨#[]⟩] 119
  rw [hsz] at e1
  have sD : Hid (Sb (((wC.setCell ⟨p, 3, none⟩ (.bool true)).setCell ⟨p, 5, none⟩ (.int .i64 (-1))).alloc (.cells #[.int .u64 0, .string ⟨#[]⟩] 119)) p b true 0 (-1)) := Bx.more (Bx.set (Bx.set HC.out.s 3 _ _ rfl) 5 _ _ rfl) _
  have aD : Hid (Bx (((wC.setCell ⟨p, 3, none⟩ (.bool true)).setCell ⟨p, 5, none⟩ (.int .i64 (-1))).alloc (.cells #[.int .u64 0, .string ⟨#[]⟩] 119)) w.heap.size 119 [.int .u64 0, .string ⟨#[]⟩]) := (HC.out.a.turn tD (by omega)).more _
  have bD : Hid (Bx (((wC.setCell ⟨p, 3, none⟩ (.bool true)).setCell ⟨p, 5, none⟩ (.int .i64 (-1))).alloc (.cells #[.int .u64 0, .string ⟨#[]⟩] 119)) (w.heap.size + 1) 119 [.int .u64 0, .string ⟨#[]⟩]) := (HC.out.c.turn tD (by omega)).more _
  have dD : Hid (Du (((wC.setCell ⟨p, 3, none⟩ (.bool true)).setCell ⟨p, 5, none⟩ (.int .i64 (-1))).alloc (.cells #[.int .u64 0, .string ⟨#[]⟩] 119)) F b n (zs n) [] (r + 18)) := (HC.out.d.turn tD (fun k _ h => (HF.out k h).2)).below ((Below.refl _ _).alloc (Nat.le_refl _) _)
  have ttD : Hid (Turn (fun k => F k ∨ k = p) w (((wC.setCell ⟨p, 3, none⟩ (.bool true)).setCell ⟨p, 5, none⟩ (.int .i64 (-1))).alloc (.cells #[.int .u64 0, .string ⟨#[]⟩] 119))) := (HC.out.t.then tD (fun _ _ h => .inr h)).alloc _
  generalize ((wC.setCell ⟨p, 3, none⟩ (.bool true)).setCell ⟨p, 5, none⟩ (.int .i64 (-1))).alloc (.cells #[.int .u64 0, .string ⟨#[]⟩] 119) = wD at *
  clear hsz tD
  have g0 := aD.out.cell 0 rfl
  have g1 := aD.out.cell 1 rfl
  have g2 := aD.out.free 0
  have g3 := aD.out.free 1
  have g4 := bD.out.cell 0 rfl
  have g5 := bD.out.cell 1 rfl
  have g6 := e1.cell 0 rfl
  have g7 := e1.cell 1 rfl
  clear e1
  have n1 := HC.out.t.size
  have n2 : w.heap.size ≠ wC.heap.size := by have := HC.out.c.lt; omega
  have n3 : w.heap.size + 1 ≠ wC.heap.size := by have := HC.out.c.lt; omega
  go_region
  go_wp2_with fail
  have hT : Turn (fun k => k = w.heap.size) wD ((wD.setCell ⟨w.heap.size, 0, none⟩ (.int .u64 0)).setCell ⟨w.heap.size, 1, none⟩ (.string ⟨#[]⟩)).drew := ((Turn.set (S := fun k => k = w.heap.size) wD w.heap.size _ _ rfl).trans (Turn.set (S := fun k => k = w.heap.size) _ w.heap.size _ _ rfl)).drew
  have hY : Bx ((wD.setCell ⟨w.heap.size, 0, none⟩ (.int .u64 0)).setCell ⟨w.heap.size, 1, none⟩ (.string ⟨#[]⟩)).drew w.heap.size 119 [.int .u64 0, .string ⟨#[]⟩] := Bx.set (Bx.set aD.out 0 _ _ rfl) 1 _ _ rfl
  have e0 := hY.cell 0 rfl
  have e1 := hY.cell 1 rfl
  refine bodyPost_ret (v := .tuple #[.agg #[.int .u64 0, .string ⟨#[]⟩], .bool false, .int .i64 0]) (by simp [results, Tryz.results40, go_sem, e0, e1]) rfl ⟨rfl, Bx.turn sD.out hT (by omega), dD.out.turn hT (fun k _ hk e => by have := (HF.out k hk).1; omega), ttD.out.then hT (fun k hk e => by omega)⟩
end Go.Proofs.YtoichcickcgbgaaGreatDoor
namespace Go.Proofs.YtoichcickcgbgaaGreatDoor
open Go.RowKit Disk
attribute [local go_sem] Oper.semAt_some
theorem Upb.mono {F : Nat → Prop} {w a b : World} (h : a.heap.size ≤ b.heap.size) (k : Nat) (hk : Upb F w a k) : Upb F w b k := hk.imp id fun h' => ⟨h'.1, Nat.lt_of_lt_of_le h'.2 h⟩
def Sq2 (p b : Nat) (x : World) : Prop := x.cell? ⟨p, 0, none⟩ = some (.pointer (some ⟨b, 0, none⟩)) ∧ x.cell? ⟨p, 1, none⟩ = some (.int .i64 0) ∧ x.cell? ⟨p, 2, none⟩ = some (.int .i64 9)
theorem write_at {w : World} {F : Nat → Prop} {b n : Nat} {S : List (List UInt8)} {O : List (Nat × List UInt8)} {r : Int} (h : Du w F b n S O r) (k : Nat) (hk : k < n) (x : ByteArray) (hx : x.size = 64) (hO : O.length < 1000) (v : Int) (hv : (k : Int) = v) :
    Calls Tryz.prog 112 #[.pointer (some ⟨b, 0, none⟩), .int .i64 v, .string x] w fun e w' => e = .returned (.int .i64 0) ∧ Du w' (Upb F w w') b n S (O ++ [(k, x.data.toList)]) r ∧ Turn F w w' := by
  subst hv
  exact du_write h k hk x hx hO
/-- While a slot is written. -/
structure Pm (w w1 : World) (F : Nat → Prop) (p b n : Nat) (nw ls r : Int) (g : Nat) (x : ByteArray) (j : Nat) (W : World) : Prop where
  fs : Sb W p b false nw ls
  fd : ∃ O : List (Nat × List UInt8), O.length = j ∧ Du W (Upb F w1 W) b n (zs n) O r
  fg : W.cell? ⟨g, 0, none⟩ = some (.string x)
  fl : g < W.heap.size
  ft : Turn F w W
  fw : w1.heap.size ≤ W.heap.size
theorem Pm.below {w w1 : World} {F : Nat → Prop} {p b n : Nat} {nw ls r : Int} {g : Nat} {x : ByteArray} {j : Nat} {W W' : World} (h : Pm w w1 F p b n nw ls r g x j W) (hb : Below W.heap.size W W') : Pm w w1 F p b n nw ls r g x j W' :=
  ⟨Bx.below h.fs hb, by obtain ⟨O, h1, h2⟩ := h.fd; exact ⟨O, h1, (h2.below hb).mono fun k _ hk => hk.mono hb.size⟩, (World.cell?_of_block (hb.block g h.fl)).trans h.fg, Nat.lt_of_lt_of_le h.fl hb.size, h.ft.then (Turn.below (S := fun _ => False) hb) fun _ _ h => h.elim, Nat.le_trans h.fw hb.size⟩
set_option maxRecDepth 100000 in
set_option maxHeartbeats 4000000 in
theorem sl_puts {w : World} {F : Nat → Prop} {p b n : Nat} {nw ls : Int} {r : Int} (hS : Sb w p b false nw ls) (hD : Du w F b n (zs n) [] r) (hF : ∀ k, F k → k < w.heap.size ∧ k ≠ p) (hn : 18 ≤ n) (i : Int) (hi : i = 0 ∨ i = 1) (d : ByteArray) (hd : d.size ≤ 43) :
    Calls Tryz.prog 75 #[.pointer (some ⟨p, 0, none⟩), .int .i64 i, .string d] w fun e w' => e = .returned (.int .i64 0) ∧ Sb w' p b false nw ls ∧ (∃ S, Du w' (Upb F w w') b n S [] r) ∧ Turn F w w' := by
  have hpl := Bx.lt hS
  have HF := Lib.hid hF
  have HD := Lib.hid hD
  have HS := Lib.hid hS
  clear hF hD hS
  go_enter Tryz.func75, Tryz.ntmps75
  go_wp2_with fail
  refine (chunks_one d hd _).mono ?_
  rintro e w1 ⟨g, cp, rfl, hg, hgl, hgw, hb1⟩
  have hg1 := hgl
  have hw1 := hb1.size
  have hgp : g ≠ p := by omega
  have HM : Hid (Pm w w1 F p b n nw ls r g d 0 w1) := ⟨Bx.below HS.out hb1, ⟨[], rfl, (HD.out.below hb1).mono fun k _ h => .inl h⟩, hg, hgl, Turn.below hb1, Nat.le_refl _⟩
  clear hb1 hg HS HD hgl
  have c2 := Bx.cell HM.out.fs 2 rfl
  go_wp2_with fail
  clear c2
  go_loopw [19] (fun v wr => ∃ j : Nat, j ≤ 9 ∧ v = .int .i64 j ∧ Hid (Pm w w1 F p b n nw ls r g d j wr)) (fun v _ => 9 - (intOf v).toNat)
  case atStart => exact ⟨0, by omega, rfl, HM⟩
  case round =>
    obtain ⟨j, hj, rfl, hM⟩ := hrel
    clear HM
    by_cases hlt : j < 9
    · have hdj : decide ((j : Int) < 9) = true := by simp; omega
      have c4 := Bx.cell hM.out.fs 4 rfl
      have cg := hM.out.fg
      have hgl := hM.out.fl
      by_cases h0 : j = 0
      · subst h0
        have hng : g ≠ wr.heap.size := by omega
        go_wp2_with fail
        refine (make_any d nw 0 hd _).mono ?_
        rintro e w2 ⟨⟨s, hs, rfl⟩, hb2⟩
        have HM2 : Hid (Pm w w1 F p b n nw ls r g d ((0 : Nat)) w2) := hM.out.below (((Below.refl wr.heap.size wr).alloc (Nat.le_refl _) _).trans (hb2.mono (by simp)))
        clear hb2 hM c4 cg
        go_wp2_with fail
        refine wp_region_held_drew (S := Sq2 p b) (by kernel_rfl) (⟨Bx.cell HM2.out.fs 0 rfl, Bx.cell HM2.out.fs 1 rfl, Bx.cell HM2.out.fs 2 rfl⟩) (fun hHeld => ?_)
        refine wtk 0 43 (.pointer (some ⟨p, 0, none⟩)) rfl (by kernel_rfl) (fun _ _ _ h => h) (by rfl) (fun x hSw => by obtain ⟨d1, d2, d3⟩ := id hSw; (go_simp) <;> first | decide | exact IntWalk.i64_in _ (by omega)) (by assumption) ?_
        try simp only [Act.put, pw]
        refine wtk 1 44 (.pointer (some ⟨p, 0, none⟩)) rfl (by kernel_rfl) (fun _ _ _ h => h) (by rfl) (fun x hSw => by obtain ⟨d1, d2, d3⟩ := id hSw; (go_simp) <;> first | decide | exact IntWalk.i64_in _ (by omega)) (by assumption) ?_
        try simp only [Act.put, pw]
        refine wtk 2 45 (.pointer (some ⟨p, 0, none⟩)) rfl (by kernel_rfl) (fun _ _ _ h => h) (by rfl) (fun x hSw => by obtain ⟨d1, d2, d3⟩ := id hSw; (go_simp) <;> first | decide | exact IntWalk.i64_in _ (by omega)) (by assumption) ?_
        try simp only [Act.put, pw]
        refine wtk 3 46 (.pointer (some ⟨b, 0, none⟩)) rfl (by kernel_rfl) (fun _ _ _ h => h) (by rfl) (fun x hSw => by obtain ⟨d1, d2, d3⟩ := id hSw; (go_simp) <;> first | decide | exact IntWalk.i64_in _ (by omega)) (by assumption) ?_
        try simp only [Act.put, pw]
        refine wtk 4 47 (.pointer (some ⟨p, 0, none⟩)) rfl (by kernel_rfl) (fun _ _ _ h => h) (by rfl) (fun x hSw => by obtain ⟨d1, d2, d3⟩ := id hSw; (go_simp) <;> first | decide | exact IntWalk.i64_in _ (by omega)) (by assumption) ?_
        try simp only [Act.put, pw]
        refine wtk 5 48 (.pointer (some ⟨p, 0, none⟩)) rfl (by kernel_rfl) (fun _ _ _ h => h) (by rfl) (fun x hSw => by obtain ⟨d1, d2, d3⟩ := id hSw; (go_simp) <;> first | decide | exact IntWalk.i64_in _ (by omega)) (by assumption) ?_
        try simp only [Act.put, pw]
        refine wtk 6 49 (.pointer (some ⟨p, 1, none⟩)) rfl (by kernel_rfl) (fun _ _ _ h => h) (by rfl) (fun x hSw => by obtain ⟨d1, d2, d3⟩ := id hSw; (go_simp) <;> first | decide | exact IntWalk.i64_in _ (by omega)) (by assumption) ?_
        try simp only [Act.put, pw]
        refine wtk 7 50 (.int .i64 0) rfl (by kernel_rfl) (fun _ _ _ h => h) (by rfl) (fun x hSw => by obtain ⟨d1, d2, d3⟩ := id hSw; (go_simp) <;> first | decide | exact IntWalk.i64_in _ (by omega)) (by assumption) ?_
        try simp only [Act.put, pw]
        refine wtk 8 51 (.int .i64 i) rfl (by kernel_rfl) (fun _ _ _ h => h) (by rfl) (fun x hSw => by obtain ⟨d1, d2, d3⟩ := id hSw; (go_simp) <;> first | decide | exact IntWalk.i64_in _ (by omega)) (by assumption) ?_
        try simp only [Act.put, pw]
        refine wtk 9 52 (.pointer (some ⟨p, 0, none⟩)) rfl (by kernel_rfl) (fun _ _ _ h => h) (by rfl) (fun x hSw => by obtain ⟨d1, d2, d3⟩ := id hSw; (go_simp) <;> first | decide | exact IntWalk.i64_in _ (by omega)) (by assumption) ?_
        try simp only [Act.put, pw]
        refine wtk 10 53 (.pointer (some ⟨p, 0, none⟩)) rfl (by kernel_rfl) (fun _ _ _ h => h) (by rfl) (fun x hSw => by obtain ⟨d1, d2, d3⟩ := id hSw; (go_simp) <;> first | decide | exact IntWalk.i64_in _ (by omega)) (by assumption) ?_
        try simp only [Act.put, pw]
        refine wtk 11 54 (.pointer (some ⟨p, 2, none⟩)) rfl (by kernel_rfl) (fun _ _ _ h => h) (by rfl) (fun x hSw => by obtain ⟨d1, d2, d3⟩ := id hSw; (go_simp) <;> first | decide | exact IntWalk.i64_in _ (by omega)) (by assumption) ?_
        try simp only [Act.put, pw]
        refine wtk 12 55 (.int .i64 9) rfl (by kernel_rfl) (fun _ _ _ h => h) (by rfl) (fun x hSw => by obtain ⟨d1, d2, d3⟩ := id hSw; (go_simp) <;> first | decide | exact IntWalk.i64_in _ (by omega)) (by assumption) ?_
        try simp only [Act.put, pw]
        refine wtk 13 56 (.int .i64 (i * 9)) rfl (by kernel_rfl) (fun _ _ _ h => h) (by rfl) (fun x hSw => by obtain ⟨d1, d2, d3⟩ := id hSw; (go_simp) <;> first | decide | exact IntWalk.i64_in _ (by omega)) (by assumption) ?_
        try simp only [Act.put, pw]
        refine wtk 14 57 (.int .i64 (i * 9)) rfl (by kernel_rfl) (fun _ _ _ h => h) (by rfl) (fun x hSw => by obtain ⟨d1, d2, d3⟩ := id hSw; (go_simp) <;> first | decide | exact IntWalk.i64_in _ (by omega)) (by assumption) ?_
        try simp only [Act.put, pw]
        refine wtk 15 58 (.int .i64 0) rfl (by kernel_rfl) (fun _ _ _ h => h) (by rfl) (fun x hSw => by obtain ⟨d1, d2, d3⟩ := id hSw; (go_simp) <;> first | decide | exact IntWalk.i64_in _ (by omega)) (by assumption) ?_
        try simp only [Act.put, pw]
        refine wtk 16 59 (.int .i64 (i * 9)) rfl (by kernel_rfl) (fun _ _ _ h => h) (by rfl) (fun x hSw => by obtain ⟨d1, d2, d3⟩ := id hSw; (go_simp) <;> first | decide | exact IntWalk.i64_in _ (by omega)) (by assumption) ?_
        try simp only [Act.put, pw]
        refine wtk 17 60 (.string s) rfl (by kernel_rfl) (fun _ _ _ h => h) (by rfl) (fun x hSw => by obtain ⟨d1, d2, d3⟩ := id hSw; (go_simp) <;> first | decide | exact IntWalk.i64_in _ (by omega)) (by assumption) ?_
        try simp only [Act.put, pw]
        refine wpAnyH_ready (rs := [18]) (by kernel_rfl) (by simp) (AllReadyH.cons rfl (fun K hK => ?_) AllReadyH.nil)
        go_simp
        obtain ⟨O, hO, hD2⟩ := HM2.out.fd
        refine (write_at (w := w2.drew) (hD2.keep (w' := w2.drew) fun _ _ _ => rfl) (i * 9).toNat (by omega) s hs (by omega) _ (by omega)).mono ?_
        rintro e w3 ⟨rfl, hD3, hT3⟩
        have hw2 : w1.heap.size ≤ w2.heap.size := HM2.out.fw
        have hT3 : Turn (Upb F w1 w2) w2 w3 := ⟨hT3.os, hT3.tape, hT3.output, hT3.size, hT3.block⟩
        have hsz3 : w2.heap.size ≤ w3.heap.size := hT3.size
        have hUF : ∀ k, Upb F w1 w2 k → k ≠ p ∧ k ≠ g := fun k hk => by
          rcases hk with hk | hk
          · exact ⟨(HF.out k hk).2, by have := (HF.out k hk).1; omega⟩
          · exact ⟨by omega, by omega⟩
        have HM3 : Hid (Pm w w1 F p b n nw ls r g d (0 + 1) w3) := ⟨Bx.turn HM2.out.fs hT3 (fun h => (hUF p h).1 rfl), ⟨_, by rw [List.length_append, hO]; rfl, hD3.mono fun k _ hk => by
            rcases hk with hk | hk
            · exact hk.mono hsz3
            · exact .inr ⟨by have h1 : w2.heap.size ≤ k := hk.1; omega, hk.2⟩⟩, (World.cell?_of_block (hT3.block g HM2.out.fl (fun h => (hUF g h).2 rfl))).trans HM2.out.fg, Nat.lt_of_lt_of_le HM2.out.fl hsz3, HM2.out.ft.then hT3 fun k hk h => by
            rcases h with h | h
            · exact h
            · omega, Nat.le_trans hw2 hsz3⟩
        refine hK.out _ _ ⟨Bx.cell HM3.out.fs 0 rfl, Bx.cell HM3.out.fs 1 rfl, Bx.cell HM3.out.fs 2 rfl⟩ (fun hHeld => ?_)
        clear hK K HM2 hD2 hD3 hT3 hUF
        try simp only [Act.put, pw]
        refine wtk 19 12 (.int .i64 0) rfl (by kernel_rfl) (fun _ _ _ h => h) (by rfl) (fun x hSw => by go_simp) (by assumption) ?_
        try simp only [Act.put, pw]
        refine wpAnyH_done (by kernel_rfl) ?_ _
        go_wp2_with fail
        go_roundw
        case rel => exact ⟨0 + 1, by omega, by go_num, HM3⟩
        case measure => simp [intOf] <;> omega
      · have hd1 : decide ((j : Int) < 1) = false := by simp; omega
        have hd2 : ¬ ((j : Int) < 1) := by omega
        go_wp2_with fail
        refine (make_any ⟨#[]⟩ nw j (by decide) _).mono ?_
        rintro e w2 ⟨⟨s, hs, rfl⟩, hb2⟩
        have HM2 : Hid (Pm w w1 F p b n nw ls r g d j w2) := hM.out.below (((Below.refl wr.heap.size wr).alloc (Nat.le_refl _) _).trans (hb2.mono (by simp)))
        clear hb2 hM c4 cg
        go_wp2_with fail
        refine wp_region_held_drew (S := Sq2 p b) (by kernel_rfl) (⟨Bx.cell HM2.out.fs 0 rfl, Bx.cell HM2.out.fs 1 rfl, Bx.cell HM2.out.fs 2 rfl⟩) (fun hHeld => ?_)
        refine wtk 0 43 (.pointer (some ⟨p, 0, none⟩)) rfl (by kernel_rfl) (fun _ _ _ h => h) (by rfl) (fun x hSw => by obtain ⟨d1, d2, d3⟩ := id hSw; (go_simp) <;> first | decide | exact IntWalk.i64_in _ (by omega)) (by assumption) ?_
        try simp only [Act.put, pw]
        refine wtk 1 44 (.pointer (some ⟨p, 0, none⟩)) rfl (by kernel_rfl) (fun _ _ _ h => h) (by rfl) (fun x hSw => by obtain ⟨d1, d2, d3⟩ := id hSw; (go_simp) <;> first | decide | exact IntWalk.i64_in _ (by omega)) (by assumption) ?_
        try simp only [Act.put, pw]
        refine wtk 2 45 (.pointer (some ⟨p, 0, none⟩)) rfl (by kernel_rfl) (fun _ _ _ h => h) (by rfl) (fun x hSw => by obtain ⟨d1, d2, d3⟩ := id hSw; (go_simp) <;> first | decide | exact IntWalk.i64_in _ (by omega)) (by assumption) ?_
        try simp only [Act.put, pw]
        refine wtk 3 46 (.pointer (some ⟨b, 0, none⟩)) rfl (by kernel_rfl) (fun _ _ _ h => h) (by rfl) (fun x hSw => by obtain ⟨d1, d2, d3⟩ := id hSw; (go_simp) <;> first | decide | exact IntWalk.i64_in _ (by omega)) (by assumption) ?_
        try simp only [Act.put, pw]
        refine wtk 4 47 (.pointer (some ⟨p, 0, none⟩)) rfl (by kernel_rfl) (fun _ _ _ h => h) (by rfl) (fun x hSw => by obtain ⟨d1, d2, d3⟩ := id hSw; (go_simp) <;> first | decide | exact IntWalk.i64_in _ (by omega)) (by assumption) ?_
        try simp only [Act.put, pw]
        refine wtk 5 48 (.pointer (some ⟨p, 0, none⟩)) rfl (by kernel_rfl) (fun _ _ _ h => h) (by rfl) (fun x hSw => by obtain ⟨d1, d2, d3⟩ := id hSw; (go_simp) <;> first | decide | exact IntWalk.i64_in _ (by omega)) (by assumption) ?_
        try simp only [Act.put, pw]
        refine wtk 6 49 (.pointer (some ⟨p, 1, none⟩)) rfl (by kernel_rfl) (fun _ _ _ h => h) (by rfl) (fun x hSw => by obtain ⟨d1, d2, d3⟩ := id hSw; (go_simp) <;> first | decide | exact IntWalk.i64_in _ (by omega)) (by assumption) ?_
        try simp only [Act.put, pw]
        refine wtk 7 50 (.int .i64 0) rfl (by kernel_rfl) (fun _ _ _ h => h) (by rfl) (fun x hSw => by obtain ⟨d1, d2, d3⟩ := id hSw; (go_simp) <;> first | decide | exact IntWalk.i64_in _ (by omega)) (by assumption) ?_
        try simp only [Act.put, pw]
        refine wtk 8 51 (.int .i64 i) rfl (by kernel_rfl) (fun _ _ _ h => h) (by rfl) (fun x hSw => by obtain ⟨d1, d2, d3⟩ := id hSw; (go_simp) <;> first | decide | exact IntWalk.i64_in _ (by omega)) (by assumption) ?_
        try simp only [Act.put, pw]
        refine wtk 9 52 (.pointer (some ⟨p, 0, none⟩)) rfl (by kernel_rfl) (fun _ _ _ h => h) (by rfl) (fun x hSw => by obtain ⟨d1, d2, d3⟩ := id hSw; (go_simp) <;> first | decide | exact IntWalk.i64_in _ (by omega)) (by assumption) ?_
        try simp only [Act.put, pw]
        refine wtk 10 53 (.pointer (some ⟨p, 0, none⟩)) rfl (by kernel_rfl) (fun _ _ _ h => h) (by rfl) (fun x hSw => by obtain ⟨d1, d2, d3⟩ := id hSw; (go_simp) <;> first | decide | exact IntWalk.i64_in _ (by omega)) (by assumption) ?_
        try simp only [Act.put, pw]
        refine wtk 11 54 (.pointer (some ⟨p, 2, none⟩)) rfl (by kernel_rfl) (fun _ _ _ h => h) (by rfl) (fun x hSw => by obtain ⟨d1, d2, d3⟩ := id hSw; (go_simp) <;> first | decide | exact IntWalk.i64_in _ (by omega)) (by assumption) ?_
        try simp only [Act.put, pw]
        refine wtk 12 55 (.int .i64 9) rfl (by kernel_rfl) (fun _ _ _ h => h) (by rfl) (fun x hSw => by obtain ⟨d1, d2, d3⟩ := id hSw; (go_simp) <;> first | decide | exact IntWalk.i64_in _ (by omega)) (by assumption) ?_
        try simp only [Act.put, pw]
        refine wtk 13 56 (.int .i64 (i * 9)) rfl (by kernel_rfl) (fun _ _ _ h => h) (by rfl) (fun x hSw => by obtain ⟨d1, d2, d3⟩ := id hSw; (go_simp) <;> first | decide | exact IntWalk.i64_in _ (by omega)) (by assumption) ?_
        try simp only [Act.put, pw]
        refine wtk 14 57 (.int .i64 (i * 9)) rfl (by kernel_rfl) (fun _ _ _ h => h) (by rfl) (fun x hSw => by obtain ⟨d1, d2, d3⟩ := id hSw; (go_simp) <;> first | decide | exact IntWalk.i64_in _ (by omega)) (by assumption) ?_
        try simp only [Act.put, pw]
        refine wtk 15 58 (.int .i64 (j : Int)) rfl (by kernel_rfl) (fun _ _ _ h => h) (by rfl) (fun x hSw => by obtain ⟨d1, d2, d3⟩ := id hSw; (go_simp) <;> first | decide | exact IntWalk.i64_in _ (by omega)) (by assumption) ?_
        try simp only [Act.put, pw]
        refine wtk 16 59 (.int .i64 (i * 9 + (j : Int))) rfl (by kernel_rfl) (fun _ _ _ h => h) (by rfl) (fun x hSw => by obtain ⟨d1, d2, d3⟩ := id hSw; (go_simp) <;> first | decide | exact IntWalk.i64_in _ (by omega)) (by assumption) ?_
        try simp only [Act.put, pw]
        refine wtk 17 60 (.string s) rfl (by kernel_rfl) (fun _ _ _ h => h) (by rfl) (fun x hSw => by obtain ⟨d1, d2, d3⟩ := id hSw; (go_simp) <;> first | decide | exact IntWalk.i64_in _ (by omega)) (by assumption) ?_
        try simp only [Act.put, pw]
        refine wpAnyH_ready (rs := [18]) (by kernel_rfl) (by simp) (AllReadyH.cons rfl (fun K hK => ?_) AllReadyH.nil)
        go_simp
        obtain ⟨O, hO, hD2⟩ := HM2.out.fd
        refine (write_at (w := w2.drew) (hD2.keep (w' := w2.drew) fun _ _ _ => rfl) (i * 9 + j).toNat (by omega) s hs (by omega) _ (by omega)).mono ?_
        rintro e w3 ⟨rfl, hD3, hT3⟩
        have hw2 : w1.heap.size ≤ w2.heap.size := HM2.out.fw
        have hT3 : Turn (Upb F w1 w2) w2 w3 := ⟨hT3.os, hT3.tape, hT3.output, hT3.size, hT3.block⟩
        have hsz3 : w2.heap.size ≤ w3.heap.size := hT3.size
        have hUF : ∀ k, Upb F w1 w2 k → k ≠ p ∧ k ≠ g := fun k hk => by
          rcases hk with hk | hk
          · exact ⟨(HF.out k hk).2, by have := (HF.out k hk).1; omega⟩
          · exact ⟨by omega, by omega⟩
        have HM3 : Hid (Pm w w1 F p b n nw ls r g d (j + 1) w3) := ⟨Bx.turn HM2.out.fs hT3 (fun h => (hUF p h).1 rfl), ⟨_, by rw [List.length_append, hO]; rfl, hD3.mono fun k _ hk => by
            rcases hk with hk | hk
            · exact hk.mono hsz3
            · exact .inr ⟨by have h1 : w2.heap.size ≤ k := hk.1; omega, hk.2⟩⟩, (World.cell?_of_block (hT3.block g HM2.out.fl (fun h => (hUF g h).2 rfl))).trans HM2.out.fg, Nat.lt_of_lt_of_le HM2.out.fl hsz3, HM2.out.ft.then hT3 fun k hk h => by
            rcases h with h | h
            · exact h
            · omega, Nat.le_trans hw2 hsz3⟩
        refine hK.out _ _ ⟨Bx.cell HM3.out.fs 0 rfl, Bx.cell HM3.out.fs 1 rfl, Bx.cell HM3.out.fs 2 rfl⟩ (fun hHeld => ?_)
        clear hK K HM2 hD2 hD3 hT3 hUF
        try simp only [Act.put, pw]
        refine wtk 19 12 (.int .i64 0) rfl (by kernel_rfl) (fun _ _ _ h => h) (by rfl) (fun x hSw => by go_simp) (by assumption) ?_
        try simp only [Act.put, pw]
        refine wpAnyH_done (by kernel_rfl) ?_ _
        go_wp2_with fail
        go_roundw
        case rel => exact ⟨j + 1, by omega, by go_num, HM3⟩
        case measure => simp [intOf] <;> omega
    · obtain rfl : j = 9 := by omega
      have c0 := Bx.cell hM.out.fs 0 rfl
      go_wp2_with fail
      obtain ⟨O, hO, hDf⟩ := hM.out.fd
      refine (du_flush hDf).mono ?_
      rintro e w5 ⟨rfl, ⟨S, h5⟩, t5⟩
      have hsz := t5.size
      go_wp2_with fail
      go_ret
      have hw := hM.out.fw
      refine ⟨rfl, Bx.turn hM.out.fs t5 ?_, ⟨S, h5.mono fun k _ hk => ?_⟩, hM.out.ft.then t5 fun k hk h => ?_⟩
      · rintro (h | h)
        · exact (HF.out p h).2 rfl
        · omega
      · rcases hk with hk | hk
        · exact .inl hk
        · exact .inr ⟨by omega, by omega⟩
      · rcases h with h | h
        · exact h
        · omega
set_option maxRecDepth 100000 in
set_option maxHeartbeats 4000000 in
/-- The first snapshot goes to slot 0, its epoch is 1. -/
theorem sl_write {w : World} {F : Nat → Prop} {p b n : Nat} {r : Int} (hS : Sb w p b true 0 (-1)) (hD : Du w F b n (zs n) [] r) (hF : ∀ k, F k → k < w.heap.size ∧ k ≠ p) (hn : 18 ≤ n) (d : ByteArray) (hd : d.size ≤ 43) :
    Calls Tryz.prog 41 #[.pointer (some ⟨p, 0, none⟩), .string d] w fun e w' => e = .returned (.tuple #[.int .u64 1, .int .i64 0]) ∧ Sb w' p b true 1 0 ∧ (∃ S, Du w' (Upb F w w') b n S [] r) ∧ Turn (fun k => F k ∨ k = p) w w' := by
  have hpl := Bx.lt hS
  have HF := Lib.hid hF
  have HD := Lib.hid hD
  have c3 := Bx.cell hS 3 rfl
  have c4 := Bx.cell hS 4 rfl
  have c5 := Bx.cell hS 5 rfl
  have f3 := Bx.free (b := p) hS 3
  have f4 := Bx.free (b := p) hS 4
  have f5 := Bx.free (b := p) hS 5
  have HS := Lib.hid hS
  clear hF hD hS
  have h387 : decide ((d.size : Int) > 387) = false := by simp; omega
  have h387' : ¬ ((387 : Int) < (d.size : Int)) := by omega
  go_enter Tryz.func41, Tryz.ntmps41
  go_wp2_with fail
  refine (room_any HS.out).mono ?_
  rintro e w1 ⟨rfl, rfl⟩
  go_wp2_with fail
  clear c3 c4 c5 f3 f4 f5
  have hs2 : Hid (Sb ((w.setCell ⟨p, 4, none⟩ (.int .u64 1)).setCell ⟨p, 3, none⟩ (.bool false)) p b false 1 (-1)) := Bx.set (Bx.set HS.out 4 _ _ rfl) 3 _ _ rfl
  have ht2 : Hid (Turn (fun k => k = p) w ((w.setCell ⟨p, 4, none⟩ (.int .u64 1)).setCell ⟨p, 3, none⟩ (.bool false))) := (Turn.set (S := fun k => k = p) w p _ _ rfl).trans (Turn.set (S := fun k => k = p) _ p _ _ rfl)
  have hz2 : ((w.setCell ⟨p, 4, none⟩ (.int .u64 1)).setCell ⟨p, 3, none⟩ (.bool false)).heap.size = w.heap.size := by simp [World.setCell]
  have hd2 : Hid (Du ((w.setCell ⟨p, 4, none⟩ (.int .u64 1)).setCell ⟨p, 3, none⟩ (.bool false)) F b n (zs n) [] r) := HD.out.turn ht2.out (fun k _ h => (HF.out k h).2)
  generalize ((w.setCell ⟨p, 4, none⟩ (.int .u64 1)).setCell ⟨p, 3, none⟩ (.bool false)) = wA at *
  refine (sl_puts hs2.out hd2.out (fun k h => ⟨by rw [hz2]; exact (HF.out k h).1, (HF.out k h).2⟩) hn 0 (.inl rfl) d hd).mono ?_
  rintro e w3 ⟨rfl, s3, ⟨S, d3⟩, t3⟩
  have c3 := Bx.cell s3 3 rfl
  have c4 := Bx.cell s3 4 rfl
  have c5 := Bx.cell s3 5 rfl
  have f3 := Bx.free (b := p) s3 3
  have f5 := Bx.free (b := p) s3 5
  have D3 := Lib.hid d3
  have T3 := Lib.hid t3
  have S3 := Lib.hid s3
  clear d3 t3 s3 hs2 hd2
  go_wp2_with fail
  have t4 : Turn (fun k => k = p) w3 ((w3.setCell ⟨p, 3, none⟩ (.bool true)).setCell ⟨p, 5, none⟩ (.int .i64 0)) := (Turn.set (S := fun k => k = p) w3 p _ _ rfl).trans (Turn.set (S := fun k => k = p) _ p _ _ rfl)
  have hz3 := T3.out.size
  have hz4 : ((w3.setCell ⟨p, 3, none⟩ (.bool true)).setCell ⟨p, 5, none⟩ (.int .i64 0)).heap.size = w3.heap.size := by simp [World.setCell]
  refine bodyPost_ret (v := .tuple #[.int .u64 1, .int .i64 0]) (by simp [results, Tryz.results41, go_sem]) rfl ⟨rfl, Bx.set (Bx.set S3.out 3 _ _ rfl) 5 _ _ rfl, ⟨S, (D3.out.turn t4 fun k _ hk e => ?_).mono fun k _ hk => ?_⟩, ((ht2.out.wide fun _ _ h => .inr h).then T3.out fun k _ h => .inl h).then t4 fun k _ h => .inr h⟩
  · rcases hk with hk | hk
    · exact (HF.out k hk).2 e
    · omega
  · rcases hk with hk | hk
    · exact .inl hk
    · exact .inr ⟨by omega, by omega⟩
end Go.Proofs.YtoichcickcgbgaaGreatDoor
