/-
  The log.
  The journal.
  The journal: a record more.
-/
import Derived.Test.YtoichcickcgbgaaGreatDoorGSrSp
import Derived.Defers
namespace Go.Proofs.YtoichcickcgbgaaGreatDoor
open Go.RowKit Disk
attribute [local go_sem] Oper.semAt_some
@[local go_sem] theorem as_open (v : Value) (w : World) : (Instr.typeAssert (.iface 239 v) 223 239 true).run Tryz.prog w = .ok (.tuple #[v, .bool true]) w := by kernel_rfl
/-- A log of n - 18 sectors behind two slots of 9. -/
def Lg (w : World) (l b n : Nat) (st : Value) : Prop := Bx w l 225 [.pointer (some ⟨b, 0, none⟩), .int .i64 18, .int .i64 ((n : Int) - 18), st]
def shutV : Value := .iface 221 (.agg #[])
def openV (ep : Int) (k : Nat) : Value := .iface 239 (.agg #[.int .u64 ep, .int .i64 k])
set_option maxRecDepth 100000 in
theorem wal_new {w : World} {F : Nat → Prop} {b n : Nat} {S : List (List UInt8)} {O : List (Nat × List UInt8)} {r : Int} (h : Du w F b n S O r) (hn : 19 ≤ n) (hn2 : n ≤ 1024) :
    Calls Tryz.prog 71 #[.pointer (some ⟨b, 0, none⟩), .int .i64 18, .int .i64 ((n : Int) - 18)] w fun e w' => e = .returned (.pointer (some ⟨w.heap.size, 0, none⟩)) ∧ Lg w' w.heap.size b n shutV ∧ Below w.heap.size w w' := by
  have HD := Lib.hid h
  clear h
  have h1 : decide ((n : Int) - 18 < 1) = false := by simp; omega
  have h2 : decide ((18 : Int) > (n : Int) - ((n : Int) - 18)) = false := by simp; omega
  go_enter Tryz.func71, Tryz.ntmps71
  go_wp2_with fail
  refine (du_len HD.out).mono ?_
  rintro e w1 ⟨rfl, rfl⟩
  go_wp2_with fail
  go_ret
  exact ⟨rfl, Bx.new _ _ _, (Below.refl _ _).alloc (Nat.le_refl _) _⟩
set_option maxRecDepth 100000 in
theorem wal_start {w : World} {l b n : Nat} {st : Value} (h : Lg w l b n st) (ep : Int) (hep : ep = 1) :
    Calls Tryz.prog 76 #[.pointer (some ⟨l, 0, none⟩), .int .u64 ep] w fun e w' => e = .returned (.int .i64 0) ∧ Lg w' l b n (openV ep 0) ∧ Turn (fun k => k = l) w w' := by
  have c3 := Bx.cell h 3 rfl
  have f3 := Bx.free (b := l) h 3
  have HL := Lib.hid h
  clear h
  subst hep
  go_enter Tryz.func76, Tryz.ntmps76
  go_wp2_with fail
  go_ret
  exact ⟨rfl, Bx.set HL.out 3 _ _ rfl, Turn.set (S := fun k => k = l) w l _ _ rfl⟩
section
variable {w : World} {F : Nat → Prop} {l b n : Nat} {S : List (List UInt8)} {r : Int} {st : Value}
set_option maxRecDepth 100000 in
set_option maxHeartbeats 1000000 in
theorem wal_writes (h : Lg w l b n st) (hD : Du w F b n S [] r) (hF : ∀ k, F k → k < w.heap.size ∧ k ≠ l) (ep : Int) (k : Nat) (hk : 18 + k < n) (hn : n ≤ 1024) (s : ByteArray) (hs : s.size ≤ 43) :
    Calls Tryz.prog 184 #[.pointer (some ⟨l, 0, none⟩), .string s, .agg #[.int .u64 ep, .int .i64 k]] w fun e w' => e = .returned (.int .i64 0) ∧ Lg w' l b n st ∧ (∃ S', Du w' (Upb F w w') b n S' [] r) ∧ Turn F w w' := by
  have hll := Bx.lt h
  have HL := Lib.hid h
  have HD := Lib.hid hD
  have HF := Lib.hid hF
  clear h hD hF
  have hc : (k : Int) % 18446744073709551616 = k := by omega
  go_enter Tryz.func184, Tryz.ntmps184
  go_wp2_with fail
  refine (make_any s ep k hs _).mono ?_
  rintro e w1 ⟨⟨x, hx, rfl⟩, hb1⟩
  have hb : Below w.heap.size w w1 := ((Below.refl w.heap.size w).alloc (Nat.le_refl _) _).trans (hb1.mono (by simp))
  have hsz := hb.size
  have HO1 : Hid (Bx w1 w.heap.size 239 [.int .u64 ep, .int .i64 k]) := (Bx.new w [.int .u64 ep, .int .i64 k] 239).below hb1
  have HL1 : Hid (Lg w1 l b n st) := Bx.below HL.out hb
  have HD1 : Hid (Du w1 F b n S [] r) := HD.out.below hb
  have HT1 : Hid (Turn F w w1) := Turn.below hb
  clear hb1 hb HL HD
  go_wp2_with fail
  refine wp_region_held_drew (S := fun x => x.cell? ⟨l, 0, none⟩ = some (.pointer (some ⟨b, 0, none⟩)) ∧ x.cell? ⟨l, 1, none⟩ = some (.int .i64 18) ∧ x.cell? ⟨w.heap.size, 1, none⟩ = some (.int .i64 k) ∧ True) (by kernel_rfl) (⟨Bx.cell HL1.out 0 rfl, Bx.cell HL1.out 1 rfl, HO1.out.cell 1 rfl, trivial⟩) (fun hHeld => ?_)
  refine wtk 0 21 (.pointer (some ⟨l, 0, none⟩)) rfl (by kernel_rfl) (fun _ _ _ h => h) (by rfl) (fun x hSw => by obtain ⟨d1, d2, d3, d4⟩ := id hSw; (go_simp) <;> first | decide | exact IntWalk.i64_in _ (by omega)) (by assumption) ?_
  try simp only [Act.put, pw]
  refine wtk 1 22 (.pointer (some ⟨l, 0, none⟩)) rfl (by kernel_rfl) (fun _ _ _ h => h) (by rfl) (fun x hSw => by obtain ⟨d1, d2, d3, d4⟩ := id hSw; (go_simp) <;> first | decide | exact IntWalk.i64_in _ (by omega)) (by assumption) ?_
  try simp only [Act.put, pw]
  refine wtk 2 23 (.pointer (some ⟨l, 0, none⟩)) rfl (by kernel_rfl) (fun _ _ _ h => h) (by rfl) (fun x hSw => by obtain ⟨d1, d2, d3, d4⟩ := id hSw; (go_simp) <;> first | decide | exact IntWalk.i64_in _ (by omega)) (by assumption) ?_
  try simp only [Act.put, pw]
  refine wtk 3 24 (.pointer (some ⟨b, 0, none⟩)) rfl (by kernel_rfl) (fun _ _ _ h => h) (by rfl) (fun x hSw => by obtain ⟨d1, d2, d3, d4⟩ := id hSw; (go_simp) <;> first | decide | exact IntWalk.i64_in _ (by omega)) (by assumption) ?_
  try simp only [Act.put, pw]
  refine wtk 4 25 (.pointer (some ⟨l, 0, none⟩)) rfl (by kernel_rfl) (fun _ _ _ h => h) (by rfl) (fun x hSw => by obtain ⟨d1, d2, d3, d4⟩ := id hSw; (go_simp) <;> first | decide | exact IntWalk.i64_in _ (by omega)) (by assumption) ?_
  try simp only [Act.put, pw]
  refine wtk 5 26 (.pointer (some ⟨l, 0, none⟩)) rfl (by kernel_rfl) (fun _ _ _ h => h) (by rfl) (fun x hSw => by obtain ⟨d1, d2, d3, d4⟩ := id hSw; (go_simp) <;> first | decide | exact IntWalk.i64_in _ (by omega)) (by assumption) ?_
  try simp only [Act.put, pw]
  refine wtk 6 27 (.pointer (some ⟨l, 1, none⟩)) rfl (by kernel_rfl) (fun _ _ _ h => h) (by rfl) (fun x hSw => by obtain ⟨d1, d2, d3, d4⟩ := id hSw; (go_simp) <;> first | decide | exact IntWalk.i64_in _ (by omega)) (by assumption) ?_
  try simp only [Act.put, pw]
  refine wtk 7 28 (.int .i64 18) rfl (by kernel_rfl) (fun _ _ _ h => h) (by rfl) (fun x hSw => by obtain ⟨d1, d2, d3, d4⟩ := id hSw; (go_simp) <;> first | decide | exact IntWalk.i64_in _ (by omega)) (by assumption) ?_
  try simp only [Act.put, pw]
  refine wtk 8 29 (.pointer (some ⟨w.heap.size, 1, none⟩)) rfl (by kernel_rfl) (fun _ _ _ h => h) (by rfl) (fun x hSw => by obtain ⟨d1, d2, d3, d4⟩ := id hSw; (go_simp) <;> first | decide | exact IntWalk.i64_in _ (by omega)) (by assumption) ?_
  try simp only [Act.put, pw]
  refine wtk 9 30 (.int .i64 k) rfl (by kernel_rfl) (fun _ _ _ h => h) (by rfl) (fun x hSw => by obtain ⟨d1, d2, d3, d4⟩ := id hSw; (go_simp) <;> first | decide | exact IntWalk.i64_in _ (by omega)) (by assumption) ?_
  try simp only [Act.put, pw]
  refine wtk 10 31 (.int .i64 (18 + (k : Int))) rfl (by kernel_rfl) (fun _ _ _ h => h) (by rfl) (fun x hSw => by obtain ⟨d1, d2, d3, d4⟩ := id hSw; (go_simp) <;> first | decide | exact IntWalk.i64_in _ (by omega)) (by assumption) ?_
  try simp only [Act.put, pw]
  refine wtk 11 32 (.string x) rfl (by kernel_rfl) (fun _ _ _ h => h) (by rfl) (fun x hSw => by obtain ⟨d1, d2, d3, d4⟩ := id hSw; (go_simp) <;> first | decide | exact IntWalk.i64_in _ (by omega)) (by assumption) ?_
  try simp only [Act.put, pw]
  refine wpAnyH_ready (rs := [12]) (by kernel_rfl) (by simp) (AllReadyH.cons rfl (fun K hK => ?_) AllReadyH.nil)
  go_simp
  refine (write_at (w := w1.drew) (HD1.out.keep (w' := w1.drew) fun _ _ _ => rfl) (18 + k) (by omega) x hx (by simp) _ (by omega)).mono ?_
  rintro e w3 ⟨rfl, hD3, hT3⟩
  have hT3 : Turn F w1 w3 := ⟨hT3.os, hT3.tape, hT3.output, hT3.size, hT3.block⟩
  have HL3 : Hid (Lg w3 l b n st) := Bx.turn HL1.out hT3 (fun h => (HF.out l h).2 rfl)
  have HO3 : Hid (Bx w3 w.heap.size 239 [.int .u64 ep, .int .i64 k]) := HO1.out.turn hT3 (fun h => by have := (HF.out _ h).1; omega)
  have HD3 : Hid (Du w3 (Upb F w1 w3) b n S ([] ++ [(18 + k, x.data.toList)]) r) := hD3
  have HT3 := Lib.hid hT3
  refine hK.out _ _ ⟨Bx.cell HL3.out 0 rfl, Bx.cell HL3.out 1 rfl, HO3.out.cell 1 rfl, trivial⟩ (fun hHeld => ?_)
  clear hK K hD3 hT3
  try simp only [Act.put, pw]
  refine wtk 13 9 (.int .i64 0) rfl (by kernel_rfl) (fun _ _ _ h => h) (by rfl) (fun x hSw => by obtain ⟨d1, d2, d3, d4⟩ := id hSw; (go_simp) <;> first | decide | exact IntWalk.i64_in _ (by omega)) (by assumption) ?_
  try simp only [Act.put, pw]
  refine wpAnyH_done (by kernel_rfl) ?_ _
  have c0 := Bx.cell HL3.out 0 rfl
  go_wp2_with fail
  refine (du_flush HD3.out).mono ?_
  rintro e w5 ⟨rfl, ⟨S', h5⟩, t5⟩
  go_wp2_with fail
  go_ret
  have hz3 := HT3.out.size
  have hz5 := t5.size
  refine ⟨rfl, Bx.turn HL3.out t5 ?_, ⟨S', h5.mono fun k _ hk => ?_⟩, (HT1.out.then HT3.out fun _ _ h => h).then t5 fun k hk h => ?_⟩
  · rintro (h | h)
    · exact (HF.out l h).2 rfl
    · omega
  · rcases hk with hk | hk
    · exact .inl hk
    · exact .inr ⟨by omega, by omega⟩
  · rcases h with h | h
    · exact h
    · omega
set_option maxRecDepth 100000 in
set_option maxHeartbeats 1000000 in
theorem wal_append {ep : Int} {k : Nat} (h : Lg w l b n (openV ep k)) (hD : Du w F b n S [] r) (hF : ∀ k, F k → k < w.heap.size ∧ k ≠ l) (hk : 18 + k < n) (hn : n ≤ 1024) (s : ByteArray) (hs : s.size ≤ 43) :
    Calls Tryz.prog 139 #[.pointer (some ⟨l, 0, none⟩), .string s] w fun e w' => e = .returned (.int .i64 0) ∧ Lg w' l b n (openV ep (k + 1)) ∧ (∃ S', Du w' (Upb F w w') b n S' [] r) ∧ Turn (fun k => F k ∨ k = l) w w' := by
  have hll := Bx.lt h
  have c3 := Bx.cell h 3 rfl
  have f3 := Bx.free (b := l) h 3
  have HL := Lib.hid h
  have HD := Lib.hid hD
  have HF := Lib.hid hF
  clear h hD hF
  simp only [openV] at c3
  have h43 : ¬ (43 < (s.size : Int)) := by omega
  go_enter Tryz.func139, Tryz.ntmps139
  go_wp2_with fail
  have hb : Below w.heap.size w (w.alloc (.cells #[.int .u64 ep, .int .i64 k] 239)) := (Below.refl _ _).alloc (Nat.le_refl _) _
  have HL1 : Hid (Lg (w.alloc (.cells #[.int .u64 ep, .int .i64 k] 239)) l b n (openV ep k)) := Bx.below HL.out hb
  have HO1 := Bx.new w [.int .u64 ep, .int .i64 k] 239
  have HD1 : Hid (Du (w.alloc (.cells #[.int .u64 ep, .int .i64 k] 239)) F b n S [] r) := HD.out.below hb
  have HT1 : Hid (Turn F w (w.alloc (.cells #[.int .u64 ep, .int .i64 k] 239))) := Turn.below hb
  have hz1 : (w.alloc (.cells #[.int .u64 ep, .int .i64 k] 239)).heap.size = w.heap.size + 1 := World.size_alloc _ _
  generalize w.alloc (.cells #[.int .u64 ep, .int .i64 k] 239) = w1 at *
  have d1 := HO1.cell 0 rfl
  have d2 := HO1.cell 1 rfl
  have d3 := Bx.cell HL1.out 2 rfl
  have HO1 := Lib.hid HO1
  have hge : decide ((k : Int) ≥ (n : Int) - 18) = false := by simp; omega
  have hge' : ¬ ((n : Int) - 18 ≤ (k : Int)) := by omega
  clear hb HD HL c3 f3
  go_region
  go_wp2_with fail
  refine (wal_writes (w := w1.drew) HL1.out (HD1.out.keep (w' := w1.drew) fun _ _ _ => rfl) (fun k h => ⟨by have := (HF.out k h).1; show k < w1.heap.size; omega, (HF.out k h).2⟩) ep k hk hn s hs).mono ?_
  rintro e w3 ⟨rfl, hL3, ⟨S', hD3⟩, hT3⟩
  have hT3 : Turn F w1 w3 := ⟨hT3.os, hT3.tape, hT3.output, hT3.size, hT3.block⟩
  have hD3 : Du w3 (Upb F w1 w3) b n S' [] r := hD3
  have hz3 := hT3.size
  have e0 := (HO1.out.turn hT3 (fun h => by have := (HF.out _ h).1; omega)).cell 0 rfl
  have e1 := (HO1.out.turn hT3 (fun h => by have := (HF.out _ h).1; omega)).cell 1 rfl
  have HD3 := Lib.hid hD3
  have HT3 := Lib.hid hT3
  have HL3 := Lib.hid hL3
  have c3 := Bx.cell hL3 3 rfl
  have f3 := Bx.free (b := l) hL3 3
  have hnl : w.heap.size ≠ l := by omega
  have hln : l ≠ w.heap.size := by omega
  clear hD3 hT3 hL3 d1 d2 d3
  go_wp2_with fail
  go_ret
  have t4 : Turn (fun k => k = l) w3 ((w3.setCell ⟨l, 3, none⟩ shutV).setCell ⟨l, 3, none⟩ (openV ep (k + 1))) := (Turn.set (S := fun k => k = l) w3 l _ _ rfl).trans (Turn.set (S := fun k => k = l) _ l _ _ rfl)
  have hz4 : ∀ x y, ((w3.setCell ⟨l, 3, none⟩ x).setCell ⟨l, 3, none⟩ y).heap.size = w3.heap.size := fun x y => by simp [World.setCell]
  have h5 := HD3.out
  refine ⟨rfl, Bx.set (Bx.set HL3.out 3 _ _ rfl) 3 _ _ rfl, ⟨S', (h5.turn t4 fun k _ hk e => ?_).mono fun k _ hk => ?_⟩, ((HT1.out.wide fun _ _ h => .inl h).then HT3.out fun k _ h => .inl h).then t4 fun k _ h => .inr h⟩
  · rcases hk with hk | hk
    · exact (HF.out k hk).2 e
    · omega
  · rcases hk with hk | hk
    · exact .inl hk
    · exact .inr ⟨by omega, by rw [hz4]; omega⟩
end
end Go.Proofs.YtoichcickcgbgaaGreatDoor
namespace Go.Proofs.YtoichcickcgbgaaGreatDoor
open Go.RowKit Disk
attribute [local go_sem] Oper.semAt_some
section
variable {w : World} {F : Nat → Prop} {b n : Nat} {S : List (List UInt8)} {r : Int}
set_option maxRecDepth 100000 in
theorem jo_made (hD : Du w F b n S [] r) (hn : 19 ≤ n) (hn2 : n ≤ 1024) :
    Calls Tryz.prog 39 #[.pointer (some ⟨b, 0, none⟩), .int .i64 9] w fun e w' => ∃ j p l, e = .returned (.pointer (some ⟨j, 0, none⟩)) ∧ w.heap.size ≤ j ∧ w.heap.size ≤ p ∧ w.heap.size ≤ l ∧
      Bx w' j 126 [.pointer (some ⟨l, 0, none⟩), .pointer (some ⟨p, 0, none⟩), .bool false, .int .u64 0] ∧ Sb w' p b false 0 (-1) ∧ Lg w' l b n shutV ∧ Below w.heap.size w w' := by
  have HD := Lib.hid hD
  clear hD
  go_enter Tryz.func39, Tryz.ntmps39
  go_wp2_with fail
  refine (sl_new HD.out (by omega) hn2).mono ?_
  rintro e w1 ⟨rfl, s1, b1⟩
  have HD1 : Hid (Du w1 F b n S [] r) := HD.out.below b1
  have S1 := Lib.hid s1
  have B1 := Lib.hid b1
  clear s1 b1 HD
  go_wp2_with fail
  refine (du_len HD1.out).mono ?_
  rintro e w2 ⟨rfl, rfl⟩
  go_wp2_with fail
  refine (wal_new HD1.out hn hn2).mono ?_
  rintro e w3 ⟨rfl, l3, b3⟩
  have S3 : Hid (Sb w3 w.heap.size b false 0 (-1)) := Bx.below S1.out b3
  have L3 := Lib.hid l3
  have B3 : Hid (Below w.heap.size w w3) := B1.out.trans (b3.mono B1.out.size)
  have hz := B1.out.size
  have hz3 := B3.out.size
  clear l3 b3 HD1 S1 B1
  go_wp2_with fail
  go_ret
  exact ⟨_, _, _, rfl, hz3, Nat.le_refl _, hz, Bx.new _ [.pointer (some ⟨w1.heap.size, 0, none⟩), .pointer (some ⟨w.heap.size, 0, none⟩), .bool false, .int .u64 0] 126, Bx.more S3.out _, Bx.more L3.out _, B3.out.alloc hz3 _⟩
set_option maxRecDepth 100000 in
theorem jo_begins {j p l : Nat} {g : Bool} {e0 : Int} {st : Value} (hJ : Bx w j 126 [.pointer (some ⟨l, 0, none⟩), .pointer (some ⟨p, 0, none⟩), .bool g, .int .u64 e0]) (hL : Lg w l b n st) :
    Calls Tryz.prog 42 #[.pointer (some ⟨j, 0, none⟩), .int .u64 1] w fun e w' => (∃ v, e = .returned v) ∧ Bx w' j 126 [.pointer (some ⟨l, 0, none⟩), .pointer (some ⟨p, 0, none⟩), .bool true, .int .u64 1] ∧ Lg w' l b n (openV 1 0) ∧ Turn (fun k => k = j ∨ k = l) w w' := by
  have hne : j ≠ l := Bx.ne hJ hL (by decide)
  have HL := Lib.hid hL
  have HJ := Lib.hid hJ
  have c3 := hJ.cell 3 rfl
  have f3 := hJ.free 3
  have c0 := hJ.cell 0 rfl
  clear hL hJ
  go_enter Tryz.func42, Tryz.ntmps42
  go_wp2_with fail
  have J1 : Hid (Bx (w.setCell ⟨j, 3, none⟩ (.int .u64 1)) j 126 [.pointer (some ⟨l, 0, none⟩), .pointer (some ⟨p, 0, none⟩), .bool g, .int .u64 1]) := HJ.out.set 3 _ _ rfl
  have T1 : Hid (Turn (fun k => k = j) w (w.setCell ⟨j, 3, none⟩ (.int .u64 1))) := Turn.set (S := fun k => k = j) w j _ _ rfl
  have L1 : Hid (Lg (w.setCell ⟨j, 3, none⟩ (.int .u64 1)) l b n st) := Bx.turn HL.out T1.out (fun h => hne h.symm)
  generalize w.setCell ⟨j, 3, none⟩ (.int .u64 1) = w1 at *
  refine (wal_start L1.out 1 rfl).mono ?_
  rintro e w2 ⟨rfl, l2, t2⟩
  have J2 : Hid (Bx w2 j 126 [.pointer (some ⟨l, 0, none⟩), .pointer (some ⟨p, 0, none⟩), .bool g, .int .u64 1]) := J1.out.turn t2 hne
  have T2 : Hid (Turn (fun k => k = j ∨ k = l) w w2) := (T1.out.wide fun _ _ h => .inl h).then t2 fun _ _ h => .inr h
  have L2 := Lib.hid l2
  clear c3 f3 c0 l2 t2 J1 T1 L1
  have c2 := J2.out.cell 2 rfl
  have f2 := J2.out.free 2
  go_wp2_with fail
  go_end0
  exact ⟨⟨_, rfl⟩, J2.out.set 2 _ _ rfl, Bx.turn L2.out (Turn.set (S := fun k => k = j) w2 j _ _ rfl) (fun h => hne h.symm), T2.out.then (Turn.set (S := fun k => k = j) w2 j _ _ rfl) fun _ _ h => .inl h⟩
/-- A journal at j, good, with k records, whose blocks lie in G. -/
def Jr (w : World) (G : Nat → Prop) (j n k : Nat) (r : Int) : Prop :=
  ∃ p l b F S, Bx w j 126 [.pointer (some ⟨l, 0, none⟩), .pointer (some ⟨p, 0, none⟩), .bool true, .int .u64 1] ∧ Lg w l b n (openV 1 k) ∧ Du w F b n S [] r ∧ G j ∧ G l ∧ ∀ k, F k → G k ∧ k < w.heap.size ∧ k ≠ j ∧ k ≠ l
set_option maxRecDepth 100000 in
set_option maxHeartbeats 1000000 in
theorem jo_format (hD : Du w F b n (zs n) [] r) (hF : ∀ k, F k → k < w.heap.size) (hn : 19 ≤ n) (hn2 : n ≤ 1024) (hr : r + 18 ≤ 1000000) (d : ByteArray) (hd : d.size ≤ 43) :
    Calls Tryz.prog 19 #[.pointer (some ⟨b, 0, none⟩), .int .i64 9, .string d] w fun e w' => ∃ j, e = .returned (.tuple #[.pointer (some ⟨j, 0, none⟩), .int .i64 0]) ∧ w.heap.size ≤ j ∧ Jr w' (Upb F w w') j n 0 (r + 18) ∧ Turn F w w' := by
  have HD := Lib.hid hD
  have HF := Lib.hid hF
  clear hD hF
  go_enter Tryz.func19, Tryz.ntmps19
  go_wp2_with fail
  refine (jo_made HD.out hn hn2).mono ?_
  rintro e w1 ⟨j, p, l, rfl, hj, hp, hl, j1, s1, l1, b1⟩
  have hz1 := b1.size
  have npj : p ≠ j := Bx.ne s1 j1 (by decide)
  have npl : p ≠ l := Bx.ne s1 l1 (by decide)
  have njl : j ≠ l := Bx.ne j1 l1 (by decide)
  have c1 := j1.cell 1 rfl
  have HD1 : Hid (Du w1 F b n (zs n) [] r) := HD.out.below b1
  have hpl := Bx.lt s1
  have hll := Bx.lt l1
  have hjl := Bx.lt j1
  have J1 := Lib.hid j1
  have S1 := Lib.hid s1
  have L1 := Lib.hid l1
  have B1 : Hid (Turn F w w1) := Turn.below b1
  clear j1 s1 l1 b1 HD
  go_wp2_with fail
  refine (sl_read S1.out HD1.out (fun k h => ⟨by have := HF.out k h; omega, by have := HF.out k h; omega⟩) (by omega) hr).mono ?_
  rintro e w2 ⟨rfl, s2, d2, t2⟩
  have J2 : Hid (Bx w2 j 126 [.pointer (some ⟨l, 0, none⟩), .pointer (some ⟨p, 0, none⟩), .bool false, .int .u64 0]) := J1.out.turn t2 (fun h => by rcases h with h | h; have := HF.out _ h; omega; exact npj h.symm)
  have L2 : Hid (Lg w2 l b n shutV) := Bx.turn L1.out t2 (fun h => by rcases h with h | h; have := HF.out _ h; omega; exact npl h.symm)
  have B2 : Hid (Turn F w w2) := B1.out.then t2 (fun k hk h => by rcases h with h | h; exact h; omega)
  have S2 := Lib.hid s2
  have D2 := Lib.hid d2
  have hz2 := t2.size
  clear c1 s2 d2 t2 S1 L1 J1 B1 HD1
  have c1 := (J2.out.more (.cells #[.int .u64 0, .string ⟨#[]⟩] 119)).cell 1 rfl
  go_wp2_with fail
  clear c1
  have ba := (Below.refl w2.heap.size w2).alloc (Nat.le_refl _) (.cells #[.int .u64 0, .string ⟨#[]⟩] 119)
  have J3 := Lib.hid (J2.out.more (.cells #[.int .u64 0, .string ⟨#[]⟩] 119))
  have L3 : Hid (Lg (w2.alloc (.cells #[.int .u64 0, .string ⟨#[]⟩] 119)) l b n shutV) := Bx.more L2.out _
  have S3 : Hid (Sb (w2.alloc (.cells #[.int .u64 0, .string ⟨#[]⟩] 119)) p b true 0 (-1)) := Bx.more S2.out _
  have D3 : Hid (Du (w2.alloc (.cells #[.int .u64 0, .string ⟨#[]⟩] 119)) F b n (zs n) [] (r + 18)) := D2.out.below ba
  have B3 : Hid (Turn F w (w2.alloc (.cells #[.int .u64 0, .string ⟨#[]⟩] 119))) := B2.out.then (Turn.below (S := fun _ => False) ba) fun _ _ h => h.elim
  have hz3 : w2.heap.size ≤ (w2.alloc (.cells #[.int .u64 0, .string ⟨#[]⟩] 119)).heap.size := ba.size
  generalize w2.alloc (.cells #[.int .u64 0, .string ⟨#[]⟩] 119) = w3 at *
  clear J2 L2 S2 D2 B2 ba
  refine (sl_write S3.out D3.out (fun k h => ⟨by have := HF.out k h; omega, by have := HF.out k h; omega⟩) (by omega) d hd).mono ?_
  rintro e w4 ⟨rfl, s4, ⟨S, d4⟩, t4⟩
  have hz4 := t4.size
  have J4 : Hid (Bx w4 j 126 [.pointer (some ⟨l, 0, none⟩), .pointer (some ⟨p, 0, none⟩), .bool false, .int .u64 0]) := J3.out.turn t4 (fun h => by rcases h with h | h; have := HF.out _ h; omega; exact npj h.symm)
  have L4 : Hid (Lg w4 l b n shutV) := Bx.turn L3.out t4 (fun h => by rcases h with h | h; have := HF.out _ h; omega; exact npl h.symm)
  have B4 : Hid (Turn F w w4) := B3.out.then t4 (fun k hk h => by rcases h with h | h; exact h; omega)
  have D4 := Lib.hid d4
  clear s4 d4 t4 J3 L3 S3 D3 B3
  go_wp2_with fail
  refine (jo_begins J4.out L4.out).mono ?_
  rintro e w5 ⟨⟨v, rfl⟩, j5, l5, t5⟩
  have J5 := Lib.hid j5
  have L5 := Lib.hid l5
  have T5 := Lib.hid t5
  have hz5 := t5.size
  clear j5 l5 t5
  go_wp2_with fail
  refine bodyPost_ret (v := .tuple #[.pointer (some ⟨j, 0, none⟩), .int .i64 0]) (by simp [results, Tryz.results19, go_sem]) rfl ⟨j, rfl, hj, ?_, ?_⟩
  · refine ⟨p, l, b, Upb F w3 w4, S, J5.out, L5.out, D4.out.turn T5.out (fun k _ hk h => ?_), .inr ⟨hj, by omega⟩, .inr ⟨hl, by omega⟩, fun k hk => ?_⟩
    · rcases hk with hk | hk
      · have := HF.out k hk; omega
      · omega
    · rcases hk with hk | hk
      · have := HF.out k hk
        exact ⟨.inl hk, by omega, by omega, by omega⟩
      · exact ⟨.inr ⟨by omega, by omega⟩, by omega, by omega, by omega⟩
  · exact B4.out.then T5.out fun k hk h => by omega
set_option maxRecDepth 100000 in
theorem jo_good {G : Nat → Prop} {j k : Nat} (h : Jr w G j n k r) : Calls Tryz.prog 135 #[.pointer (some ⟨j, 0, none⟩)] w fun e w' => e = .returned (.bool true) ∧ w = w' := by
  obtain ⟨p, l, b, F, S, hJ, _⟩ := h
  have c2 := hJ.cell 2 rfl
  clear hJ
  go_enter Tryz.func135, Tryz.ntmps135
  go_wp2_with fail
  go_ret
  exact ⟨rfl, rfl⟩
end
end Go.Proofs.YtoichcickcgbgaaGreatDoor
namespace Go.Proofs.YtoichcickcgbgaaGreatDoor
open Go.RowKit Disk
attribute [local go_sem] Oper.semAt_some
set_option maxRecDepth 100000 in
theorem jo_last {w : World} {j l p c d : Nat} {u : FrameMode} (hJ : Bx w j 126 [.pointer (some ⟨l, 0, none⟩), .pointer (some ⟨p, 0, none⟩), .bool true, .int .u64 1]) (hc : w.cell? ⟨c, 0, none⟩ = some (.int .i64 0)) (hd : w.cell? ⟨d, 0, none⟩ = some (.pointer (some ⟨j, 0, none⟩))) :
    CallsD Tryz.prog 138 #[.pointer (some ⟨c, 0, none⟩), .pointer (some ⟨d, 0, none⟩)] u w fun e u' w' => u' = u ∧ (∃ v, e = .returned v) ∧ w' = w.setCell ⟨j, 2, none⟩ (.bool true) := by
  have c2 := hJ.cell 2 rfl
  have f2 := hJ.free 2
  clear hJ
  go_enter_d Tryz.func138, Tryz.ntmps138
  go_wp2_with fail
  go_end0
  exact ⟨⟨_, rfl⟩, rfl⟩
section
variable {w : World} {F G : Nat → Prop} {b n j k : Nat} {S : List (List UInt8)} {r : Int}
set_option maxRecDepth 100000 in
set_option maxHeartbeats 1000000 in
theorem jo_append (h : Jr w G j n k r) (hk : 18 + k < n) (hn : n ≤ 1024) (s : ByteArray) (hs : s.size ≤ 43) :
    Calls Tryz.prog 93 #[.pointer (some ⟨j, 0, none⟩), .string s] w fun e w' => e = .returned (.int .i64 0) ∧ Jr w' (Upb G w w') j n (k + 1) r ∧ Turn G w w' := by
  obtain ⟨p, l, b, F, S, hJ, hL, hD, hGj, hGl, hF⟩ := h
  have HJ := Lib.hid hJ
  have HL := Lib.hid hL
  have HD := Lib.hid hD
  have HF := Lib.hid hF
  have hjl := hJ.lt
  have hll := Bx.lt hL
  have hne : j ≠ l := Bx.ne hJ hL (by decide)
  have h43 : ¬ (43 < (s.size : Int)) := by omega
  have hb : Below w.heap.size w ((w.alloc (.cells #[.pointer (some ⟨j, 0, none⟩)] 80)).alloc (.cells #[.int .i64 0] 34)) := ((Below.refl _ _).alloc (Nat.le_refl _) _).alloc (by simp) _
  have HJ1 : Hid (Bx ((w.alloc (.cells #[.pointer (some ⟨j, 0, none⟩)] 80)).alloc (.cells #[.int .i64 0] 34)) j 126 [.pointer (some ⟨l, 0, none⟩), .pointer (some ⟨p, 0, none⟩), .bool true, .int .u64 1]) := hJ.below hb
  have HL1 : Hid (Lg ((w.alloc (.cells #[.pointer (some ⟨j, 0, none⟩)] 80)).alloc (.cells #[.int .i64 0] 34)) l b n (openV 1 k)) := Bx.below hL hb
  have HD1 : Hid (Du ((w.alloc (.cells #[.pointer (some ⟨j, 0, none⟩)] 80)).alloc (.cells #[.int .i64 0] 34)) F b n S [] r) := hD.below hb
  have HB1 := Lib.hid hb
  have HP1 : Hid (Bx ((w.alloc (.cells #[.pointer (some ⟨j, 0, none⟩)] 80)).alloc (.cells #[.int .i64 0] 34)) w.heap.size 80 [.pointer (some ⟨j, 0, none⟩)]) := (Bx.new w [.pointer (some ⟨j, 0, none⟩)] 80).more _
  have HE1 : Hid (Bx ((w.alloc (.cells #[.pointer (some ⟨j, 0, none⟩)] 80)).alloc (.cells #[.int .i64 0] 34)) (w.heap.size + 1) 34 [.int .i64 0]) := by
    have := Bx.new (w.alloc (.cells #[.pointer (some ⟨j, 0, none⟩)] 80)) [.int .i64 0] 34
    rw [World.size_alloc] at this
    exact this
  have hz1 : ((w.alloc (.cells #[.pointer (some ⟨j, 0, none⟩)] 80)).alloc (.cells #[.int .i64 0] 34)).heap.size = w.heap.size + 2 := by simp
  clear hJ hL hD hF hb
  have hmf : ∀ (fn : Fn) (first cap : Array Value) (w : World), (Instr.makeFunc fn first cap).run Tryz.prog w = .ok (.func fn first cap) w := fun _ _ _ _ => rfl
  have c2 := HJ1.out.cell 2 rfl
  have c0 := HJ1.out.cell 0 rfl
  go_enter_defers Tryz.func93, Tryz.ntmps93
  go_wp2_with fail
  generalize (w.alloc (.cells #[.pointer (some ⟨j, 0, none⟩)] 80)).alloc (.cells #[.int .i64 0] 34) = w1 at *
  refine (wal_append HL1.out HD1.out (fun k h => ⟨by have := (HF.out k h).2.1; omega, (HF.out k h).2.2.2⟩) hk hn s hs).mono ?_
  rintro e w2 ⟨rfl, l2, ⟨S', d2⟩, t2⟩
  have hz2 := t2.size
  have J2 : Hid (Bx w2 j 126 [.pointer (some ⟨l, 0, none⟩), .pointer (some ⟨p, 0, none⟩), .bool true, .int .u64 1]) := HJ1.out.turn t2 (fun h => by rcases h with h | h; exact (HF.out _ h).2.2.1 rfl; exact hne h)
  have P2 : Hid (Bx w2 w.heap.size 80 [.pointer (some ⟨j, 0, none⟩)]) := HP1.out.turn t2 (fun h => by rcases h with h | h; have := (HF.out _ h).2.1; omega; omega)
  have E2 : Hid (Bx w2 (w.heap.size + 1) 34 [.int .i64 0]) := HE1.out.turn t2 (fun h => by rcases h with h | h; have := (HF.out _ h).2.1; omega; omega)
  have T2 : Hid (Turn (fun k => F k ∨ k = l) w w2) := (Turn.below HB1.out).trans ⟨t2.os, t2.tape, t2.output, t2.size, t2.block⟩
  have L2 := Lib.hid l2
  have D2 : Hid (Du w2 (Upb F w1 w2) b n S' [] r) := d2
  clear l2 d2 t2 c2 c0
  have g0 := E2.out.cell 0 rfl
  have g1 := E2.out.free 0
  go_wp2_with fail
  have t3 : Turn (fun k => k = w.heap.size + 1) w2 (w2.setCell ⟨w.heap.size + 1, 0, none⟩ (.int .i64 0)) := Turn.set (S := fun k => k = w.heap.size + 1) w2 _ _ _ rfl
  have E3 : Bx (w2.setCell ⟨w.heap.size + 1, 0, none⟩ (.int .i64 0)) (w.heap.size + 1) 34 [.int .i64 0] := E2.out.set 0 _ _ rfl
  have P3 : Bx (w2.setCell ⟨w.heap.size + 1, 0, none⟩ (.int .i64 0)) w.heap.size 80 [.pointer (some ⟨j, 0, none⟩)] := P2.out.turn t3 (by omega)
  have J3 : Bx (w2.setCell ⟨w.heap.size + 1, 0, none⟩ (.int .i64 0)) j 126 [.pointer (some ⟨l, 0, none⟩), .pointer (some ⟨p, 0, none⟩), .bool true, .int .u64 1] := J2.out.turn t3 (by omega)
  have L3 : Lg (w2.setCell ⟨w.heap.size + 1, 0, none⟩ (.int .i64 0)) l b n (openV 1 (k + 1)) := Bx.turn L2.out t3 (by omega)
  have D3 : Du (w2.setCell ⟨w.heap.size + 1, 0, none⟩ (.int .i64 0)) (Upb F w1 w2) b n S' [] r := D2.out.turn t3 (fun k _ hk h => by rcases hk with hk | hk; have := (HF.out _ hk).2.1; omega; omega)
  have hz3 : (w2.setCell ⟨w.heap.size + 1, 0, none⟩ (.int .i64 0)).heap.size = w2.heap.size := by simp [World.setCell]
  have T3 := T2.out.then t3 (fun k hk h => by omega)
  generalize w2.setCell ⟨w.heap.size + 1, 0, none⟩ (.int .i64 0) = w3 at *
  clear g0 g1
  refine leaves_cons (f := 138) (args := #[.pointer (some ⟨w.heap.size + 1, 0, none⟩), .pointer (some ⟨w.heap.size, 0, none⟩)]) (by simp) (by simp [go_sem]) ?_
  refine (jo_last J3 (E3.cell 0 rfl) (P3.cell 0 rfl)).mono ?_
  rintro e u' w4 ⟨rfl, ⟨v, rfl⟩, rfl⟩
  have t4 : Turn (fun k => k = j) w3 (w3.setCell ⟨j, 2, none⟩ (.bool true)) := Turn.set (S := fun k => k = j) w3 j _ _ rfl
  have hz4 : (w3.setCell ⟨j, 2, none⟩ (.bool true)).heap.size = w3.heap.size := by simp [World.setCell]
  have e4 := (E3.turn t4 (by omega)).cell 0 rfl
  refine ⟨.int .i64 0, by simp [results, Tryz.results93, go_sem, e4], rfl, ⟨p, l, b, Upb F w1 w2, S', J3.set 2 _ _ rfl, Bx.turn L3 t4 (fun h => hne h.symm), D3.turn t4 (fun k _ hk h => ?_), .inl hGj, .inl hGl, fun k hk => ?_⟩, (T3.wide fun k _ hk => ?_).then t4 fun k _ hk => ?_⟩
  · rcases hk with hk | hk
    · exact (HF.out _ hk).2.2.1 h
    · omega
  · rcases hk with hk | hk
    · have := HF.out _ hk
      exact ⟨.inl this.1, by omega, this.2.2⟩
    · exact ⟨.inr ⟨by omega, by omega⟩, by omega, by omega, by omega⟩
  · rcases hk with hk | rfl
    · exact (HF.out _ hk).1
    · exact hGl
  · subst hk; exact hGj
end
end Go.Proofs.YtoichcickcgbgaaGreatDoor
