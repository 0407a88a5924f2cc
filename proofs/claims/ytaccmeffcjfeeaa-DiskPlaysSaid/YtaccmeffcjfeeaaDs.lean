/-
  The disk's own state in memory, and a contract for each of its small methods.
-/
import Derived.Test.YtaccmeffcjfeeaaRows
import Derived.WalkKit
import Derived.WalkSpells
import Derived.WalkLawsBesides
import Derived.Lib.Hide
import Derived.Lib.ConvBytes
import Derived.Deep.AppendLies
import Derived.Deep.MidRow
namespace Go.Proofs.Ytaccmeffcjfeeaa
open Go.RowKit

/-- Bytes as cells. -/
def bc (l : List UInt8) : List Value := l.map fun c => Value.int .u8 (c.toNat : Int)
theorem bc_len (l : List UInt8) : (bc l).length = l.length := by simp [bc]
theorem bc_one (l : List UInt8) : ∀ v ∈ bc l, v.oneCell' = true := by
  intro v hv
  simp only [bc, List.mem_map] at hv
  obtain ⟨c, _, rfl⟩ := hv
  rfl
/-- An open write as cells. -/
def oc (p : Nat × List UInt8) : List Value := .int .i64 (p.1 : Int) :: bc p.2

/-- Block b holds the bytes l. -/
def By (w : World) (b : Nat) (l : List UInt8) : Prop := ∃ T, w.heap[b]? = some (.cells (bc l).toArray T (0, 0))
theorem By.keep {w w' : World} {b : Nat} {l : List UInt8} (h : By w b l) (e : w'.heap[b]? = w.heap[b]?) : By w' b l := by
  obtain ⟨T, hb⟩ := h
  exact ⟨T, e.trans hb⟩
theorem By.lt {w : World} {b : Nat} {l : List UInt8} (h : By w b l) : b < w.heap.size := by
  obtain ⟨_, hb⟩ := h
  exact (Array.getElem?_eq_some_iff.1 hb).1
theorem By.cell {w : World} {b : Nat} {l : List UInt8} (h : By w b l) {k : Nat} (hk : k < l.length) : w.cell? ⟨b, k, none⟩ = some (.int .u8 (l[k].toNat : Int)) := by
  obtain ⟨T, hb⟩ := h
  simp [World.cell?, hb, hk, bc]
theorem By.free {w : World} {b : Nat} {l : List UInt8} (h : By w b l) (k : Nat) : w.frozen? ⟨b, k, none⟩ = false := by
  obtain ⟨T, hb⟩ := h
  simp [World.frozen?, hb]
theorem By.set {w : World} {b : Nat} {l : List UInt8} (h : By w b l) (k : Nat) (d : UInt8) : By (w.setCell ⟨b, k, none⟩ (.int .u8 (d.toNat : Int))) b (l.set k d) := by
  obtain ⟨T, hb⟩ := h
  refine ⟨T, ?_⟩
  rw [heap_setCell_same w b k _ T _ hb]
  simp [List.map_set, bc]
theorem By.conv {w : World} {b : Nat} {l : List UInt8} (h : By w b l) (n cap : Nat) (hn : l.length = n) : (convert 60 9 (.slice (some ⟨b, 0, none⟩) n cap)).run Try.prog w = .ok (.string ⟨l.toArray⟩) w := by
  subst hn
  refine run_convert_bytes_back (P := Try.prog) _ 60 9 5 ⟨b, 0, none⟩ cap l Try.underlying60 Try.underlying5 Try.underlying9 ?_
  intro j hj
  have hadd : (⟨b, 0, none⟩ : Addr).add j = ⟨b, j, none⟩ := by unfold Addr.add; split <;> simp_all
  rw [hadd]
  exact h.cell hj
theorem info5 : (Try.prog.info? 5).map (fun i => (i.zero, i.size, i.bytes)) = some (some (.int .u8 0), 1, 1) := by kernel_rfl
theorem made_bytes (n : Nat) : madeCells #[Value.int .u8 0] n = (bc (List.replicate n (0 : UInt8))).toArray := by
  apply Array.ext
  · simp [madeCells, bc]
  · intro i h1 h2
    simp [madeCells, Nat.mod_one, bc]

/-! ### fill -/
theorem wpList_make_bytes (w : World) {ops : Array Oper} {rest : List Oper} {o : Oper} {a : Act} {Q : Exit → Act → World → Prop}
    (hg : o.guard = none) (l c : Operand) (hop : o.op = Op.makeSlice 60 l c) (n : Nat) (hn : n ≤ 1000) (hl : a.eval l = .int .i64 n) (hc : a.eval c = .int .i64 n)
    (hK : ∀ w' Z, Hid (Z.length = n) → By w' w.heap.size Z → Below w.heap.size w w' → wpList Try.prog ops Q rest (a.put o.dst (.slice (some ⟨w.heap.size, 0, none⟩) n n)) w') :
    wpList Try.prog ops Q (o :: rest) a w := by
  obtain ⟨i0, hi, hz0, hz1, hz2⟩ := info_parts info5
  refine wpList_plain hg fun K hK' => ?_
  have hrun := run_make (P := Try.prog) w 60 5 i0 (.int .u8 0) Try.underlying60 hi hz0 .i64 .i64 (n : Int) (n : Int) (by omega) (Int.le_refl _) (by rw [hz2]; omega) (by omega)
  rw [hz1] at hrun
  simp only [Int.toNat_natCast, Nat.mul_one, Value.cells] at hrun
  rw [made_bytes] at hrun
  unfold Oper.wp
  simp [execOp, hop, hl, hc, hrun, Result.andThen]
  refine hK' _ _ (hK _ (List.replicate n 0) (by show _ = n; simp) ⟨5, ?_⟩ ((Below.refl _ _).alloc (Nat.le_refl _) _))
  rw [heap_alloc_new]

/-- A sector of one byte. -/
def fil (x : UInt8) : ByteArray := ⟨(List.replicate 64 x).toArray⟩
theorem set_take {α : Type} (l : List α) (k : Nat) (hk : k < l.length) (x : α) : (l.set k x).take (k + 1) = l.take k ++ [x] := by
  rw [List.take_set, List.take_succ_eq_append_getElem hk, List.set_append_right _ _ (by simp; omega), List.length_take, Nat.min_eq_left (Nat.le_of_lt hk)]
  simp

set_option maxHeartbeats 400000 in
theorem fill_any (x : UInt8) (w : World) :
    Calls Try.prog 11 #[.int .u8 (x.toNat : Int)] w fun e w' => e = .returned (.string (fil x)) ∧ Below w.heap.size w w' := by
  have hF : fil x = ⟨(List.replicate 64 x).toArray⟩ := rfl
  generalize fil x = F at *
  have HF := Lib.hid hF
  clear hF
  go_enter Try.func11, Try.ntmps11
  go_wp2_with (refine wpList_make_bytes _ rfl _ _ rfl 64 (by omega) rfl rfl ?_)
  intro w1 Z hZl hB hb
  go_wp2_with fail
  go_loopw [4] (fun i wr => ∃ (k : Nat) (l : List UInt8), k ≤ 64 ∧ i = .int .i64 k ∧ By wr w.heap.size l ∧ Hid (l.length = 64) ∧ Hid (l.take k = List.replicate k x) ∧ Below w.heap.size w wr) (fun i _ => 64 - (intOf i).toNat)
  case atStart => exact ⟨0, Z, by omega, rfl, hB, hZl, by show _ = _; simp, hb⟩
  case round =>
    obtain ⟨k, l, hk, rfl, hBr, hll, hlk, hbr⟩ := hrel
    by_cases hlt : k < 64
    · have hkl : k < l.length := by have := hll.out; omega
      have hc := hBr.cell hkl
      have hf := hBr.free k
      go_wp2_with fail
      go_roundw
      case rel =>
        refine ⟨k + 1, l.set k x, by omega, by go_num, hBr.set k x, ?_, ?_, hbr.setCell (Nat.le_refl _) _⟩
        · show (l.set k x).length = 64
          rw [List.length_set]; exact hll.out
        · show (l.set k x).take (k + 1) = List.replicate (k + 1) x
          rw [set_take _ _ hkl, hlk.out, List.replicate_succ']
      case measure => simp [intOf]; omega
    · obtain rfl : k = 64 := by omega
      have hl : Hid (l = List.replicate 64 x) := by
        show l = List.replicate 64 x
        have := hlk.out
        rwa [List.take_of_length_le (by rw [hll.out]; omega)] at this
      have hcv := hBr.conv 64 64 hll.out
      go_wp2_with fail
      go_ret
      exact ⟨by rw [HF.out, ← hl.out]; rfl, hbr⟩

/-! ### The disk -/
/-- The disk in block b: its n sectors S in block s; its open writes O, a slice at oa. -/
structure Dk (w : World) (b s n : Nat) (S : List (List UInt8)) (O : List (Nat × List UInt8)) (m : Nat) (oa : Option Addr) (cap : Nat) (f r : Int) : Prop where
  box : ∃ T, w.heap[b]? = some (.cells #[.slice (some ⟨s, 0, none⟩) n n, .slice oa m cap, .int .i64 f, .int .i64 r] T (0, 0))
  sec : ∃ T, w.heap[s]? = some (.cells (S.flatMap bc).toArray T (0, 0))
  len : S.length = n
  all : ∀ x ∈ S, x.length = 64
  many : O.length = m
  own : w.ownsRow 0 64 65 (.slice oa m cap) m (O.flatMap oc)
  oall : ∀ p ∈ O, p.1 < n ∧ p.2.length = 64
  ne : b ≠ s
  nob : (Value.slice oa m cap).ownBlock ≠ some b
  nos : (Value.slice oa m cap).ownBlock ≠ some s
  lo : 1 ≤ n
  hi : n ≤ 1024
  few : m ≤ 1000
  f0 : 0 ≤ f
  f1 : f ≤ 9223372036854775807
  r0 : 0 ≤ r
  r1 : r ≤ 1000000

/-- All but the disk's own blocks is as it was. -/
structure Moved (w w' : World) (b s : Nat) (oa : Option Addr) : Prop where
  os : w'.os = w.os
  tape : w'.tape = w.tape
  output : w'.output = w.output
  size : w.heap.size ≤ w'.heap.size
  block : ∀ k, k < w.heap.size → k ≠ b → k ≠ s → (Value.slice oa 0 0).ownBlock ≠ some k → w'.heap[k]? = w.heap[k]?

theorem own_slice (oa : Option Addr) (m cap m' cap' : Nat) : (Value.slice oa m cap).ownBlock = (Value.slice oa m' cap').ownBlock := by cases oa <;> rfl

section
variable {w : World} {b s n : Nat} {S : List (List UInt8)} {O : List (Nat × List UInt8)} {m : Nat} {oa : Option Addr} {cap : Nat} {f r : Int}
theorem Dk.lt (h : Dk w b s n S O m oa cap f r) : b < w.heap.size := by
  obtain ⟨_, hb⟩ := h.box
  exact (Array.getElem?_eq_some_iff.1 hb).1
theorem Dk.lts (h : Dk w b s n S O m oa cap f r) : s < w.heap.size := by
  obtain ⟨_, hb⟩ := h.sec
  exact (Array.getElem?_eq_some_iff.1 hb).1
theorem cellAt {w : World} {b : Nat} {cs : Array Value} {t : TypeId} (h : w.heap[b]? = some (.cells cs t (0, 0))) (j : Nat) {v : Value} (hj : cs[j]? = some v) : w.cell? ⟨b, j, none⟩ = some v := by simp [World.cell?, h, hj]
theorem freeAt {w : World} {b : Nat} {cs : Array Value} {t : TypeId} (h : w.heap[b]? = some (.cells cs t (0, 0))) (j : Nat) : w.frozen? ⟨b, j, none⟩ = false := by simp [World.frozen?, h]
theorem Dk.c0 (h : Dk w b s n S O m oa cap f r) : w.cell? ⟨b, 0, none⟩ = some (.slice (some ⟨s, 0, none⟩) n n) := by obtain ⟨_, hb⟩ := h.box; exact cellAt hb 0 rfl
theorem Dk.c1 (h : Dk w b s n S O m oa cap f r) : w.cell? ⟨b, 1, none⟩ = some (.slice oa m cap) := by obtain ⟨_, hb⟩ := h.box; exact cellAt hb 1 rfl
theorem Dk.c2 (h : Dk w b s n S O m oa cap f r) : w.cell? ⟨b, 2, none⟩ = some (.int .i64 f) := by obtain ⟨_, hb⟩ := h.box; exact cellAt hb 2 rfl
theorem Dk.c3 (h : Dk w b s n S O m oa cap f r) : w.cell? ⟨b, 3, none⟩ = some (.int .i64 r) := by obtain ⟨_, hb⟩ := h.box; exact cellAt hb 3 rfl
theorem Dk.fr (h : Dk w b s n S O m oa cap f r) (j : Nat) : w.frozen? ⟨b, j, none⟩ = false := by obtain ⟨_, hb⟩ := h.box; exact freeAt hb j

/-- The row of open writes is where it was. -/
theorem own_keep {w w' : World} {oa : Option Addr} {m cap : Nat} {xs : List Value} (h : w.ownsRow 0 64 65 (.slice oa m cap) m xs) (e : ∀ k, k < w.heap.size → (Value.slice oa m cap).ownBlock = some k → w'.heap[k]? = w.heap[k]?) : w'.ownsRow 0 64 65 (.slice oa m cap) m xs := by
  refine ⟨h.1, ?_⟩
  rcases h.2 with h0 | ⟨g, cap', cur, hv, hb, hg, hrest⟩
  · exact .inl h0
  · refine .inr ⟨g, cap', cur, hv, hb, ?_, hrest⟩
    have hlt : g < w.heap.size := (Array.getElem?_eq_some_iff.1 hg).1
    rw [e g hlt (by rw [hv]; rfl)]
    exact hg
/-- A world in which the disk's blocks are as they were. -/
theorem Dk.keep {w' : World} (h : Dk w b s n S O m oa cap f r) (e : ∀ k, k < w.heap.size → (k = b ∨ k = s ∨ (Value.slice oa m cap).ownBlock = some k) → w'.heap[k]? = w.heap[k]?) : Dk w' b s n S O m oa cap f r := by
  obtain ⟨T, hb⟩ := h.box
  obtain ⟨T', hs⟩ := h.sec
  exact { h with box := ⟨T, (e b h.lt (.inl rfl)).trans hb⟩, sec := ⟨T', (e s h.lts (.inr (.inl rfl))).trans hs⟩, own := own_keep h.own fun k hk hv => e k hk (.inr (.inr hv)) }
theorem Dk.below {w' : World} (h : Dk w b s n S O m oa cap f r) (hb : Below w.heap.size w w') : Dk w' b s n S O m oa cap f r :=
  h.keep fun k hk _ => hb.block k hk
/-- Another world of a box. -/
theorem Dk.setf (h : Dk w b s n S O m oa cap f r) (f' : Int) (h0 : 0 ≤ f') (h1 : f' ≤ 9223372036854775807) : Dk (w.setCell ⟨b, 2, none⟩ (.int .i64 f')) b s n S O m oa cap f' r := by
  obtain ⟨T, hb⟩ := h.box
  obtain ⟨T', hs⟩ := h.sec
  refine { h with box := ⟨T, ?_⟩, sec := ⟨T', (heap_setCell_other _ _ _ _ h.ne.symm).trans hs⟩, own := own_keep h.own fun k hk hv => heap_setCell_other _ _ _ _ (fun e => h.nob (by rw [hv, e])), f0 := h0, f1 := h1 }
  rw [heap_setCell_same w b 2 _ T _ hb]
  rfl
theorem Dk.setr (h : Dk w b s n S O m oa cap f r) (r' : Int) (h0 : 0 ≤ r') (h1 : r' ≤ 1000000) : Dk (w.setCell ⟨b, 3, none⟩ (.int .i64 r')) b s n S O m oa cap f r' := by
  obtain ⟨T, hb⟩ := h.box
  obtain ⟨T', hs⟩ := h.sec
  refine { h with box := ⟨T, ?_⟩, sec := ⟨T', (heap_setCell_other _ _ _ _ h.ne.symm).trans hs⟩, own := own_keep h.own fun k hk hv => heap_setCell_other _ _ _ _ (fun e => h.nob (by rw [hv, e])), r0 := h0, r1 := h1 }
  rw [heap_setCell_same w b 3 _ T _ hb]
  rfl

theorem Moved.refl (w : World) (b s : Nat) (oa : Option Addr) : Moved w w b s oa := ⟨rfl, rfl, rfl, Nat.le_refl _, fun _ _ _ _ _ => rfl⟩
theorem Moved.trans {w1 w2 : World} (h : Moved w w1 b s oa) (h2 : Moved w1 w2 b s oa) : Moved w w2 b s oa :=
  ⟨h2.os.trans h.os, h2.tape.trans h.tape, h2.output.trans h.output, Nat.le_trans h.size h2.size, fun k hk hb hs ho => (h2.block k (Nat.lt_of_lt_of_le hk h.size) hb hs ho).trans (h.block k hk hb hs ho)⟩
theorem Moved.set (w : World) (b s : Nat) (oa : Option Addr) (j : Nat) (v : Value) : Moved w (w.setCell ⟨b, j, none⟩ v) b s oa :=
  ⟨rfl, rfl, rfl, by simp [World.setCell], fun k _ hb _ _ => heap_setCell_other _ _ _ _ hb⟩
theorem Moved.below {w' : World} (h : Below w.heap.size w w') : Moved w w' b s oa := ⟨h.os, h.tape, h.output, h.size, fun k hk _ _ _ => h.block k hk⟩

/-! ### The small methods -/
theorem len_any (h : Dk w b s n S O m oa cap f r) : Calls Try.prog 25 #[.pointer (some ⟨b, 0, none⟩)] w fun e w' => e = .returned (.int .i64 n) ∧ w = w' := by
  have c0 := h.c0
  go_enter Try.func25, Try.ntmps25
  go_wp2
  go_ret
  exact ⟨rfl, rfl⟩
theorem len_nil (w : World) : Calls Try.prog 25 #[.pointer none] w fun e w' => e = .returned (.int .i64 0) ∧ w = w' := by
  go_enter Try.func25, Try.ntmps25
  go_wp2
  go_ret
  exact ⟨rfl, rfl⟩
theorem open_any (h : Dk w b s n S O m oa cap f r) : Calls Try.prog 16 #[.pointer (some ⟨b, 0, none⟩)] w fun e w' => e = .returned (.int .i64 m) ∧ w = w' := by
  have c1 := h.c1
  go_enter Try.func16, Try.ntmps16
  go_wp2
  go_ret
  exact ⟨rfl, rfl⟩
theorem open_nil (w : World) : Calls Try.prog 16 #[.pointer none] w fun e w' => e = .returned (.int .i64 0) ∧ w = w' := by
  go_enter Try.func16, Try.ntmps16
  go_wp2
  go_ret
  exact ⟨rfl, rfl⟩
theorem reads_any (h : Dk w b s n S O m oa cap f r) : Calls Try.prog 24 #[.pointer (some ⟨b, 0, none⟩)] w fun e w' => e = .returned (.int .i64 r) ∧ w = w' := by
  have c3 := h.c3
  go_enter Try.func24, Try.ntmps24
  go_wp2
  go_ret
  exact ⟨rfl, rfl⟩
theorem reads_nil (w : World) : Calls Try.prog 24 #[.pointer none] w fun e w' => e = .returned (.int .i64 0) ∧ w = w' := by
  go_enter Try.func24, Try.ntmps24
  go_wp2
  go_ret
  exact ⟨rfl, rfl⟩
theorem fail_nil (k : Int) (w : World) : Calls Try.prog 17 #[.pointer none, .int .i64 k] w fun e w' => e = .returned (.tuple #[]) ∧ w = w' := by
  go_enter Try.func17, Try.ntmps17
  go_wp2
  go_end0
  exact ⟨rfl, rfl⟩
theorem there_in (h : Dk w b s n S O m oa cap f r) (k : Int) (h0 : 0 ≤ k) (h1 : k < n) : Calls Try.prog 26 #[.pointer (some ⟨b, 0, none⟩), .int .i64 k] w fun e w' => e = .returned (.bool true) ∧ w = w' := by
  go_enter Try.func26, Try.ntmps26
  go_wp2_with (go_at_call 25; refine (len_any h).mono ?_; rintro e w1 ⟨rfl, rfl⟩)
  go_ret
  exact ⟨rfl, rfl⟩
theorem there_out (h : Dk w b s n S O m oa cap f r) (k : Int) (h1 : ¬ (0 ≤ k ∧ k < n)) : Calls Try.prog 26 #[.pointer (some ⟨b, 0, none⟩), .int .i64 k] w fun e w' => e = .returned (.bool false) ∧ w = w' := by
  by_cases h0 : 0 ≤ k
  · have h2 : ¬ k < (n : Int) := by omega
    have h3 : decide (k < (n : Int)) = false := by simp; omega
    clear h1
    go_enter Try.func26, Try.ntmps26
    go_wp2_with (go_at_call 25; refine (len_any h).mono ?_; rintro e w1 ⟨rfl, rfl⟩)
    go_ret
    exact ⟨rfl, rfl⟩
  · clear h1
    go_enter Try.func26, Try.ntmps26
    go_wp2_with (go_at_call 25; refine (len_any h).mono ?_; rintro e w1 ⟨rfl, rfl⟩)
    go_ret
    exact ⟨rfl, rfl⟩
theorem there_nil (k : Int) (w : World) : Calls Try.prog 26 #[.pointer none, .int .i64 k] w fun e w' => e = .returned (.bool false) ∧ w = w' := by
  by_cases h0 : 0 ≤ k
  · have h2 : ¬ k < (0 : Int) := by omega
    have h3 : decide (k < (0 : Int)) = false := by simp; omega
    go_enter Try.func26, Try.ntmps26
    go_wp2_with (go_at_call 25; refine (len_nil _).mono ?_; rintro e w1 ⟨rfl, rfl⟩)
    go_ret
    exact ⟨rfl, rfl⟩
  · go_enter Try.func26, Try.ntmps26
    go_wp2_with (go_at_call 25; refine (len_nil _).mono ?_; rintro e w1 ⟨rfl, rfl⟩)
    go_ret
    exact ⟨rfl, rfl⟩

/-- One operation less till the one that fails. -/
def failS (f : Int) : Bool × Int := if f = 0 then (false, 0) else (f - 1 == 0, f - 1)
theorem fails_any (h : Dk w b s n S O m oa cap f r) (fl : Bool) (f' : Int) (hf : failS f = (fl, f')) :
    Calls Try.prog 27 #[.pointer (some ⟨b, 0, none⟩)] w fun e w' => e = .returned (.bool fl) ∧ Dk w' b s n S O m oa cap f' r ∧ Moved w w' b s oa ∧ w'.heap.size = w.heap.size := by
  unfold failS at hf
  have c2 := h.c2
  have fr := h.fr 2
  have h0 := h.f0
  have h1 := h.f1
  split at hf <;> obtain ⟨rfl, rfl⟩ := hf
  · rename_i hz
    subst hz
    go_enter Try.func27, Try.ntmps27
    go_wp2
    go_ret
    exact ⟨rfl, h, Moved.refl _ _ _ _, rfl⟩
  · rename_i hz
    have hz2 : (f == 0) = false := by rw [beq_eq_false_iff_ne]; exact hz
    have hS := h.setf (f - 1) (by omega) (by omega)
    have hM := Moved.set w b s oa 2 (.int .i64 (f - 1))
    have cs := hS.c2
    clear hz
    go_enter Try.func27, Try.ntmps27
    go_wp2
    go_ret
    exact ⟨rfl, hS, hM, by simp [World.setCell]⟩
theorem Fail_any (h : Dk w b s n S O m oa cap f r) (k f' : Int) (hk : k ≤ 9223372036854775807) (hf : (if 0 < k then k else 0) = f') :
    Calls Try.prog 17 #[.pointer (some ⟨b, 0, none⟩), .int .i64 k] w fun e w' => e = .returned (.tuple #[]) ∧ Dk w' b s n S O m oa cap f' r ∧ Moved w w' b s oa ∧ w'.heap.size = w.heap.size := by
  have c2 := h.c2
  have fr := h.fr 2
  have hmax : ∀ w, (Builtin.max_ #[3, 3] 3 #[.int .i64 k, .int .i64 0]).run Try.prog w = .ok (.int .i64 f') w := by
    intro w
    subst hf
    simp [Builtin.max_, Builtin.max2]
    repeat' split
    all_goals first | rfl | omega
  have hf0 : 0 ≤ f' := by subst hf; split <;> omega
  have hf1 : f' ≤ 9223372036854775807 := by subst hf; split <;> omega
  clear hf
  have hS := h.setf f' hf0 hf1
  have hM := Moved.set w b s oa 2 (.int .i64 f')
  go_enter Try.func17, Try.ntmps17
  go_wp2
  go_end0
  exact ⟨rfl, hS, hM, by simp [World.setCell]⟩
end

end Go.Proofs.Ytaccmeffcjfeeaa
