/-
  The table in memory: its cells, and how they turn; 'fill' makes the table.
  The table is made once; 'More' of the table: its contracts.
  Texts cut short; a sum's bytes, and a sum out of bytes; the chapter's examples.
  A sum out of bytes; the document's own sums and bytes.
  A strings.Builder, alone or in a struct of two cells: the check ahead of a write, one byte written.
-/
import Derived.Test.YtoichcickcgbgaaGreatDoorGDFlCPlain
import Derived.WalkMore
import Derived.Laws.NewBlocks
import Derived.Deep.QuietTactic
import Derived.BigQuiet
import Derived.Test.YtoichcickcgbgaaGreatDoorGLayPe
import Derived.Laws.Externs
import Derived.Lib.UnsafeStr
import Derived.Lib.Builder
import Derived.RangeFuncBox
import Derived.RegionTactic
import Derived.ChangeAlike
namespace Go.Proofs.YtoichcickcgbgaaGreatDoor.Crc1
open Go.RowKit Crc
def u32 (n : Nat) : Value := .int .u32 n
def rowOf (d : Nat) (s : Int) (l : List Nat) : Array Value := (([.int .u32 d, .int .i32 s, .int .u32 0] : List Value) ++ l.map u32).toArray
/-- Block b holds a table: its Once's flag, the lock, and what it knows of each byte. -/
def Tb (w : World) (b d : Nat) (s : Int) (l : List Nat) : Prop := ∃ T, w.heap[b]? = some (.cells (rowOf d s l) T (0, 0)) ∧ l.length = 256
theorem Tb.lt {w : World} {b d : Nat} {s : Int} {l : List Nat} (h : Tb w b d s l) : b < w.heap.size := by
  obtain ⟨_, hb, _⟩ := h
  exact (Array.getElem?_eq_some_iff.1 hb).1
theorem Tb.len {w : World} {b d : Nat} {s : Int} {l : List Nat} (h : Tb w b d s l) : l.length = 256 := by obtain ⟨_, _, h⟩ := h; exact h
theorem Tb.free {w : World} {b d : Nat} {s : Int} {l : List Nat} (h : Tb w b d s l) (k : Nat) : w.frozen? ⟨b, k, none⟩ = false := by
  obtain ⟨_, hb, _⟩ := h
  simp [World.frozen?, hb]
theorem Tb.c0 {w : World} {b d : Nat} {s : Int} {l : List Nat} (h : Tb w b d s l) : w.cell? ⟨b, 0, none⟩ = some (.int .u32 d) := by
  obtain ⟨_, hb, _⟩ := h
  simp [World.cell?, hb, rowOf]
theorem Tb.c1 {w : World} {b d : Nat} {s : Int} {l : List Nat} (h : Tb w b d s l) : w.cell? ⟨b, 1, none⟩ = some (.int .i32 s) := by
  obtain ⟨_, hb, _⟩ := h
  simp [World.cell?, hb, rowOf]
theorem Tb.cell {w : World} {b d : Nat} {s : Int} {l : List Nat} (h : Tb w b d s l) {k : Nat} (hk : k < 256) : w.cell? ⟨b, 3 + k, none⟩ = some (.int .u32 (l.getD k 0 : Nat)) := by
  obtain ⟨_, hb, hl⟩ := h
  have hk' : k < l.length := by omega
  have e : (([.int .u32 d, .int .i32 s, .int .u32 0] : List Value) ++ l.map u32)[3 + k]? = some (u32 l[k]) := by
    rw [List.getElem?_append_right (by simp)]
    simp [hk']
  simp only [World.cell?, hb, rowOf, List.getElem?_toArray]
  rw [e]
  simp [u32, hk']
theorem Tb.keep {w w' : World} {b d : Nat} {s : Int} {l : List Nat} (h : Tb w b d s l) (e : w'.heap[b]? = w.heap[b]?) : Tb w' b d s l := by
  obtain ⟨T, hb, hl⟩ := h
  exact ⟨T, e.trans hb, hl⟩
theorem Tb.set {w : World} {b d : Nat} {s : Int} {l : List Nat} (h : Tb w b d s l) (k v : Nat) : Tb (w.setCell ⟨b, 3 + k, none⟩ (.int .u32 v)) b d s (l.set k v) := by
  obtain ⟨T, hb, hl⟩ := h
  refine ⟨T, ?_, by simpa using hl⟩
  rw [heap_setCell_same w b (3 + k) _ T _ hb]
  congr 2
  simp only [rowOf, List.setIfInBounds_toArray]
  rw [List.set_append_right _ _ (by simp)]
  simp [List.map_set, u32]
theorem Tb.set0 {w : World} {b d : Nat} {s : Int} {l : List Nat} (h : Tb w b d s l) (v : Nat) : Tb (w.setCell ⟨b, 0, none⟩ (.int .u32 v)) b v s l := by
  obtain ⟨T, hb, hl⟩ := h
  refine ⟨T, ?_, hl⟩
  rw [heap_setCell_same w b 0 _ T _ hb]
  simp [rowOf]
theorem Tb.set1 {w : World} {b d : Nat} {s : Int} {l : List Nat} (h : Tb w b d s l) (v : Int) : Tb (w.setCell ⟨b, 1, none⟩ (.int .i32 v)) b d v l := by
  obtain ⟨T, hb, hl⟩ := h
  refine ⟨T, ?_, hl⟩
  rw [heap_setCell_same w b 1 _ T _ hb]
  simp [rowOf]
theorem grown_set (w : World) (b k : Nat) (v : Value) : w.grownBy (w.setCell ⟨b, k, none⟩ v) (some b) :=
  ⟨rfl, rfl, rfl, by simp [World.setCell], fun i _ hi => heap_setCell_other w ⟨b, k, none⟩ i v (fun e => hi (by rw [e]))⟩
/-- The table. -/
def table : List Nat := (List.range 256).map tab
def it : Nat → Nat → Nat
  | 0, x => x
  | m + 1, x => it m (st x)
theorem and1 (x : Nat) (hx : x < 2 ^ 32) : bits .and .u32 (x : Int) 1 = ((x % 2 : Nat) : Int) := by
  have := u32_and_nat x 1 (by omega) (by omega)
  rw [Nat.and_one_is_mod] at this
  exact this
theorem xorT (y : Nat) (hy : y < 2 ^ 32) : bits .xor .u32 (y : Int) 3988292384 = ((y ^^^ 3988292384 : Nat) : Int) := u32_xor_nat y 3988292384 (by omega) (by omega)
theorem st_even' {x : Nat} (h : x % 2 = 0) : st x = x / 2 := by
  unfold st
  rw [if_neg (by omega), Nat.xor_zero, Nat.shiftRight_succ, Nat.shiftRight_zero]
theorem st_odd {x : Nat} (h : x % 2 = 1) : st x = (x / 2) ^^^ 3988292384 := by
  unfold st
  rw [if_pos h, Nat.shiftRight_succ, Nat.shiftRight_zero]
theorem range_step (l : List Nat) (hl : l.length = 256) {k : Nat} (hk : k < 256) (v : Nat) (hv : v = tab k) : ((List.range k).map tab ++ l.drop k).set k v = (List.range (k + 1)).map tab ++ l.drop (k + 1) := by
  have hkl : k < l.length := by omega
  have e2 : k - ((List.range k).map tab).length = 0 := by simp
  rw [List.set_append_right _ _ (by simp), List.drop_eq_getElem_cons hkl, e2, List.set_cons_zero, List.range_succ, List.map_append, List.append_assoc, hv]
  rfl
set_option maxRecDepth 100000 in
set_option maxHeartbeats 400000 in
theorem fill_any {w : World} {b d : Nat} {s : Int} {l : List Nat} (h : Tb w b d s l) :
    Calls Tryz.prog 218 #[.pointer (some ⟨b, 0, none⟩)] w fun e w' => e = .returned (.tuple #[]) ∧ Tb w' b d s table ∧ w.grownBy w' (some b) := by
  have hl := Lib.hid h.len
  go_enter Tryz.func218, Tryz.ntmps218
  go_wp2
  go_loopw [4] (fun i wr => ∃ k : Nat, k ≤ 256 ∧ i = .int .i64 k ∧ Hid (Tb wr b d s ((List.range k).map tab ++ l.drop k)) ∧ w.grownBy wr (some b)) (fun i _ => 256 - (intOf i).toNat)
  case atStart => exact ⟨0, by omega, rfl, by simpa [Hid] using h, World.grownBy.refl _ _⟩
  case round =>
    obtain ⟨k, hk, rfl, hT, hg⟩ := hrel
    by_cases hlt : k < 256
    · have hk1 : (k : Int) < 256 := by omega
      go_wp2
      go_step3
      go_wp2
      go_step3
      go_wp2
      obtain ⟨wo, rfl⟩ : ∃ wo : World, wo = wr := ⟨_, rfl⟩
      go_loop [3, 9] (fun n i => ∃ (j x : Nat), j ≤ 8 ∧ i = .int .i64 j ∧ n = .int .u32 x ∧ x < 4294967296 ∧ Hid (it (8 - j) x = tab k)) (fun _ i => 8 - (intOf i).toNat)
      case atStart => exact ⟨0, k, by omega, rfl, rfl, by omega, rfl⟩
      case round =>
        obtain ⟨j, x, hj, rfl, rfl, hx, hit⟩ := hrel
        by_cases hj8 : j < 8
        · have hst : Hid (it (8 - (j + 1)) (st x) = tab k) := by
            have := hit.out
            rw [show 8 - j = (8 - (j + 1)) + 1 from by omega] at this
            exact this
          obtain ⟨y, hy, hy2⟩ : ∃ y : Nat, (x : Int) / 2 = y ∧ y = x / 2 := ⟨x / 2, by omega, rfl⟩
          have HY := Lib.hid hy2
          clear hy2
          rcases Nat.mod_two_eq_zero_or_one x with h0 | h1
          · have ha : bits .and .u32 (x : Int) 1 = 0 := by rw [and1 x hx, h0]; rfl
            have HST : Hid (st x = y) := by show st x = y; rw [st_even' h0, HY.out]
            have hyl : y < 4294967296 := by rw [HY.out]; omega
            clear h0
            go_wp2
            go_round
            case rel => exact ⟨j + 1, y, by omega, by go_num, by go_num, hyl, by rw [← HST.out]; exact hst⟩
            case measure => simp [intOf]; omega
          · have ha : bits .and .u32 (x : Int) 1 = 1 := by rw [and1 x hx, h1]; rfl
            have hyl : y < 4294967296 := by rw [HY.out]; omega
            have hxo := xorT y hyl
            have HST : Hid (st x = y ^^^ 3988292384) := by show st x = _; rw [st_odd h1, HY.out]
            have hsl := st_lt x hx
            rw [HST.out] at hsl
            obtain ⟨z, hz⟩ : ∃ z, y ^^^ 3988292384 = z := ⟨_, rfl⟩
            rw [hz] at hxo hsl HST
            clear h1 hz
            go_wp2
            go_round
            case rel => exact ⟨j + 1, z, by omega, by go_num, by go_num, by omega, by rw [← HST.out]; exact hst⟩
            case measure => simp [intOf]; omega
        · obtain rfl : j = 8 := by omega
          have hcell := hT.out.cell hlt
          have hfree := hT.out.free (3 + k)
          obtain ⟨v, hv⟩ : ∃ v, (((List.range k).map tab ++ l.drop k).getD k 0 : Nat) = v := ⟨_, rfl⟩
          rw [hv] at hcell
          clear hv
          go_wp2
          go_roundw
          case rel => exact ⟨k + 1, by omega, by go_num, by rw [← range_step l hl.out hlt x hit.out]; exact hT.out.set k x, hg.trans (grown_set _ _ _ _)⟩
          case measure => simp [intOf]; omega
    · obtain rfl : k = 256 := by omega
      go_wp2
      go_end0
      refine ⟨rfl, ?_, hg⟩
      have := hT.out
      rw [List.drop_of_length_le (by have := hl.out; omega), List.append_nil] at this
      exact this
end Go.Proofs.YtoichcickcgbgaaGreatDoor.Crc1
namespace Go.Proofs.YtoichcickcgbgaaGreatDoor.Crc1
open Go.RowKit Crc
theorem grown_drew_set (w : World) (b k : Nat) (v : Value) : w.grownBy (w.drew.setCell ⟨b, k, none⟩ v) (some b) :=
  have h := grown_set w.drew b k v
  ⟨h.os, h.tape, h.output, h.size, h.block⟩
theorem grown_drewN {w w' : World} {r : Option Nat} (h : w.grownBy w' r) (n : Nat) : w.grownBy (w'.drewN n) r := ⟨h.os, h.tape, h.output, h.size, h.block⟩
set_option maxRecDepth 100000 in
set_option maxHeartbeats 1600000 in
theorem slow_any {w : World} {b : Nat} {l : List Nat} (h : Tb w b 0 0 l) :
    Calls Tryz.prog 232 #[.pointer (some ⟨b, 0, none⟩), .func (.func 218) #[.pointer (some ⟨b, 0, none⟩)] #[]] w fun e w' => e = .returned (.tuple #[]) ∧ Tb w' b 1 0 table ∧ w.grownBy w' (some b) := by
  have h1 := h.set1 1
  have hl := run_call_load (P := Tryz.prog) Tryz.func244 (by kernel_rfl) (by kernel_rfl) (by kernel_rfl) .u32 (by kernel_rfl) h1.c0
  have hc := h.c1
  have hf := h.free 1
  have hnot : ∀ (x : Bool) (w : World), (Op.unary .not (.bool x)).run Tryz.prog w = .ok (.bool (!x)) w := fun _ _ => rfl
  go_enter_defers Tryz.func232, Tryz.ntmps232
  go_wp2_with (first | (go_at_call 245; refine (lock_free ⟨b, 1, none⟩ _ hc hf).mono ?_; rintro e w' ⟨rfl, rfl⟩) | (go_at_call 231; go_in) | (go_at_call 218; refine (fill_any h1).mono ?_; rintro e w2 ⟨rfl, hT2, hg2⟩))
  refine leaves_cons (f := 247) (args := #[.pointer (some ⟨b, 0, none⟩), .bool true]) (by simp) (by simp [go_sem]) ?_
  refine (store_deferred ⟨b, 0, none⟩ (.int .u32 0) .returning _ hT2.c0 (hT2.free 0)).mono ?_
  rintro e u' w3 ⟨rfl, rfl, rfl⟩
  have hT3 : Tb (w2.drew.setCell ⟨b, 0, none⟩ (.int .u32 1)) b 1 1 table := (hT2.keep (w' := w2.drew) rfl).set0 1
  refine leaves_cons (f := 246) (args := #[.pointer (some ⟨b, 1, none⟩)]) (by simp [settle]) (by simp [go_sem]) ?_
  refine (unlock_deferred ⟨b, 1, none⟩ _ _ hT3.c1 (hT3.free 1)).mono ?_
  rintro e u' w4 ⟨rfl, rfl, rfl⟩
  have hT4 := hT3.set1 0
  have hg : w.grownBy ((w2.drew.setCell ⟨b, 0, none⟩ (.int .u32 1)).setCell ⟨b, 1, none⟩ (.int .i32 0)) (some b) :=
    (((grown_set w b 1 _).trans hg2).trans (grown_drew_set w2 b 0 (.int .u32 1))).trans (grown_set _ b 1 _)
  simp [Leaves, settle, results, Tryz.results232]
  exact ⟨hT4, hg⟩
set_option maxRecDepth 100000 in
set_option maxHeartbeats 1600000 in
theorem do_first {w : World} {b : Nat} {l : List Nat} (h : Tb w b 0 0 l) :
    Calls Tryz.prog 217 #[.pointer (some ⟨b, 0, none⟩), .func (.func 218) #[.pointer (some ⟨b, 0, none⟩)] #[]] w fun e w' => e = .returned (.tuple #[]) ∧ Tb w' b 1 0 table ∧ w.grownBy w' (some b) := by
  have hl := run_call_load (P := Tryz.prog) Tryz.func244 (by kernel_rfl) (by kernel_rfl) (by kernel_rfl) .u32 (by kernel_rfl) h.c0
  have hnot : ∀ (x : Bool) (w : World), (Op.unary .not (.bool x)).run Tryz.prog w = .ok (.bool (!x)) w := fun _ _ => rfl
  go_enter Tryz.func217, Tryz.ntmps217
  go_wp2_with (first | (go_at_call 232; refine (slow_any h).mono ?_; rintro e w' ⟨rfl, hT, hg⟩) | (go_at_call 231; go_in))
  go_end0
  exact ⟨rfl, hT, hg⟩
theorem do_done {w : World} {b : Nat} {l : List Nat} {s : Int} (h : Tb w b 1 s l) (fv : Value) :
    Calls Tryz.prog 217 #[.pointer (some ⟨b, 0, none⟩), fv] w fun e w' => e = .returned (.tuple #[]) ∧ w = w' := by
  have hl := run_call_load (P := Tryz.prog) Tryz.func244 (by kernel_rfl) (by kernel_rfl) (by kernel_rfl) .u32 (by kernel_rfl) h.c0
  have hnot : ∀ (x : Bool) (w : World), (Op.unary .not (.bool x)).run Tryz.prog w = .ok (.bool (!x)) w := fun _ _ => rfl
  go_enter Tryz.func217, Tryz.ntmps217
  go_wp2
  go_end0
  exact ⟨rfl, rfl⟩
theorem xorM (n : Nat) (hn : n < 4294967296) : bits .xor .u32 IntKind.u32.max (n : Int) = ((cpl n : Nat) : Int) := by
  have := u32_xor_nat 4294967295 n (by omega) hn
  rw [cpl_xor n hn]
  exact this
/-- A table: made already, or not. -/
def Tab (w : World) (b : Nat) : Prop := (∃ l, Tb w b 0 0 l) ∨ Tb w b 1 0 table
theorem do_any {w : World} {b : Nat} (h : Tab w b) :
    Calls Tryz.prog 217 #[.pointer (some ⟨b, 0, none⟩), .func (.func 218) #[.pointer (some ⟨b, 0, none⟩)] #[]] w fun e w' => e = .returned (.tuple #[]) ∧ Tb w' b 1 0 table ∧ w.grownBy w' (some b) := by
  rcases h with ⟨l, h⟩ | h
  · exact do_first h
  · exact (do_done h _).mono fun _ _ ⟨he, hw⟩ => ⟨he, hw ▸ h, hw ▸ World.grownBy.refl _ _⟩
set_option maxRecDepth 100000 in
set_option maxHeartbeats 1600000 in
theorem more_any {w : World} {b : Nat} (h : Tab w b) (n : Nat) (hn : n < 4294967296) (s : ByteArray) (hs : s.size ≤ 9223372036854775807) :
    Calls Tryz.prog 197 #[.pointer (some ⟨b, 0, none⟩), .int .u32 n, .string s] w fun e w' => e = .returned (.int .u32 (more n s.data.toList : Nat)) ∧ Tb w' b 1 0 table ∧ w.grownBy w' (some b) := by
  have hmf : ∀ (fn : Fn) (first cap : Array Value) (w : World), (Instr.makeFunc fn first cap).run Tryz.prog w = .ok (.func fn first cap) w := fun _ _ _ _ => rfl
  go_enter Tryz.func197, Tryz.ntmps197
  go_wp2_with (go_at_call 217; refine (do_any h).mono ?_; rintro e w1 ⟨rfl, hT, hg⟩)
  have hl0 : (table.length = 256) := by simp [table]
  rw [show bits .xor .u32 IntKind.u32.max (n : Int) = ((cpl n : Nat) : Int) from xorM n hn]
  go_loopw [7, 21] (fun v i wr => ∃ (k x : Nat), k ≤ s.size ∧ i = .int .i64 k ∧ v = .int .u32 x ∧ x < 4294967296 ∧ Hid (run (cpl n) (s.data.toList.take k) = x) ∧ Hid (Tb wr b 1 0 table) ∧ w.grownBy wr (some b)) (fun _ i _ => s.size - (intOf i).toNat)
  case atStart => exact ⟨0, cpl n, Nat.zero_le _, rfl, rfl, cpl_lt n, rfl, hT, hg⟩
  case round =>
    obtain ⟨k, x, hk, rfl, rfl, hx, hrun, hTr, hgr⟩ := hrel
    by_cases hlt : k < s.size
    · obtain ⟨c, hc⟩ : ∃ c, s[k] = c := ⟨_, rfl⟩
      have hc8 := c.toNat_lt
      obtain ⟨x1, h1, h1e, h1l⟩ : ∃ x1 : Nat, (x : Int) % 256 = x1 ∧ x % 256 = x1 ∧ x1 < 256 := ⟨x % 256, by omega, rfl, by omega⟩
      have h2 := u8_xor_nat x1 c.toNat h1l hc8
      have hil : x1 ^^^ c.toNat < 2 ^ 8 := Nat.xor_lt_two_pow h1l hc8
      obtain ⟨ix, hix⟩ : ∃ ix, x1 ^^^ c.toNat = ix := ⟨_, rfl⟩
      rw [hix] at h2 hil
      have hi0 : (0 : Int) ≤ (ix : Int) := by omega
      have hi1 : (ix : Int) < (256 : Int) := by omega
      have h3 := hTr.out.cell (k := ix) (by omega)
      rw [show table.getD ix 0 = tab ix from by simp [table, show ix < 256 from by omega]] at h3
      have htl : tab ix < 4294967296 := tab_lt ix (by omega)
      obtain ⟨tv, htv⟩ : ∃ tv, tab ix = tv := ⟨_, rfl⟩
      rw [htv] at h3 htl
      obtain ⟨x2, h4, h4e, h4l⟩ : ∃ x2 : Nat, (x : Int) / 256 = x2 ∧ x / 256 = x2 ∧ x2 < 4294967296 := ⟨x / 256, by omega, rfl, by omega⟩
      have h5 := u32_xor_nat tv x2 htl h4l
      have hnew : Hid (run (cpl n) (s.data.toList.take (k + 1)) = tv ^^^ x2) := by
        show run (cpl n) (s.data.toList.take (k + 1)) = _
        have e : s.data.toList.take (k + 1) = s.data.toList.take k ++ [s[k]] := by rw [List.take_succ_eq_append_getElem (by simpa using hlt)]; rfl
        rw [e, run_append, hrun.out, hc]
        show tab ((x % 256) ^^^ c.toNat) ^^^ (x / 256) = _
        rw [h1e, hix, htv, h4e]
      have hnl : tv ^^^ x2 < 2 ^ 32 := Nat.xor_lt_two_pow htl h4l
      obtain ⟨y, hy⟩ : ∃ y, tv ^^^ x2 = y := ⟨_, rfl⟩
      rw [hy] at h5 hnew hnl
      clear hy h4e htv hix h1e
      go_wp2
      go_quiet (fail)
      go_wp2
      go_roundw
      case rel => exact ⟨k + 1, y, by omega, by go_num, by go_num, by omega, hnew, hTr.out.keep rfl, grown_drewN hgr _⟩
      case measure => simp [intOf]; omega
    · have hend : Hid (more n s.data.toList = cpl x) := by
        show cpl (run (cpl n) s.data.toList) = cpl x
        rw [← hrun.out, List.take_of_length_le (by simp; omega)]
      have hxm := xorM x hx
      go_wp2
      go_ret
      exact ⟨by rw [hend.out]; rfl, hTr.out, hgr⟩
/-- The sum of a text. -/
theorem sum_any {w : World} {b : Nat} (h : Tab w b) (s : ByteArray) (hs : s.size ≤ 9223372036854775807) :
    Calls Tryz.prog 161 #[.pointer (some ⟨b, 0, none⟩), .string s] w fun e w' => e = .returned (.int .u32 (more 0 s.data.toList : Nat)) ∧ Tb w' b 1 0 table ∧ w.grownBy w' (some b) := by
  have hm := Lib.hid (more_any h 0 (by omega) s hs)
  go_enter Tryz.func161, Tryz.ntmps161
  go_wp2_with fail
  refine (hm.out).mono ?_
  rintro e w1 ⟨rfl, hT, hg⟩
  go_wp2_with fail
  go_ret
  exact ⟨rfl, hT, hg⟩
/-- Is it a text's sum? -/
theorem right_any {w : World} {b : Nat} (h : Tab w b) (s : ByteArray) (hs : s.size ≤ 9223372036854775807) (n : Nat) (r : Bool) (hr : (((more 0 s.data.toList : Nat) : Int) == (n : Int)) = r) :
    Calls Tryz.prog 158 #[.pointer (some ⟨b, 0, none⟩), .string s, .int .u32 n] w fun e w' => e = .returned (.bool r) ∧ Tb w' b 1 0 table ∧ w.grownBy w' (some b) := by
  have hm := Lib.hid (sum_any h s hs)
  generalize more 0 s.data.toList = x at hm hr
  go_enter Tryz.func158, Tryz.ntmps158
  go_wp2_with fail
  refine (hm.out).mono ?_
  rintro e w1 ⟨rfl, hT, hg⟩
  go_wp2_with fail
  go_ret
  exact ⟨rfl, hT, hg⟩
theorem wpList_zero {w : World} {ops : Array Oper} {rest : List Oper} {o : Oper} {a : Act} {Q : Exit → Act → World → Prop} (cs : Array Value) (hcs : Hid (cs = rowOf 0 0 (List.replicate 256 0))) (hg : o.guard = .none) (ho : o.op = .build 335 #[])
    (h : wpList Tryz.prog ops Q rest (a.put o.dst (.agg cs)) w) : wpList Tryz.prog ops Q (o :: rest) a w := by
  have e : Tryz.prog.built 335 [] = some (rowOf 0 0 (List.replicate 256 0)) := by kernel_rfl
  rw [← hcs.out] at e
  refine wpList_build hg 335 #[] ho ?_ ?_
  · simp only [List.map_toArray, List.map_nil]
    rw [e]; rfl
  · simp only [List.map_toArray, List.map_nil]
    rw [e]; exact h
theorem new_any (w : World) : Calls Tryz.prog 157 #[] w fun e w' => e = .returned (.pointer (some ⟨w.heap.size, 0, .none⟩)) ∧ Tab w' w.heap.size ∧ Below w.heap.size w w' := by
  obtain ⟨cs, hcs⟩ : ∃ cs : Array Value, Hid (cs = rowOf 0 0 (List.replicate 256 0)) := ⟨_, rfl⟩
  go_enter Tryz.func157, Tryz.ntmps157
  go_wp2_with (refine wpList_zero cs hcs rfl rfl ?_)
  go_ret
  exact ⟨rfl, .inl ⟨List.replicate 256 0, _, by rw [← hcs.out]; exact heap_alloc_new _ _, List.length_replicate⟩, (Below.refl _ _).alloc (Nat.le_refl _) _⟩
end Go.Proofs.YtoichcickcgbgaaGreatDoor.Crc1
namespace Go.Proofs.YtoichcickcgbgaaGreatDoor.Crc1
open Go.RowKit Crc
def byte (n : Nat) : UInt8 := UInt8.ofNat n
/-- A sum's bytes. -/
def bts (n : Nat) : ByteArray := ⟨#[byte (n / 16777216), byte (n / 65536), byte (n / 256), byte n]⟩
theorem byte_toNat (n : Nat) : (byte n).toNat = n % 256 := by simp [byte]
theorem bts_conv (n : Nat) (hn : n < 4294967296) (w : World) :
    (convert 105 9 (.slice (some ⟨w.heap.size, 0, .none⟩) 4 4)).run Tryz.prog (w.alloc (.cells #[.int .u8 ((n : Int) / 16777216), .int .u8 ((n : Int) / 65536 % 256), .int .u8 ((n : Int) / 256 % 256), .int .u8 ((n : Int) % 256)] 5)) =
      .ok (.string (bts n)) (w.alloc (.cells #[.int .u8 ((n : Int) / 16777216), .int .u8 ((n : Int) / 65536 % 256), .int .u8 ((n : Int) / 256 % 256), .int .u8 ((n : Int) % 256)] 5)) := by
  refine run_convert_bytes_back (P := Tryz.prog) _ 105 9 5 ⟨w.heap.size, 0, .none⟩ 4 [byte (n / 16777216), byte (n / 65536), byte (n / 256), byte n] Tryz.underlying105 Tryz.underlying5 Tryz.underlying9 ?_
  intro j hj
  have hj' : j < 4 := by simpa using hj
  have e0 : ((byte (n / 16777216)).toNat : Int) = (n : Int) / 16777216 := by rw [byte_toNat]; omega
  have e1 : ((byte (n / 65536)).toNat : Int) = (n : Int) / 65536 % 256 := by rw [byte_toNat]; omega
  have e2 : ((byte (n / 256)).toNat : Int) = (n : Int) / 256 % 256 := by rw [byte_toNat]; omega
  have e3 : ((byte n).toNat : Int) = (n : Int) % 256 := by rw [byte_toNat]; omega
  rcases (show j = 0 ∨ j = 1 ∨ j = 2 ∨ j = 3 by omega) with rfl | rfl | rfl | rfl
  · simp [Addr.add, e0]
  · simp [Addr.add, e1]
  · simp [Addr.add, e2]
  · simp [Addr.add, e3]
theorem bytes_any (n : Nat) (hn : n < 4294967296) (w : World) :
    Calls Tryz.prog 163 #[.int .u32 n] w fun e w' => e = .returned (.string (bts n)) ∧ Below w.heap.size w w' := by
  have hcv := bts_conv n hn w
  go_enter Tryz.func163, Tryz.ntmps163
  go_wp2
  go_ret
  exact ⟨rfl, (Below.refl _ _).alloc (Nat.le_refl _) _⟩
end Go.Proofs.YtoichcickcgbgaaGreatDoor.Crc1
namespace Go.Proofs.YtoichcickcgbgaaGreatDoor.Crc1
open Go.RowKit Crc
/-- The number of some bytes, the greatest first. -/
def val (l : List UInt8) : Nat := l.foldl (fun a c => a * 256 + c.toNat) 0
theorem val_snoc (l : List UInt8) (c : UInt8) : val (l ++ [c]) = val l * 256 + c.toNat := by simp [val]
theorem or_add (a c : Nat) (hc : c < 256) : (a * 256) ||| c = a * 256 + c := by
  have := Nat.shiftLeft_add_eq_or_of_lt (b := c) (i := 8) (by omega) a
  rw [Nat.shiftLeft_eq, show (2 ^ 8 : Nat) = 256 from rfl] at this
  exact this.symm
set_option maxHeartbeats 800000 in
theorem read_any (s : ByteArray) (hs : s.size ≤ 9223372036854775807) (h4 : 4 ≤ s.size) (w : World) :
    Calls Tryz.prog 156 #[.string s] w fun e w' => e = .returned (.tuple #[.int .u32 (val (s.data.toList.take 4) : Nat), .bool true]) ∧ w = w' := by
  go_enter Tryz.func156, Tryz.ntmps156
  go_wp2
  go_loop [4, 9] (fun v i => ∃ (k x : Nat), k ≤ 4 ∧ i = .int .i64 k ∧ v = .int .u32 x ∧ Hid (x < 256 ^ k) ∧ Hid (val (s.data.toList.take k) = x)) (fun _ i => 4 - (intOf i).toNat)
  case atStart => exact ⟨0, 0, by omega, rfl, rfl, (show 0 < 256 ^ 0 by decide), rfl⟩
  case round =>
    obtain ⟨k, x, hk, rfl, rfl, hx, hv⟩ := hrel
    by_cases hlt : k < 4
    · have hks : k < s.size := by omega
      have hx3 : x < 16777216 := by
        have h1 := hx.out
        have h2 : 256 ^ k ≤ 256 ^ 3 := Nat.pow_le_pow_right (by omega) (by omega)
        omega
      obtain ⟨c, hc⟩ : ∃ c, s[k] = c := ⟨_, rfl⟩
      have hc8 := c.toNat_lt
      have hor := u32_or_nat (x * 256) c.toNat (by omega) (by omega)
      rw [or_add x c.toNat hc8] at hor
      have hnew : Hid (val (s.data.toList.take (k + 1)) = x * 256 + c.toNat) := by
        show val (s.data.toList.take (k + 1)) = _
        have e : s.data.toList.take (k + 1) = s.data.toList.take k ++ [s[k]] := by rw [List.take_succ_eq_append_getElem (by simpa using hks)]; rfl
        rw [e, val_snoc, hv.out, hc]
      have hnx : Hid (x * 256 + c.toNat < 256 ^ (k + 1)) := by
        show x * 256 + c.toNat < 256 ^ (k + 1)
        have h1 := hx.out
        rw [Nat.pow_succ]
        omega
      have hor2 : bits .or .u32 ((x : Int) * 256) (c.toNat : Int) = (x : Int) * 256 + c.toNat := by rw [show (x : Int) * 256 = ((x * 256 : Nat) : Int) from by omega, hor]; omega
      clear hor
      go_wp2
      go_round
      case rel => exact ⟨k + 1, x * 256 + c.toNat, by omega, by go_num, by go_num, hnx, hnew⟩
      case measure => simp [intOf]; omega
    · obtain rfl : k = 4 := by omega
      go_wp2
      go_ret2
      exact ⟨by rw [hv.out]; rfl, rfl⟩
end Go.Proofs.YtoichcickcgbgaaGreatDoor.Crc1
namespace Go.Proofs.YtoichcickcgbgaaGreatDoor
open Go.RowKit
/-- The two types of a block that is a builder. -/
def Bt (T : TypeId) : Prop := T = 107 ∨ T = 111
theorem Bt.lies {T : TypeId} (h : Bt T) : liesAt Tryz.prog Tryz.prog.depth T (2 / Tryz.prog.cellsOf T) 0 107 1 = true := by
  rcases h with rfl | rfl <;> kernel_rfl
theorem size107 : (Tryz.prog.info? 107).map (·.size) = some 2 := by kernel_rfl
theorem info5 : (Tryz.prog.info? 5).map (fun i => (i.zero, i.size, i.bytes)) = some (some (.int .u8 0), 1, 1) := by kernel_rfl
set_option maxRecDepth 100000 in
theorem cc_used (b : Nat) (w : World) (h0 : w.cell? ⟨b, 0, none⟩ = some (.pointer (some ⟨b, 0, none⟩))) :
    Calls Tryz.prog 152 #[.pointer (some ⟨b, 0, none⟩)] w fun e w' => e = .returned (.tuple #[]) ∧ w' = w := by
  obtain ⟨j, hj, _⟩ := Option.map_eq_some_iff.1 size107
  go_enter Tryz.func152, Tryz.ntmps152
  go_wp2
  rw [Lib.run_neq_ptr_same w _ Tryz.underlying104 hj]
  go_wp2
  go_end0
  exact ⟨rfl, rfl⟩
set_option maxRecDepth 100000 in
theorem cc_fresh {T : TypeId} (hT : Bt T) (b : Nat) (w : World) (h0 : w.cell? ⟨b, 0, none⟩ = some (.pointer none)) (hsh : w.shape? b = some (T, 2)) (hfz : w.frozen? ⟨b, 0, none⟩ = false) :
    Calls Tryz.prog 152 #[.pointer (some ⟨b, 0, none⟩)] w fun e w' => e = .returned (.tuple #[]) ∧ w' = w.setCell ⟨b, 0, none⟩ (.pointer (some ⟨b, 0, none⟩)) := by
  obtain ⟨j, hj, hjs⟩ := Option.map_eq_some_iff.1 size107
  go_enter Tryz.func152, Tryz.ntmps152
  go_wp2
  rw [Lib.run_to_unsafe w ⟨b, 0, none⟩ Tryz.underlying104 Tryz.underlying322 hj (by rw [hjs]; decide) hsh (Nat.zero_lt_succ 1)]
  simp only [Result.andThen]
  rw [Oper.upon_value]
  go_wp2
  rw [run_callFunc_extern Tryz.func189 (by kernel_rfl) (by kernel_rfl) (by kernel_rfl) (e := Extern.AbiNoEscape.same) (by kernel_rfl)]
  rw [Lib.run_noEscape]
  simp only [Result.andThen]
  rw [Oper.upon_value]
  go_wp2
  rw [Lib.run_from_unsafe w ⟨b, 0, none⟩ Tryz.underlying322 Tryz.underlying104 hj hsh hT.lies]
  simp only [Result.andThen]
  rw [Oper.upon_value]
  go_wp2
  go_end0
  exact ⟨rfl, rfl⟩
theorem cc_any {T : TypeId} (hT : Bt T) (B b : Nat) (bs : List Value) (w : World) (h : Lib.IsBuilder T 5 B b bs w) :
    Calls Tryz.prog 152 #[.pointer (some ⟨b, 0, none⟩)] w fun e w' => e = .returned (.tuple #[]) ∧ (Lib.BuilderAt T 5 B b (.pointer (some ⟨b, 0, none⟩)) bs w' ∧ Below B w w') := by
  rcases h with h | h
  · refine (cc_fresh hT b w h.cell0 h.shape h.frozen0).mono ?_
    rintro e w' ⟨rfl, rfl⟩
    exact ⟨rfl, h.used _, (Below.refl B w).setCell (p := ⟨b, 0, none⟩) h.1 _⟩
  · refine (cc_used b w h.cell0).mono ?_
    rintro e w' ⟨rfl, rfl⟩
    exact ⟨rfl, h, Below.refl B _⟩
set_option maxRecDepth 100000 in
set_option maxHeartbeats 1000000 in
theorem wb_any {T : TypeId} (hT : Bt T) (B b : Nat) (bs : List Value) (c : Int) (w : World) (h : Lib.IsBuilder T 5 B b bs w) (hlen : bs.length ≤ 1000) (hBw : B ≤ w.heap.size) :
    Calls Tryz.prog 105 #[.pointer (some ⟨b, 0, none⟩), .int .u8 c] w fun e w' => e = .returned .nilIface ∧ (Lib.BuilderAt T 5 B b (.pointer (some ⟨b, 0, none⟩)) (bs ++ [.int .u8 c]) w' ∧ Below B w w') := by
  obtain ⟨i0, hi, hz0, hz1, hz2⟩ := info_parts info5
  go_enter Tryz.func105, Tryz.ntmps105
  go_wp2_with (go_at_call 152; refine (cc_any hT B b bs _ h).mono ?_)
  rintro e w1 ⟨rfl, h1, hb1⟩
  obtain ⟨hB, v, hbk, hown, hne⟩ := h1
  have c0 : w1.cell? ⟨b, 0, none⟩ = some (.pointer (some ⟨b, 0, none⟩)) := by rw [Lib.cell_of_heap hbk]; rfl
  have c1 : w1.cell? ⟨b, 1, none⟩ = some v := by rw [Lib.cell_of_heap hbk]; rfl
  have f1 : w1.frozen? ⟨b, 1, none⟩ = false := by simp [World.frozen?, hbk]
  have hlt : b < w1.heap.size := (Array.getElem?_eq_some_iff.1 hbk).1
  have hsz := hb1.size
  have HBK := Lib.hid hbk
  have HNE := Lib.hid hne
  clear hbk hne h
  go_wp2_with (at_builtin; refine wpList_append_own _ rfl _ _ 105 rfl B 5 i0 (.int .u8 0) 1 1 Tryz.underlying105 hi hz0 hz1 hz2 rfl (by decide) _ _ _ rfl (hown.alloc _) ⟨w1.heap.size, 0, none⟩ 1 1 [.int .u8 c] rfl rfl (cell_one_new _ _ _) (by simp [Value.oneCell']) (by unfold maxLen; omega) (by omega) (by simp; omega) ?_)
  intro v' w2 hown' hgrow _
  have hb2 : w2.heap[b]? = some (.cells #[.pointer (some ⟨b, 0, none⟩), v] T (0, 0)) := by
    rw [hgrow.block b (by simp; omega) (fun e => HNE.out e.symm), Lib.alloc_old w1 _ b hlt]
    exact HBK.out
  have d0 : w2.cell? ⟨b, 0, none⟩ = some (.pointer (some ⟨b, 0, none⟩)) := by rw [Lib.cell_of_heap hb2]; rfl
  have d1 : w2.cell? ⟨b, 1, none⟩ = some v := by rw [Lib.cell_of_heap hb2]; rfl
  have g1 : w2.frozen? ⟨b, 1, none⟩ = false := Lib.frozen_of_heap hb2 1
  have HB2 := Lib.hid hb2
  clear hb2
  obtain ⟨g', cap', rfl⟩ := ownsRow_succ hown'
  go_wp2
  go_ret
  refine ⟨rfl, ?_, ?_⟩
  · exact Lib.BuilderAt.put hB HB2.out (bs' := bs ++ [.int .u8 c]) (by simpa using hown') (by rcases hT with rfl | rfl <;> decide)
  · exact ((hb1.alloc (by omega) _).grown hgrow (by simp; omega) (fun k hk => (hown.lt k hk).1)).setCell (p := ⟨b, 1, none⟩) hB _
theorem cells5 : Tryz.prog.cellsOf 5 = 1 := by kernel_rfl
set_option maxRecDepth 100000 in
set_option maxHeartbeats 1000000 in
theorem bstr_any {T : TypeId} (B b : Nat) (l : List UInt8) (w : World) (h : Lib.IsBuilder T 5 B b (Lib.byteCells l) w) (h0 : l ≠ []) :
    Calls Tryz.prog 69 #[.pointer (some ⟨b, 0, none⟩)] w fun e w' => e = .returned (.string ⟨l.toArray⟩) ∧ Below B w w' := by
  obtain ⟨p, hB, v, hbk, hown, hne⟩ : ∃ p, Lib.BuilderAt T 5 B b p (Lib.byteCells l) w := by
    rcases h with h | h <;> exact ⟨_, h⟩
  have hl0 : l.length ≠ 0 := by simpa using h0
  rw [Lib.byteCells_length] at hown
  obtain ⟨g, cap, cur, rfl, hbg, hg, hnc, hcm, hcs, _⟩ : ∃ g cap cur, v = .slice (some ⟨g, 0, none⟩) l.length cap ∧ B ≤ g ∧ w.heap[g]? = some (.cells cur 5 (0, 0)) ∧ l.length ≤ cap ∧ cap ≤ maxLen ∧ cur.size = cap * 1 ∧ True := by
    rcases hown.2 with ⟨_, hz⟩ | ⟨g, cap, cur, hv, r1, r2, r3, r4, r5, _⟩
    · exact absurd hz hl0
    · exact ⟨g, cap, cur, hv, r1, r2, r3, r4, r5, trivial⟩
  have c1 : w.drew.cell? ⟨b, 1, none⟩ = some (.slice (some ⟨g, 0, none⟩) l.length cap) := by
    have : w.drew.heap[b]? = some (.cells #[p, .slice (some ⟨g, 0, none⟩) l.length cap] T (0, 0)) := hbk
    rw [Lib.cell_of_heap this]; rfl
  have hSD : (Builtin.unsafeSliceData_ #[105] 220 #[.slice (some ⟨g, 0, none⟩) l.length cap]).run Tryz.prog w.drew = .ok (.pointer (some ⟨g, 0, none⟩)) w.drew :=
    Lib.run_unsafeSliceData_row _ _ _ _ _ _ (by omega)
  have hUS : (Builtin.unsafeString_ #[220, 3] 9 #[.pointer (some ⟨g, 0, none⟩), .int .i64 l.length]).run Tryz.prog w.drew = .ok (.string ⟨l.toArray⟩) (w.drew.freeze ⟨g, 0, none⟩ l.length) := by
    refine Lib.run_unsafeString_row w.drew 220 3 9 5 Tryz.underlying220 cells5 g cur.size (by have hg' : w.drew.heap[g]? = some (.cells cur 5 (0, 0)) := hg; simp [World.shape?, hg']) l h0 (by omega) (by unfold maxLen at hcm; omega) ?_
    intro j x hx
    exact hown.cells (g := g) rfl j (.int .u8 x.toNat) (by simp [Lib.byteCells, hx])
  clear hbk hown hne hg h
  go_enter Tryz.func69, Tryz.ntmps69
  go_wp2
  go_region
  all_goals (go_wp2; go_ret; exact ⟨rfl, Lib.below_freeze (Below.drew (Below.refl B w)) (p := ⟨g, 0, none⟩) hbg _⟩)
end Go.Proofs.YtoichcickcgbgaaGreatDoor
