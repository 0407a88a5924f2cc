/-
  The table in memory: its cells, and how they turn; 'fill' makes the table.
-/
import Derived.Test.YtjdaeaanheidiaaOnce
import Derived.Test.YtjdaeaanheidiaaPlain
import Derived.WalkMore
namespace Go.Proofs.Ytjdaeaanheidiaa
open Go.RowKit Crc

def u32 (n : Nat) : Value := .int .u32 n
def rowOf (d : Nat) (s : Int) (l : List Nat) : Array Value := (([.int .u32 d, .int .i32 s, .int .u32 0] : List Value) ++ l.map u32).toArray
/-- Block b holds a table: its Once's flag, the lock, and what it knows of each byte. -/
def Tb (w : World) (b d : Nat) (s : Int) (l : List Nat) : Prop := ∃ T, w.heap[b]? = some (.cells (rowOf d s l) T (0, 0)) ∧ l.length = 256

theorem Tb.lt {w : World} {b d : Nat} {s : Int} {l : List Nat} (h : Tb w b d s l) : b < w.heap.size := by
  obtain ⟨_, hb, _⟩ := h
  exact (Array.getElem?_eq_some_iff.1 hb).1
theorem Tb.len {w : World} {b d : Nat} {s : Int} {l : List Nat} (h : Tb w b d s l) : l.length = 256 := by obtain ⟨_, _, h⟩ := h; exact h
theorem Tb.free {w : World} {b d : Nat} {s : Int} {l : List Nat} (h : Tb w b d s l) (k : Nat) : w.frozen? ⟨b, k, none⟩ = false := by
  obtain ⟨_, hb, _⟩ := h
  simp [World.frozen?, hb]
theorem Tb.c0 {w : World} {b d : Nat} {s : Int} {l : List Nat} (h : Tb w b d s l) : w.cell? ⟨b, 0, none⟩ = some (.int .u32 d) := by
  obtain ⟨_, hb, _⟩ := h
  simp [World.cell?, hb, rowOf]
theorem Tb.c1 {w : World} {b d : Nat} {s : Int} {l : List Nat} (h : Tb w b d s l) : w.cell? ⟨b, 1, none⟩ = some (.int .i32 s) := by
  obtain ⟨_, hb, _⟩ := h
  simp [World.cell?, hb, rowOf]
theorem Tb.cell {w : World} {b d : Nat} {s : Int} {l : List Nat} (h : Tb w b d s l) {k : Nat} (hk : k < 256) : w.cell? ⟨b, 3 + k, none⟩ = some (.int .u32 (l.getD k 0 : Nat)) := by
  obtain ⟨_, hb, hl⟩ := h
  have hk' : k < l.length := by omega
  have e : (([.int .u32 d, .int .i32 s, .int .u32 0] : List Value) ++ l.map u32)[3 + k]? = some (u32 l[k]) := by
    rw [List.getElem?_append_right (by simp)]
    simp [hk']
  simp only [World.cell?, hb, rowOf, List.getElem?_toArray]
  rw [e]
  simp [u32, hk']
theorem Tb.keep {w w' : World} {b d : Nat} {s : Int} {l : List Nat} (h : Tb w b d s l) (e : w'.heap[b]? = w.heap[b]?) : Tb w' b d s l := by
  obtain ⟨T, hb, hl⟩ := h
  exact ⟨T, e.trans hb, hl⟩
theorem Tb.set {w : World} {b d : Nat} {s : Int} {l : List Nat} (h : Tb w b d s l) (k v : Nat) : Tb (w.setCell ⟨b, 3 + k, none⟩ (.int .u32 v)) b d s (l.set k v) := by
  obtain ⟨T, hb, hl⟩ := h
  refine ⟨T, ?_, by simpa using hl⟩
  rw [heap_setCell_same w b (3 + k) _ T _ hb]
  congr 2
  simp only [rowOf, List.setIfInBounds_toArray]
  rw [List.set_append_right _ _ (by simp)]
  simp [List.map_set, u32]
theorem Tb.set0 {w : World} {b d : Nat} {s : Int} {l : List Nat} (h : Tb w b d s l) (v : Nat) : Tb (w.setCell ⟨b, 0, none⟩ (.int .u32 v)) b v s l := by
  obtain ⟨T, hb, hl⟩ := h
  refine ⟨T, ?_, hl⟩
  rw [heap_setCell_same w b 0 _ T _ hb]
  simp [rowOf]
theorem Tb.set1 {w : World} {b d : Nat} {s : Int} {l : List Nat} (h : Tb w b d s l) (v : Int) : Tb (w.setCell ⟨b, 1, none⟩ (.int .i32 v)) b d v l := by
  obtain ⟨T, hb, hl⟩ := h
  refine ⟨T, ?_, hl⟩
  rw [heap_setCell_same w b 1 _ T _ hb]
  simp [rowOf]

theorem grown_set (w : World) (b k : Nat) (v : Value) : w.grownBy (w.setCell ⟨b, k, none⟩ v) (some b) :=
  ⟨rfl, rfl, rfl, by simp [World.setCell], fun i _ hi => heap_setCell_other w ⟨b, k, none⟩ i v (fun e => hi (by rw [e]))⟩

/-- The table. -/
def table : List Nat := (List.range 256).map tab

def it : Nat → Nat → Nat
  | 0, x => x
  | m + 1, x => it m (st x)
theorem it_tab (x : Nat) : it 8 x = tab x := rfl
theorem and1 (x : Nat) (hx : x < 2 ^ 32) : bits .and .u32 (x : Int) 1 = ((x % 2 : Nat) : Int) := by
  have := u32_and_nat x 1 (by omega) (by omega)
  rw [Nat.and_one_is_mod] at this
  exact this
theorem xorT (y : Nat) (hy : y < 2 ^ 32) : bits .xor .u32 (y : Int) 3988292384 = ((y ^^^ 3988292384 : Nat) : Int) := u32_xor_nat y 3988292384 (by omega) (by omega)
theorem st_even' {x : Nat} (h : x % 2 = 0) : st x = x / 2 := by
  unfold st
  rw [if_neg (by omega), Nat.xor_zero, Nat.shiftRight_succ, Nat.shiftRight_zero]
theorem st_odd {x : Nat} (h : x % 2 = 1) : st x = (x / 2) ^^^ 3988292384 := by
  unfold st
  rw [if_pos h, Nat.shiftRight_succ, Nat.shiftRight_zero]
theorem range_step (l : List Nat) (hl : l.length = 256) {k : Nat} (hk : k < 256) (v : Nat) (hv : v = tab k) : ((List.range k).map tab ++ l.drop k).set k v = (List.range (k + 1)).map tab ++ l.drop (k + 1) := by
  have hkl : k < l.length := by omega
  have e2 : k - ((List.range k).map tab).length = 0 := by simp
  rw [List.set_append_right _ _ (by simp), List.drop_eq_getElem_cons hkl, e2, List.set_cons_zero, List.range_succ, List.map_append, List.append_assoc, hv]
  rfl

set_option maxRecDepth 100000 in
set_option maxHeartbeats 400000 in
theorem fill_any {w : World} {b d : Nat} {s : Int} {l : List Nat} (h : Tb w b d s l) :
    Calls Try.prog 22 #[.pointer (some ⟨b, 0, none⟩)] w fun e w' => e = .returned (.tuple #[]) ∧ Tb w' b d s table ∧ w.grownBy w' (some b) := by
  have hl := Lib.hid h.len
  go_enter Try.func22, Try.ntmps22
  go_wp2
  go_loopw [4] (fun i wr => ∃ k : Nat, k ≤ 256 ∧ i = .int .i64 k ∧ Hid (Tb wr b d s ((List.range k).map tab ++ l.drop k)) ∧ w.grownBy wr (some b)) (fun i _ => 256 - (intOf i).toNat)
  case atStart => exact ⟨0, by omega, rfl, by simpa [Hid] using h, World.grownBy.refl _ _⟩
  case round =>
    obtain ⟨k, hk, rfl, hT, hg⟩ := hrel
    by_cases hlt : k < 256
    · have hk1 : (k : Int) < 256 := by omega
      go_wp2
      go_step3
      go_wp2
      go_step3
      go_wp2
      obtain ⟨wo, rfl⟩ : ∃ wo : World, wo = wr := ⟨_, rfl⟩
      go_loop [3, 9] (fun n i => ∃ (j x : Nat), j ≤ 8 ∧ i = .int .i64 j ∧ n = .int .u32 x ∧ x < 4294967296 ∧ Hid (it (8 - j) x = tab k)) (fun _ i => 8 - (intOf i).toNat)
      case atStart => exact ⟨0, k, by omega, rfl, rfl, by omega, rfl⟩
      case round =>
        obtain ⟨j, x, hj, rfl, rfl, hx, hit⟩ := hrel
        by_cases hj8 : j < 8
        · have hst : Hid (it (8 - (j + 1)) (st x) = tab k) := by
            have := hit.out
            rw [show 8 - j = (8 - (j + 1)) + 1 from by omega] at this
            exact this
          obtain ⟨y, hy, hy2⟩ : ∃ y : Nat, (x : Int) / 2 = y ∧ y = x / 2 := ⟨x / 2, by omega, rfl⟩
          have HY := Lib.hid hy2
          clear hy2
          rcases Nat.mod_two_eq_zero_or_one x with h0 | h1
          · have ha : bits .and .u32 (x : Int) 1 = 0 := by rw [and1 x hx, h0]; rfl
            have HST : Hid (st x = y) := by show st x = y; rw [st_even' h0, HY.out]
            have hyl : y < 4294967296 := by rw [HY.out]; omega
            clear h0
            go_wp2
            go_round
            case rel => exact ⟨j + 1, y, by omega, by go_num, by go_num, hyl, by rw [← HST.out]; exact hst⟩
            case measure => simp [intOf]; omega
          · have ha : bits .and .u32 (x : Int) 1 = 1 := by rw [and1 x hx, h1]; rfl
            have hyl : y < 4294967296 := by rw [HY.out]; omega
            have hxo := xorT y hyl
            have HST : Hid (st x = y ^^^ 3988292384) := by show st x = _; rw [st_odd h1, HY.out]
            have hsl := st_lt x hx
            rw [HST.out] at hsl
            obtain ⟨z, hz⟩ : ∃ z, y ^^^ 3988292384 = z := ⟨_, rfl⟩
            rw [hz] at hxo hsl HST
            clear h1 hz
            go_wp2
            go_round
            case rel => exact ⟨j + 1, z, by omega, by go_num, by go_num, by omega, by rw [← HST.out]; exact hst⟩
            case measure => simp [intOf]; omega
        · obtain rfl : j = 8 := by omega
          have hcell := hT.out.cell hlt
          have hfree := hT.out.free (3 + k)
          obtain ⟨v, hv⟩ : ∃ v, (((List.range k).map tab ++ l.drop k).getD k 0 : Nat) = v := ⟨_, rfl⟩
          rw [hv] at hcell
          clear hv
          go_wp2
          go_roundw
          case rel => exact ⟨k + 1, by omega, by go_num, by rw [← range_step l hl.out hlt x hit.out]; exact hT.out.set k x, hg.trans (grown_set _ _ _ _)⟩
          case measure => simp [intOf]; omega
    · obtain rfl : k = 256 := by omega
      go_wp2
      go_end0
      refine ⟨rfl, ?_, hg⟩
      have := hT.out
      rw [List.drop_of_length_le (by have := hl.out; omega), List.append_nil] at this
      exact this
end Go.Proofs.Ytjdaeaanheidiaa
