/-
  A sum out of bytes; the document's own sums and bytes.
-/
import Derived.Test.YtjdaeaanheidiaaBytes
namespace Go.Proofs.Ytjdaeaanheidiaa
open Go.RowKit Crc

/-- The number of some bytes, the greatest first. -/
def val (l : List UInt8) : Nat := l.foldl (fun a c => a * 256 + c.toNat) 0
theorem val_snoc (l : List UInt8) (c : UInt8) : val (l ++ [c]) = val l * 256 + c.toNat := by simp [val]
theorem or_add (a c : Nat) (hc : c < 256) : (a * 256) ||| c = a * 256 + c := by
  have := Nat.shiftLeft_add_eq_or_of_lt (b := c) (i := 8) (by omega) a
  rw [Nat.shiftLeft_eq, show (2 ^ 8 : Nat) = 256 from rfl] at this
  exact this.symm

set_option maxHeartbeats 800000 in
theorem read_any (s : ByteArray) (hs : s.size ≤ 9223372036854775807) (h4 : 4 ≤ s.size) (w : World) :
    Calls Try.prog 16 #[.string s] w fun e w' => e = .returned (.tuple #[.int .u32 (val (s.data.toList.take 4) : Nat), .bool true]) ∧ w = w' := by
  go_enter Try.func16, Try.ntmps16
  go_wp2
  go_loop [4, 9] (fun v i => ∃ (k x : Nat), k ≤ 4 ∧ i = .int .i64 k ∧ v = .int .u32 x ∧ Hid (x < 256 ^ k) ∧ Hid (val (s.data.toList.take k) = x)) (fun _ i => 4 - (intOf i).toNat)
  case atStart => exact ⟨0, 0, by omega, rfl, rfl, (show 0 < 256 ^ 0 by decide), rfl⟩
  case round =>
    obtain ⟨k, x, hk, rfl, rfl, hx, hv⟩ := hrel
    by_cases hlt : k < 4
    · have hks : k < s.size := by omega
      have hx3 : x < 16777216 := by
        have h1 := hx.out
        have h2 : 256 ^ k ≤ 256 ^ 3 := Nat.pow_le_pow_right (by omega) (by omega)
        omega
      obtain ⟨c, hc⟩ : ∃ c, s[k] = c := ⟨_, rfl⟩
      have hc8 := c.toNat_lt
      have hor := u32_or_nat (x * 256) c.toNat (by omega) (by omega)
      rw [or_add x c.toNat hc8] at hor
      have hnew : Hid (val (s.data.toList.take (k + 1)) = x * 256 + c.toNat) := by
        show val (s.data.toList.take (k + 1)) = _
        have e : s.data.toList.take (k + 1) = s.data.toList.take k ++ [s[k]] := by rw [List.take_succ_eq_append_getElem (by simpa using hks)]; rfl
        rw [e, val_snoc, hv.out, hc]
      have hnx : Hid (x * 256 + c.toNat < 256 ^ (k + 1)) := by
        show x * 256 + c.toNat < 256 ^ (k + 1)
        have h1 := hx.out
        rw [Nat.pow_succ]
        omega
      have hor2 : bits .or .u32 ((x : Int) * 256) (c.toNat : Int) = (x : Int) * 256 + c.toNat := by rw [show (x : Int) * 256 = ((x * 256 : Nat) : Int) from by omega, hor]; omega
      clear hor
      go_wp2
      go_round
      case rel => exact ⟨k + 1, x * 256 + c.toNat, by omega, by go_num, by go_num, hnx, hnew⟩
      case measure => simp [intOf]; omega
    · obtain rfl : k = 4 := by omega
      go_wp2
      go_ret2
      exact ⟨by rw [hv.out]; rfl, rfl⟩
theorem read_less (s : ByteArray) (hs : s.size < 4) (w : World) :
    Calls Try.prog 16 #[.string s] w fun e w' => e = .returned (.tuple #[.int .u32 0, .bool false]) ∧ w = w' := by
  go_enter Try.func16, Try.ntmps16
  go_wp2
  go_ret2
  exact ⟨rfl, rfl⟩
theorem rread_less (s : ByteArray) (hs : s.size < 4) (w : World) :
    Calls Try.prog 17 #[.string s] w fun e w' => e = .returned (.tuple #[.int .u32 0, .bool false]) ∧ w = w' := by
  go_enter Try.func17, Try.ntmps17
  go_wp2
  go_ret2
  exact ⟨rfl, rfl⟩

set_option maxHeartbeats 800000 in
theorem rread_any (s : ByteArray) (_hs : s.size ≤ 9223372036854775807) (h4 : 4 ≤ s.size) (w : World) :
    Calls Try.prog 17 #[.string s] w fun e w' => e = .returned (.tuple #[.int .u32 (val (s.data.toList.take 4) : Nat), .bool true]) ∧ ∃ n, w' = w.drewN n := by
  obtain ⟨c0, hc0⟩ : ∃ c, s[0] = c := ⟨_, rfl⟩
  obtain ⟨c1, hc1⟩ : ∃ c, s[1] = c := ⟨_, rfl⟩
  obtain ⟨c2, hc2⟩ : ∃ c, s[2] = c := ⟨_, rfl⟩
  obtain ⟨c3, hc3⟩ : ∃ c, s[3] = c := ⟨_, rfl⟩
  have hv : val (s.data.toList.take 4) = ((c0.toNat * 256 + c1.toNat) * 256 + c2.toNat) * 256 + c3.toNat := by
    have e : s.data.toList.take 4 = [s[0], s[1], s[2], s[3]] := by
      have hl : 4 ≤ s.data.toList.length := by simpa using h4
      apply List.ext_getElem
      · simp; omega
      · intro i h1 h2
        have hi : i < 4 := by simpa using h2
        rcases (show i = 0 ∨ i = 1 ∨ i = 2 ∨ i = 3 by omega) with rfl | rfl | rfl | rfl <;> simp <;> rfl
    rw [e, hc0, hc1, hc2, hc3]
    simp [val]
  have HV := Lib.hid hv
  clear hv
  have b0 := c0.toNat_lt; have b1 := c1.toNat_lt; have b2 := c2.toNat_lt; have b3 := c3.toNat_lt
  have l0 : (0 : Int) < (s.size : Int) := by omega
  have l1 : (1 : Int) < (s.size : Int) := by omega
  have l2 : (2 : Int) < (s.size : Int) := by omega
  have l3 : (3 : Int) < (s.size : Int) := by omega
  go_enter Try.func17, Try.ntmps17
  go_wp2
  go_quiet (fail)
  go_wp2
  go_ret2
  have ev : (c0.toNat : Int) * 16777216 + (c1.toNat : Int) * 65536 + (c2.toNat : Int) * 256 + (c3.toNat : Int) = ((((c0.toNat * 256 + c1.toNat) * 256 + c2.toNat) * 256 + c3.toNat : Nat) : Int) := by omega
  exact ⟨by rw [HV.out, ← ev]; rfl, _, rfl⟩
end Go.Proofs.Ytjdaeaanheidiaa
