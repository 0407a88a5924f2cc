/-
  Texts cut short; a sum's bytes, and a sum out of bytes; the chapter's examples.
-/
import Derived.Test.YtjdaeaanheidiaaMore
namespace Go.Proofs.Ytjdaeaanheidiaa
open Go.RowKit Crc

/-- A text of at most n bytes. -/
def sh (s : ByteArray) (n : Nat) : ByteArray := if n < s.size then s.extract 0 n else s

theorem short_any (s : ByteArray) (n : Nat) (_hn : n ≤ 1000) (w : World) :
    Calls Try.prog 12 #[.string s, .int .i64 n] w fun e w' => e = .returned (.string (sh s n)) ∧ w = w' := by
  by_cases h : n < s.size
  · have e : sh s n = s.extract 0 n := if_pos h
    rw [e]
    go_enter Try.func12, Try.ntmps12
    go_wp2
    go_ret
    exact ⟨rfl, rfl⟩
  · have e : sh s n = s := if_neg h
    rw [e]
    go_enter Try.func12, Try.ntmps12
    go_wp2
    go_ret
    exact ⟨rfl, rfl⟩

def byte (n : Nat) : UInt8 := UInt8.ofNat n
/-- A sum's bytes. -/
def bts (n : Nat) : ByteArray := ⟨#[byte (n / 16777216), byte (n / 65536), byte (n / 256), byte n]⟩

theorem byte_toNat (n : Nat) : (byte n).toNat = n % 256 := by simp [byte]
theorem bts_conv (n : Nat) (hn : n < 4294967296) (w : World) :
    (convert 25 9 (.slice (some ⟨w.heap.size, 0, .none⟩) 4 4)).run Try.prog (w.alloc (.cells #[.int .u8 ((n : Int) / 16777216), .int .u8 ((n : Int) / 65536 % 256), .int .u8 ((n : Int) / 256 % 256), .int .u8 ((n : Int) % 256)] 5)) =
      .ok (.string (bts n)) (w.alloc (.cells #[.int .u8 ((n : Int) / 16777216), .int .u8 ((n : Int) / 65536 % 256), .int .u8 ((n : Int) / 256 % 256), .int .u8 ((n : Int) % 256)] 5)) := by
  refine run_convert_bytes_back (P := Try.prog) _ 25 9 5 ⟨w.heap.size, 0, .none⟩ 4 [byte (n / 16777216), byte (n / 65536), byte (n / 256), byte n] Try.underlying25 Try.underlying5 Try.underlying9 ?_
  intro j hj
  have hj' : j < 4 := by simpa using hj
  have e0 : ((byte (n / 16777216)).toNat : Int) = (n : Int) / 16777216 := by rw [byte_toNat]; omega
  have e1 : ((byte (n / 65536)).toNat : Int) = (n : Int) / 65536 % 256 := by rw [byte_toNat]; omega
  have e2 : ((byte (n / 256)).toNat : Int) = (n : Int) / 256 % 256 := by rw [byte_toNat]; omega
  have e3 : ((byte n).toNat : Int) = (n : Int) % 256 := by rw [byte_toNat]; omega
  rcases (show j = 0 ∨ j = 1 ∨ j = 2 ∨ j = 3 by omega) with rfl | rfl | rfl | rfl
  · simp [Addr.add, e0]
  · simp [Addr.add, e1]
  · simp [Addr.add, e2]
  · simp [Addr.add, e3]

theorem bytes_any (n : Nat) (hn : n < 4294967296) (w : World) :
    Calls Try.prog 15 #[.int .u32 n] w fun e w' => e = .returned (.string (bts n)) ∧ Below w.heap.size w w' := by
  have hcv := bts_conv n hn w
  go_enter Try.func15, Try.ntmps15
  go_wp2
  go_ret
  exact ⟨rfl, (Below.refl _ _).alloc (Nat.le_refl _) _⟩
theorem rbytes_any (n : Nat) (hn : n < 4294967296) (w : World) :
    Calls Try.prog 20 #[.int .u32 n] w fun e w' => e = .returned (.string (bts n)) ∧ Below w.heap.size w w' := by
  have hcv := bts_conv n hn w
  go_enter Try.func20, Try.ntmps20
  go_wp2
  go_ret
  exact ⟨rfl, (Below.refl _ _).alloc (Nat.le_refl _) _⟩

theorem below_b {B b : Nat} {a w w' : World} (h : Below B a w) (hg : w.grownBy w' (some b)) (hB : B ≤ b) (hlt : B ≤ w.heap.size) : Below B a w' :=
  h.grown hg hlt (fun k hk => by cases hk; exact hB)

theorem bts1 : bts 16909060 = ⟨#[1, 2, 3, 4]⟩ := by decide

set_option maxHeartbeats 400000 in
theorem awake_any (w : World) : Calls Try.prog 9 #[] w fun e w' => e = .returned (.bool true) ∧ Below w.heap.size w w' := by
  have hs1 := Lib.hid (fun (b : Nat) (w1 : World) (hT : Tab w1 b) => sum_any hT ⟨#[49, 50, 51, 52, 53, 54, 55, 56, 57]⟩ (by decide))
  have hs2 := Lib.hid (fun (b : Nat) (w1 : World) (hT : Tab w1 b) => sum_any hT ⟨#[]⟩ (by decide))
  have e1 : ((more 0 (ByteArray.mk #[49, 50, 51, 52, 53, 54, 55, 56, 57]).data.toList : Nat) : Int) = 3421780262 := by rw [show (ByteArray.mk #[49, 50, 51, 52, 53, 54, 55, 56, 57]).data.toList = [49, 50, 51, 52, 53, 54, 55, 56, 57] from rfl, nine]; rfl
  have e2 : ((more 0 (ByteArray.mk #[]).data.toList : Nat) : Int) = 0 := by rw [show (ByteArray.mk #[]).data.toList = [] from rfl, nilSum]; rfl
  have hb1 := bytes_any 16909060 (by omega)
  rw [bts1] at hb1
  rw [e1] at hs1
  rw [e2] at hs2
  clear e1 e2
  have HB := Lib.hid hb1
  clear hb1
  go_enter Try.func9, Try.ntmps9
  go_wp2_with fail
  refine (new_any _).mono ?_
  rintro e w1 ⟨rfl, hT, hb⟩
  go_wp2_with fail
  refine (hs1.out _ _ hT).mono ?_
  rintro e w2 ⟨rfl, hT2, hg2⟩
  have hb2 := below_b hb hg2 (Nat.le_refl _) hb.size
  clear hg2 hT
  go_wp2_with fail
  refine (hs2.out _ _ (.inr hT2)).mono ?_
  rintro e w3 ⟨rfl, hT3, hg3⟩
  have hb3 := below_b hb2 hg3 (Nat.le_refl _) hb2.size
  clear hg3 hT2
  go_wp2_with fail
  refine (HB.out _).mono ?_
  rintro e w4 ⟨rfl, hb4⟩
  have hb5 := hb3.trans (hb4.mono hb3.size)
  clear hb4 hb3 hb2 hb
  go_wp2_with fail
  go_ret
  exact ⟨rfl, hb5⟩
end Go.Proofs.Ytjdaeaanheidiaa
