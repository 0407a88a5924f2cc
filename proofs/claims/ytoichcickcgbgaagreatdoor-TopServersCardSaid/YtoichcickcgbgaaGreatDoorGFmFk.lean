/-
  A sector's end, of a sector of zeros: epoch and number are 0.
  A sector of zeros is no cell; a text's parts.
  A short text is one part.
-/
import Derived.Test.YtoichcickcgbgaaGreatDoorGCTbBd
import Derived.Deep.RegionHeld3
namespace Go.Proofs.YtoichcickcgbgaaGreatDoor
open Go.RowKit
/-- A sector of zeros. -/
def Zs (s : ByteArray) : Prop := s.size = 64 ∧ ∀ (k : Nat) (h : k < s.size), s[k] = 0
theorem or00 : bits .or .u64 0 0 = 0 := by decide
set_option maxHeartbeats 400000 in
theorem tag1_zero {s : ByteArray} (hs : Zs s) (p : Nat) (hp : p + 8 ≤ 64) {b : Nat} {w : World} (hc : w.cell? ⟨b, 0, none⟩ = some (.string s)) :
    Calls Tryz.prog 155 #[.int .i64 p, .pointer (some ⟨b, 0, none⟩)] w fun e w' => e = .returned (.int .u64 0) ∧ w = w' := by
  have HZ := Lib.hid hs.2
  have hl : 64 ≤ s.size := by rw [hs.1]; omega
  have hl2 : s.size ≤ 64 := by rw [hs.1]; omega
  have hor := or00
  clear hs
  go_enter Tryz.func155, Tryz.ntmps155
  go_wp2
  go_loop [4, 6] (fun n i => ∃ k : Nat, k ≤ 8 ∧ i = .int .i64 k ∧ n = .int .u64 0) (fun _ i => 8 - (intOf i).toNat)
  case atStart => exact ⟨0, by omega, rfl, rfl⟩
  case round =>
    obtain ⟨k, hk, rfl, rfl⟩ := hrel
    by_cases hlt : k < 8
    · have hx : p + k < s.size := by omega
      have hz := HZ.out (p + k) hx
      go_wp2
      go_round
      case rel => exact ⟨k + 1, by omega, by go_num, by go_num⟩
      case measure => simp [intOf]; omega
    · obtain rfl : k = 8 := by omega
      go_wp2
      go_ret
      exact ⟨rfl, rfl⟩
set_option maxRecDepth 100000 in
theorem tag_zero {s : ByteArray} (hs : Zs s) (w : World) :
    Calls Tryz.prog 107 #[.string s] w fun e w' => e = .returned (.tuple #[.int .u64 0, .int .u64 0, .bool true]) ∧ Below w.heap.size w w' := by
  have hl : 64 ≤ s.size := by rw [hs.1]; omega
  have hl2 : s.size ≤ 64 := by rw [hs.1]; omega
  have h1 : ((s.size : Int) != 64) = false := by rw [hs.1]; rfl
  have c48 := Lib.hid (show ∀ (b : Nat) (w : World), w.cell? ⟨b, 0, none⟩ = some (.string s) → Calls Tryz.prog 155 #[.int .i64 48, .pointer (some ⟨b, 0, none⟩)] w fun e w' => e = .returned (.int .u64 0) ∧ w = w' from fun b w hc => tag1_zero hs 48 (by omega) hc)
  have c56 := Lib.hid (show ∀ (b : Nat) (w : World), w.cell? ⟨b, 0, none⟩ = some (.string s) → Calls Tryz.prog 155 #[.int .i64 56, .pointer (some ⟨b, 0, none⟩)] w fun e w' => e = .returned (.int .u64 0) ∧ w = w' from fun b w hc => tag1_zero hs 56 (by omega) hc)
  clear hs
  go_enter Tryz.func107, Tryz.ntmps107
  go_wp2_with fail
  refine (c48.out _ _ (by simp)).mono ?_
  rintro e w' ⟨rfl, rfl⟩
  go_wp2_with fail
  refine (c56.out _ _ (by simp)).mono ?_
  rintro e w' ⟨rfl, rfl⟩
  go_wp2_with fail
  go_ret3
  exact ⟨rfl, (Below.refl _ _).alloc (Nat.le_refl _) _⟩
theorem byte_of (c : Int) (h0 : 0 ≤ c) (h1 : c < 256) : ∃ x : UInt8, Value.int .u8 c = Value.int .u8 (x.toNat : Int) := by
  refine ⟨UInt8.ofNat c.toNat, ?_⟩
  congr 1
  simp
  omega
theorem bytes_snoc (l : List UInt8) (x : UInt8) : Lib.byteCells l ++ [.int .u8 (x.toNat : Int)] = Lib.byteCells (l ++ [x]) := by simp [Lib.byteCells]
set_option maxRecDepth 100000 in
set_option maxHeartbeats 1000000 in
theorem tags_two (a c : Int) (g : Nat) (w : World) (hg : g < w.heap.size) (h0 : w.cell? ⟨g, 0, none⟩ = some (.int .u64 a)) (h1 : w.cell? ⟨g, 1, none⟩ = some (.int .u64 c)) :
    Calls Tryz.prog 160 #[.slice (some ⟨g, 0, none⟩) 2 2] w fun e w' => (∃ s : ByteArray, s.size = 16 ∧ e = .returned (.string s)) ∧ Below w.heap.size w w' := by
  have hs0 : Lib.IsBuilder 107 5 w.heap.size w.heap.size (Lib.byteCells []) (w.alloc (.cells #[.pointer none, .slice none 0 0] 107)) :=
    .inl ⟨Nat.le_refl _, _, heap_alloc_new _ _, World.ownsRow_nil _ _ _ _, by simp [Value.ownBlock]⟩
  have HS := Lib.hid hs0
  clear hs0
  go_enter Tryz.func160, Tryz.ntmps160
  go_wp2
  go_loopw [9] (fun i wr => ∃ (k : Nat) (l : List UInt8), k ≤ 2 ∧ i = .int .i64 k ∧ Hid (l.length = 8 * k) ∧ Hid (Lib.IsBuilder 107 5 w.heap.size w.heap.size (Lib.byteCells l) wr) ∧ Below w.heap.size w wr) (fun i _ => 2 - (intOf i).toNat)
  case atStart => exact ⟨0, [], by omega, rfl, rfl, HS, (Below.refl _ _).alloc (Nat.le_refl _) _⟩
  case round =>
    obtain ⟨k, l, hk, rfl, hl, hB, hb⟩ := hrel
    have hsz := hb.size
    by_cases hlt : k < 2
    · have hc : ∃ v, wr.cell? ⟨g, k, none⟩ = some (.int .u64 v) := by
        rcases (show k = 0 ∨ k = 1 by omega) with rfl | rfl
        · exact ⟨a, (hb.cell (p := ⟨g, 0, none⟩) hg).trans h0⟩
        · exact ⟨c, (hb.cell (p := ⟨g, 1, none⟩) hg).trans h1⟩
      obtain ⟨v, hc⟩ := hc
      clear h0 h1
      have hdk : decide ((k : Int) < 2) = true := by simp; omega
      go_wp2
      obtain ⟨wo, rfl⟩ : ∃ wo : World, wo = wr := ⟨_, rfl⟩
      go_loopw [13] (fun i wr => ∃ (j : Nat) (l : List UInt8), j ≤ 8 ∧ i = .int .i64 j ∧ Hid (l.length = 8 * k + j) ∧ Hid (Lib.IsBuilder 107 5 w.heap.size w.heap.size (Lib.byteCells l) wr) ∧ Below w.heap.size w wr) (fun i _ => 8 - (intOf i).toNat)
      case atStart => exact ⟨0, l, by omega, rfl, hl, hB, hb⟩
      case round =>
        obtain ⟨j, l2, hj, rfl, hl2, hB2, hb2⟩ := hrel
        have hsz2 := hb2.size
        by_cases hlt2 : j < 8
        · go_wp2_with fail
          refine (wb_any (.inl rfl) _ _ _ _ _ hB2.out (by rw [Lib.byteCells_length, hl2.out]; omega) hsz2).mono ?_
          rintro e w3 ⟨rfl, h3, hb3⟩
          obtain ⟨x, hx⟩ := byte_of (v / 2 ^ (8 * (7 - j)) % 256) (Int.emod_nonneg _ (by omega)) (Int.emod_lt_of_pos _ (by omega))
          rw [hx, bytes_snoc] at h3
          have H3 := Lib.hid h3
          clear h3 hx
          go_wp2_with fail
          go_roundw
          case rel => exact ⟨j + 1, l2 ++ [x], by omega, by go_num, (by show _ = _; rw [List.length_append, hl2.out]; simp; omega), .inr H3.out, hb2.trans hb3⟩
          case measure => simp [intOf]; omega
        · obtain rfl : j = 8 := by omega
          go_wp2_with fail
          go_roundw
          case rel => exact ⟨k + 1, l2, by omega, by go_num, (by show _ = _; rw [hl2.out]; omega), hB2, hb2⟩
          case measure => simp [intOf]; omega
    · obtain rfl : k = 2 := by omega
      go_wp2_with fail
      have hne : l ≠ [] := by intro e; have := hl.out; rw [e] at this; simp at this
      refine (bstr_any _ _ l _ hB.out hne).mono ?_
      rintro e w3 ⟨rfl, hb3⟩
      go_wp2_with fail
      go_ret
      exact ⟨⟨_, (by show l.toArray.size = 16; simp; exact hl.out), rfl⟩, hb.trans hb3⟩
theorem cnew (w : World) : Calls Tryz.prog 157 #[] w fun e w' => e = .returned (.pointer (some ⟨w.heap.size, 0, none⟩)) ∧ Crc1.Tab w' w.heap.size ∧ Below w.heap.size w w' := Crc1.new_any w
theorem csum {w : World} {b : Nat} (h : Crc1.Tab w b) (s : ByteArray) (hs : s.size ≤ 9223372036854775807) :
    Calls Tryz.prog 161 #[.pointer (some ⟨b, 0, none⟩), .string s] w fun e w' => ∃ n : Nat, n < 4294967296 ∧ e = .returned (.int .u32 (n : Int)) ∧ w.grownBy w' (some b) :=
  (Crc1.sum_any h s hs).mono fun _ _ ⟨he, _, hg⟩ => ⟨_, Crc1.Crc.more_lt _ _, he, hg⟩
/-- One byte as a text. -/
def one (n : Nat) : ByteArray := ⟨#[UInt8.ofNat n]⟩
theorem conv_one (n : Nat) (b : Nat) (w : World) (h : w.cell? ⟨b, 0, none⟩ = some (.int .u8 (IntKind.u8.wrap (n : Int)))) :
    (convert 105 9 (.slice (some ⟨b, 0, none⟩) 1 1)).run Tryz.prog w = .ok (.string (one n)) w := by
  refine run_convert_bytes_back (P := Tryz.prog) _ 105 9 5 ⟨b, 0, none⟩ 1 [UInt8.ofNat n] Tryz.underlying105 Tryz.underlying5 Tryz.underlying9 ?_
  intro j hj
  obtain rfl : j = 0 := by simpa using hj
  have e : (IntKind.u8.wrap (n : Int)) = ((UInt8.ofNat n).toNat : Int) := by
    simp [IntKind.wrap, IntKind.bits, IntKind.signed]
  rw [e] at h
  simpa [Addr.add] using h
theorem rep_any (n : Int) (h0 : 0 ≤ n) (h1 : n ≤ 43) (w : World) :
    Calls Tryz.prog 162 #[.string ⟨#[0]⟩, .int .i64 n] w fun e w' => ∃ s : ByteArray, (s.size : Int) = n ∧ e = .returned (.string s) ∧ Below w.heap.size w w' := by
  obtain ⟨k, rfl⟩ := Int.eq_ofNat_of_zero_le h0
  exact (Sh.strings_Repeat ⟨#[0]⟩ k w (by omega) (by have : (ByteArray.mk #[0]).size = 1 := rfl; rw [this]; omega)).mono fun _ _ ⟨he, hb⟩ => ⟨_, by simp [ByteArray.size, Lib.repeatL_length], he, hb⟩
set_option maxRecDepth 100000 in
set_option maxHeartbeats 1000000 in
theorem make_any (p : ByteArray) (a c : Int) (hp : p.size ≤ 43) (w : World) :
    Calls Tryz.prog 111 #[.agg #[.string p, .int .u64 a, .int .u64 c]] w fun e w' => (∃ s : ByteArray, s.size = 64 ∧ e = .returned (.tuple #[.string s, .int .i64 0])) ∧ Below w.heap.size w w' := by
  have h43 : ¬ (43 < (p.size : Int)) := by omega
  go_enter Tryz.func111, Tryz.ntmps111
  go_wp2_with fail
  refine (tags_two a c _ _ (by simp) (by simp) (by simp)).mono ?_
  rintro e w1 ⟨⟨t, ht, rfl⟩, hb1⟩
  have hr := (show Bx (w.alloc (.cells #[.string p, .int .u64 a, .int .u64 c] 232)) w.heap.size 232 [.string p, .int .u64 a, .int .u64 c] from Bx.new _ _ _)
  have hr1 : Bx w1 w.heap.size 232 [.string p, .int .u64 a, .int .u64 c] := (hr.more _).below hb1
  have hc0 := hr1.cell 0 rfl
  have HT := Lib.hid ht
  have HR := Lib.hid hr1
  clear ht hr hr1
  have hsz := hb1.size
  have HL := Lib.hid (show (p ++ t).size ≤ 9223372036854775807 by rw [ByteArray.size_append, HT.out]; omega)
  have hsum2 : ¬ 9223372036854775807 < p.size + t.size := by rw [HT.out]; omega
  have hsum : p.size + t.size ≤ 9223372036854775807 := by rw [HT.out]; omega
  have hlow : w.heap.size ≤ w1.heap.size := by simp at hsz; omega
  have KC := Lib.hid (fun (x : World) (h : Hid (Below w1.heap.size w1 x)) => (HR.out.bl h).cell 0 rfl)
  go_wp2_with fail
  go_region_held3 (fun x => x.cell? ⟨w.heap.size, 0, none⟩ = some (.string p) ∧ Hid (Below w1.heap.size w1 x)) ((refine skeep KC ?_; first | assumption | exact bl_drew (bl0 _))) (first
    | (go_at_call 157; refine (cnew _).mono ?_; rintro e w3 ⟨rfl, hT3, hb3⟩; have HB3 := bl_below (bl_drew (bl0 w1)) hb3)
    | (go_at_call 161; refine (csum hT3 _ HL.out).mono ?_; rintro e w4 ⟨n, hn, rfl, hg4⟩; have HB4 := bl_grown HB3 hg4 (Nat.le_refl _)))
  have hb4 : Below w.heap.size w w4 := ((((Below.refl _ _).alloc (Nat.le_refl _) _).alloc (by simp) _).trans (hb1.mono (by simp; omega))).trans (HB4.out.mono hlow)
  have HR4 := Lib.hid (HR.out.bl HB4)
  have HW4 := Lib.hid hb4
  clear hb3 hg4 hT3 KC hb1 hb4 HB3 HB4
  have d0 := HR4.out.cell 0 rfl
  go_wp2_with fail
  refine (rep_any _ (by omega) (by omega) _).mono ?_
  rintro e w5 ⟨z, hz, rfl, hb5⟩
  have HR5 := Lib.hid (HR4.out.below hb5)
  have HW5 := Lib.hid (HW4.out.trans (hb5.mono HW4.out.size))
  have e0 := HR5.out.cell 0 rfl
  have HZ := Lib.hid hz
  clear hb5 hz
  have KC := Lib.hid (fun (x : World) (h : Hid (Below w5.heap.size w5 x)) => (HR5.out.bl h).cell 0 rfl)
  have s1 : (one p.size).size = 1 := rfl
  have s4 : (Crc1.bts n).size = 4 := rfl
  have g8 : ¬ 9223372036854775807 < (one p.size).size + (Crc1.bts n).size := by omega
  have g11 : ¬ 9223372036854775807 < (one p.size).size + (Crc1.bts n).size + p.size := by omega
  have hz5 := HZ.out
  have g13 : ¬ 9223372036854775807 < (one p.size).size + (Crc1.bts n).size + p.size + z.size := by omega
  have ht5 := HT.out
  have g15 : ¬ 9223372036854775807 < (one p.size).size + (Crc1.bts n).size + p.size + z.size + t.size := by omega
  clear s1 s4 hz5 ht5
  have cvA := fun (x : World) => conv_one p.size x.heap.size (x.alloc (.cells #[.int .u8 (IntKind.u8.wrap (p.size : Int))] 5)) (by simp)
  have cv1 := conv_one p.size w5.heap.size (w5.alloc (.cells #[.int .u8 (IntKind.u8.wrap (p.size : Int))] 5)).drew (by simp)
  have CV := Lib.hid (fun (y : World) (hb : Below (w5.alloc (.cells #[.int .u8 (IntKind.u8.wrap (p.size : Int))] 5)).drew.heap.size (w5.alloc (.cells #[.int .u8 (IntKind.u8.wrap (p.size : Int))] 5)).drew y) => conv_one p.size w5.heap.size y ((hb.cell (p := ⟨w5.heap.size, 0, none⟩) (by simp)).trans (by simp)))
  go_wp2_with fail
  have HSZ := Lib.hid (show (one p.size ++ Crc1.bts n ++ p ++ z ++ t).size = 64 by
    rw [ByteArray.size_append, ByteArray.size_append, ByteArray.size_append, ByteArray.size_append]
    have := HT.out
    have := HZ.out
    show 1 + 4 + p.size + z.size + t.size = 64
    omega)
  refine wp_region_held_drew (S := fun x => x.cell? ⟨w.heap.size, 0, none⟩ = some (.string p) ∧ Hid (Below w5.heap.size w5 x)) (by kernel_rfl) (skeep KC (bl_drew (bl0 w5))) (fun hHeld => ?_)
  refine wtk 0 28 (.pointer (some ⟨w.heap.size, 0, none⟩)) rfl (by kernel_rfl) (fun _ _ _ h => h) (by rfl) (fun x hSw => by (try dsimp only at hSw); go_simp) (by assumption) ?_
  try simp only [Act.put, pw]
  refine wtk 1 29 (.string p) rfl (by kernel_rfl) (fun _ _ _ h => h) (by rfl) (fun x hSw => by (try dsimp only at hSw); go_simp) (by assumption) ?_
  try simp only [Act.put, pw]
  refine wtk 2 30 (.int .i64 (p.size : Int)) rfl (by kernel_rfl) (fun _ _ _ h => h) (by rfl) (fun x hSw => by (try dsimp only at hSw); go_simp) (by assumption) ?_
  try simp only [Act.put, pw]
  refine wtk 3 31 (.int .u8 (IntKind.u8.wrap (p.size : Int))) rfl (by kernel_rfl) (fun _ _ _ h => h) (by rfl) (fun x hSw => by (try dsimp only at hSw); go_simp) (by assumption) ?_
  try simp only [Act.put, pw]
  refine wtk 6 34 (.int .u32 (n : Int)) rfl (by kernel_rfl) (fun _ _ _ h => h) (by rfl) (fun x hSw => by (try dsimp only at hSw); go_simp) (by assumption) ?_
  try simp only [Act.put, pw]
  refine wtk 9 37 (.pointer (some ⟨w.heap.size, 0, none⟩)) rfl (by kernel_rfl) (fun _ _ _ h => h) (by rfl) (fun x hSw => by (try dsimp only at hSw); go_simp) (by assumption) ?_
  try simp only [Act.put, pw]
  refine wtk 10 38 (.string p) rfl (by kernel_rfl) (fun _ _ _ h => h) (by rfl) (fun x hSw => by (try dsimp only at hSw); go_simp) (by assumption) ?_
  try simp only [Act.put, pw]
  refine wtk 12 40 (.string z) rfl (by kernel_rfl) (fun _ _ _ h => h) (by rfl) (fun x hSw => by (try dsimp only at hSw); go_simp) (by assumption) ?_
  try simp only [Act.put, pw]
  refine wtk 14 42 (.string t) rfl (by kernel_rfl) (fun _ _ _ h => h) (by rfl) (fun x hSw => by (try dsimp only at hSw); go_simp) (by assumption) ?_
  try simp only [Act.put, pw]
  refine wpAnyH_ready (rs := [4, 7]) (by kernel_rfl) (by simp) (AllReadyH.cons rfl (fun K hK => ?_) (AllReadyH.cons rfl (fun K hK => ?_) AllReadyH.nil))
  · go_simp
    refine hK.out _ _ (skeep KC (bl_allocd _ (bl0 w5))) (fun hHeld => ?_)
    clear hK K
    try simp only [Act.put, pw]
    refine wpAnyH_ready (rs := [5, 7]) (by kernel_rfl) (by simp) (AllReadyH.cons rfl (fun K hK => ?_) (AllReadyH.cons rfl (fun K hK => ?_) AllReadyH.nil))
    · go_simp
      refine hK.out _ _ (skeep KC (bl_allocd _ (bl0 w5))) (fun hHeld => ?_)
      clear hK K
      try simp only [Act.put, pw]
      refine wpAnyH_ready (rs := [7]) (by kernel_rfl) (by simp) (AllReadyH.cons rfl (fun K hK => ?_) AllReadyH.nil)
      go_simp
      refine (Crc1.bytes_any _ hn _).mono ?_
      rintro e w6 ⟨rfl, hb6⟩
      have HB6 := bl_below (bl_allocd _ (bl0 w5)) hb6
      refine hK.out _ _ (skeep KC HB6) (fun hHeld => ?_)
      clear hK K
      try simp only [Act.put, pw]
      refine wtk 8 36 (.string (one p.size ++ Crc1.bts n)) rfl (by kernel_rfl) (fun _ _ _ h => h) (by rfl) (fun x hSw => by (try dsimp only at hSw); go_simp) (by assumption) ?_
      try simp only [Act.put, pw]
      refine wtk 11 39 (.string (one p.size ++ Crc1.bts n ++ p)) rfl (by kernel_rfl) (fun _ _ _ h => h) (by rfl) (fun x hSw => by (try dsimp only at hSw); go_simp) (by assumption) ?_
      try simp only [Act.put, pw]
      refine wtk 13 41 (.string (one p.size ++ Crc1.bts n ++ p ++ z)) rfl (by kernel_rfl) (fun _ _ _ h => h) (by rfl) (fun x hSw => by (try dsimp only at hSw); go_simp) (by assumption) ?_
      try simp only [Act.put, pw]
      refine wtk 15 43 (.string (one p.size ++ Crc1.bts n ++ p ++ z ++ t)) rfl (by kernel_rfl) (fun _ _ _ h => h) (by rfl) (fun x hSw => by (try dsimp only at hSw); go_simp) (by assumption) ?_
      try simp only [Act.put, pw]
      refine wtk 16 2 (.string (one p.size ++ Crc1.bts n ++ p ++ z ++ t)) rfl (by kernel_rfl) (fun _ _ _ h => h) (by rfl) (fun x hSw => by (try dsimp only at hSw); go_simp) (by assumption) ?_
      try simp only [Act.put, pw]
      refine wtk 17 3 (.int .i64 0) rfl (by kernel_rfl) (fun _ _ _ h => h) (by rfl) (fun x hSw => by (try dsimp only at hSw); go_simp) (by assumption) ?_
      try simp only [Act.put, pw]
      refine wpAnyH_done (by kernel_rfl) ?_ _
      go_wp2_with fail
      go_ret2
      exact ⟨⟨_, HSZ.out, rfl⟩, HW5.out.trans ((HB6).out.mono HW5.out.size)⟩
    · go_simp
      refine (Crc1.bytes_any _ hn _).mono ?_
      rintro e w6 ⟨rfl, hb6⟩
      have HB6 := bl_below (bl_allocd _ (bl0 w5)) hb6
      have hcv6 := CV.out _ hb6
      refine hK.out _ _ (skeep KC HB6) (fun hHeld => ?_)
      clear hK K
      try simp only [Act.put, pw]
      refine wpAnyH_ready (rs := [5]) (by kernel_rfl) (by simp) (AllReadyH.cons rfl (fun K hK => ?_) AllReadyH.nil)
      go_simp
      refine hK.out _ _ (skeep KC HB6) (fun hHeld => ?_)
      clear hK K
      try simp only [Act.put, pw]
      refine wtk 8 36 (.string (one p.size ++ Crc1.bts n)) rfl (by kernel_rfl) (fun _ _ _ h => h) (by rfl) (fun x hSw => by (try dsimp only at hSw); go_simp) (by assumption) ?_
      try simp only [Act.put, pw]
      refine wtk 11 39 (.string (one p.size ++ Crc1.bts n ++ p)) rfl (by kernel_rfl) (fun _ _ _ h => h) (by rfl) (fun x hSw => by (try dsimp only at hSw); go_simp) (by assumption) ?_
      try simp only [Act.put, pw]
      refine wtk 13 41 (.string (one p.size ++ Crc1.bts n ++ p ++ z)) rfl (by kernel_rfl) (fun _ _ _ h => h) (by rfl) (fun x hSw => by (try dsimp only at hSw); go_simp) (by assumption) ?_
      try simp only [Act.put, pw]
      refine wtk 15 43 (.string (one p.size ++ Crc1.bts n ++ p ++ z ++ t)) rfl (by kernel_rfl) (fun _ _ _ h => h) (by rfl) (fun x hSw => by (try dsimp only at hSw); go_simp) (by assumption) ?_
      try simp only [Act.put, pw]
      refine wtk 16 2 (.string (one p.size ++ Crc1.bts n ++ p ++ z ++ t)) rfl (by kernel_rfl) (fun _ _ _ h => h) (by rfl) (fun x hSw => by (try dsimp only at hSw); go_simp) (by assumption) ?_
      try simp only [Act.put, pw]
      refine wtk 17 3 (.int .i64 0) rfl (by kernel_rfl) (fun _ _ _ h => h) (by rfl) (fun x hSw => by (try dsimp only at hSw); go_simp) (by assumption) ?_
      try simp only [Act.put, pw]
      refine wpAnyH_done (by kernel_rfl) ?_ _
      go_wp2_with fail
      go_ret2
      exact ⟨⟨_, HSZ.out, rfl⟩, HW5.out.trans ((HB6).out.mono HW5.out.size)⟩
  · go_simp
    refine (Crc1.bytes_any _ hn _).mono ?_
    rintro e w6 ⟨rfl, hb6⟩
    have HB6 := bl_below (bl_drew (bl0 w5)) hb6
    refine hK.out _ _ (skeep KC HB6) (fun hHeld => ?_)
    clear hK K
    try simp only [Act.put, pw]
    refine wpAnyH_ready (rs := [4]) (by kernel_rfl) (by simp) (AllReadyH.cons rfl (fun K hK => ?_) AllReadyH.nil)
    go_simp
    refine hK.out _ _ (skeep KC (bl_alloc _ HB6)) (fun hHeld => ?_)
    clear hK K
    try simp only [Act.put, pw]
    refine wpAnyH_ready (rs := [5]) (by kernel_rfl) (by simp) (AllReadyH.cons rfl (fun K hK => ?_) AllReadyH.nil)
    go_simp
    refine hK.out _ _ (skeep KC (bl_alloc _ HB6)) (fun hHeld => ?_)
    clear hK K
    try simp only [Act.put, pw]
    refine wtk 8 36 (.string (one p.size ++ Crc1.bts n)) rfl (by kernel_rfl) (fun _ _ _ h => h) (by rfl) (fun x hSw => by (try dsimp only at hSw); go_simp) (by assumption) ?_
    try simp only [Act.put, pw]
    refine wtk 11 39 (.string (one p.size ++ Crc1.bts n ++ p)) rfl (by kernel_rfl) (fun _ _ _ h => h) (by rfl) (fun x hSw => by (try dsimp only at hSw); go_simp) (by assumption) ?_
    try simp only [Act.put, pw]
    refine wtk 13 41 (.string (one p.size ++ Crc1.bts n ++ p ++ z)) rfl (by kernel_rfl) (fun _ _ _ h => h) (by rfl) (fun x hSw => by (try dsimp only at hSw); go_simp) (by assumption) ?_
    try simp only [Act.put, pw]
    refine wtk 15 43 (.string (one p.size ++ Crc1.bts n ++ p ++ z ++ t)) rfl (by kernel_rfl) (fun _ _ _ h => h) (by rfl) (fun x hSw => by (try dsimp only at hSw); go_simp) (by assumption) ?_
    try simp only [Act.put, pw]
    refine wtk 16 2 (.string (one p.size ++ Crc1.bts n ++ p ++ z ++ t)) rfl (by kernel_rfl) (fun _ _ _ h => h) (by rfl) (fun x hSw => by (try dsimp only at hSw); go_simp) (by assumption) ?_
    try simp only [Act.put, pw]
    refine wtk 17 3 (.int .i64 0) rfl (by kernel_rfl) (fun _ _ _ h => h) (by rfl) (fun x hSw => by (try dsimp only at hSw); go_simp) (by assumption) ?_
    try simp only [Act.put, pw]
    refine wpAnyH_done (by kernel_rfl) ?_ _
    go_wp2_with fail
    go_ret2
    exact ⟨⟨_, HSZ.out, rfl⟩, HW5.out.trans ((bl_alloc _ HB6).out.mono HW5.out.size)⟩
end Go.Proofs.YtoichcickcgbgaaGreatDoor
namespace Go.Proofs.YtoichcickcgbgaaGreatDoor
open Go.RowKit
theorem Zs.list {s : ByteArray} (h : Zs s) : s.data.toList = List.replicate 64 0 := by
  refine List.ext_getElem ?_ fun i h1 h2 => ?_
  · simpa using h.1
  · have hi : i < s.size := by simpa using h1
    have := h.2 i hi
    simp only [List.getElem_replicate]
    exact this
theorem val_zeros : ∀ n, Crc1.val (List.replicate n 0) = 0
  | 0 => rfl
  | n + 1 => by
    rw [List.replicate_succ', Crc1.val_snoc, val_zeros n]
    rfl
theorem cread_zero {s : ByteArray} (h : Zs s) (w : World) :
    Calls Tryz.prog 156 #[.string (s.extract 1 s.size)] w fun e w' => e = .returned (.tuple #[.int .u32 0, .bool true]) ∧ w = w' := by
  have hl : (s.extract 1 s.size).data.toList = List.replicate 63 0 := by
    simp [h.list, h.1]
  have hsz : (s.extract 1 s.size).size = 63 := by simp [h.1]
  have := Crc1.read_any (s.extract 1 s.size) (by omega) (by omega) w
  rw [hl] at this
  rw [show List.take 4 (List.replicate 63 (0 : UInt8)) = List.replicate 4 0 from rfl, val_zeros] at this
  exact this
theorem sum16 : Crc1.Crc.more 0 (List.replicate 16 0) ≠ 0 := by decide +kernel
theorem cright_zero {s : ByteArray} (h : Zs s) {b : Nat} {w : World} (hT : Crc1.Tab w b) :
    Calls Tryz.prog 158 #[.pointer (some ⟨b, 0, none⟩), .string (s.extract 48 s.size), .int .u32 0] w fun e w' => e = .returned (.bool false) ∧ w.grownBy w' (some b) := by
  have hl : (s.extract 48 s.size).data.toList = List.replicate 16 0 := by
    simp [h.list, h.1]
  have hsz : (s.extract 48 s.size).size = 16 := by simp [h.1]
  refine (Crc1.right_any hT (s.extract 48 s.size) (by omega) 0 false ?_).mono fun _ _ ⟨he, _, hg⟩ => ⟨he, hg⟩
  rw [hl, beq_eq_false_iff_ne]
  have := sum16
  omega
set_option maxRecDepth 100000 in
set_option maxHeartbeats 1000000 in
theorem fread_zero {s : ByteArray} (hs : Zs s) (w : World) :
    Calls Tryz.prog 108 #[.string s] w fun e w' => e = .returned (.tuple #[.agg #[.string ⟨#[]⟩, .int .u64 0, .int .u64 0], .bool false]) ∧ Below w.heap.size w w' := by
  have hl : 64 ≤ s.size := by rw [hs.1]; omega
  have hl2 : s.size ≤ 64 := by rw [hs.1]; omega
  have hz0 := hs.2 0 (by omega)
  have HS := Lib.hid hs
  clear hs
  go_enter Tryz.func108, Tryz.ntmps108
  go_wp2_with fail
  refine (tag_zero HS.out _).mono ?_
  rintro e w1 ⟨rfl, hb1⟩
  go_wp2_with fail
  refine (cread_zero HS.out _).mono ?_
  rintro e w2 ⟨rfl, rfl⟩
  have HR := Lib.hid (show Bx (w1.alloc (.cells #[.string .empty, .int .u64 0, .int .u64 0] 232)) w1.heap.size 232 [.string .empty, .int .u64 0, .int .u64 0] from Bx.new _ _ _)
  have HB1 := Lib.hid hb1
  have hr0 : Bx (w.alloc (.cells #[.string .empty, .int .u64 0, .int .u64 0] 232)) w.heap.size 232 [.string .empty, .int .u64 0, .int .u64 0] := Bx.new _ _ _
  have HR0 := Lib.hid ((hr0.below hb1).more (.cells #[.string .empty, .int .u64 0, .int .u64 0] 232))
  have HW1 := Lib.hid (((Below.refl _ _).alloc (Nat.le_refl _) (Obj.cells #[.string .empty, .int .u64 0, .int .u64 0] 232)).trans (hb1.mono (by simp)))
  have HW := Lib.hid (HW1.out.alloc HW1.out.size (.cells #[.string .empty, .int .u64 0, .int .u64 0] 232))
  clear hb1 hr0 HB1
  generalize w1.alloc (.cells #[.string .empty, .int .u64 0, .int .u64 0] 232) = w3 at *
  have KC := Lib.hid (fun (x : World) (h : Hid (Below w3.heap.size w3 x)) => (HR.out.bl h).cell 0 rfl)
  have CR := Lib.hid (fun (b : Nat) (W : World) (hT : Crc1.Tab W b) => cright_zero HS.out hT)
  have h48 : (48 : Int) ≤ s.size := by omega
  have h16 : ¬ 9223372036854775807 < s.size - 48 := by omega
  go_wp2_with fail
  refine wp_region_held_drew (S := fun x => x.cell? ⟨w1.heap.size, 0, none⟩ = some (.string .empty) ∧ Hid (Below w3.heap.size w3 x)) (by kernel_rfl) (skeep KC (bl_drew (bl0 w3))) (fun hHeld => ?_)
  refine wtk 1 42 (.pointer (some ⟨w1.heap.size, 0, none⟩)) rfl (by kernel_rfl) (fun _ _ _ h => h) (by rfl) (fun x hSw => by (try dsimp only at hSw); go_simp) (by assumption) ?_
  try simp only [Act.put, pw]
  refine wtk 2 43 (.string .empty) rfl (by kernel_rfl) (fun _ _ _ h => h) (by rfl) (fun x hSw => by (try dsimp only at hSw); go_simp) (by assumption) ?_
  try simp only [Act.put, pw]
  refine wtk 3 44 (.string s) rfl (by kernel_rfl) (fun _ _ _ h => h) (by rfl) (fun x hSw => by (try dsimp only at hSw); go_simp) (by assumption) ?_
  try simp only [Act.put, pw]
  refine wtk 4 45 (.string (s.extract 48 s.size)) rfl (by kernel_rfl) (fun _ _ _ h => h) (by rfl) (fun x hSw => by (try dsimp only at hSw); go_simp) (by assumption) ?_
  try simp only [Act.put, pw]
  refine wtk 5 46 (.string (s.extract 48 s.size)) rfl (by kernel_rfl) (fun _ _ _ h => h) (by rfl) (fun x hSw => by (try dsimp only at hSw); go_simp) (by assumption) ?_
  try simp only [Act.put, pw]
  refine wtk 6 47 (.int .u32 0) rfl (by kernel_rfl) (fun _ _ _ h => h) (by rfl) (fun x hSw => by (try dsimp only at hSw); go_simp) (by assumption) ?_
  try simp only [Act.put, pw]
  refine wpAnyH_ready (rs := [0]) (by kernel_rfl) (by simp) (AllReadyH.cons rfl (fun K hK => ?_) AllReadyH.nil)
  go_simp
  refine (cnew _).mono ?_
  rintro e w4 ⟨rfl, hT4, hb4⟩
  have HB4 := bl_below (bl_drew (bl0 w3)) hb4
  refine hK.out _ _ (skeep KC HB4) (fun hHeld => ?_)
  clear hK K
  try simp only [Act.put, pw]
  refine wpAnyH_ready (rs := [7]) (by kernel_rfl) (by simp) (AllReadyH.cons rfl (fun K hK => ?_) AllReadyH.nil)
  go_simp
  refine (CR.out _ _ hT4).mono ?_
  rintro e w5 ⟨rfl, hg5⟩
  have HB5 := bl_grown HB4 hg5 (Nat.le_refl _)
  refine hK.out _ _ (skeep KC HB5) (fun hHeld => ?_)
  clear hK K
  try simp only [Act.put, pw]
  refine wtk 8 49 (.bool true) rfl (by kernel_rfl) (fun _ _ _ h => h) (by rfl) (fun x hSw => by (try dsimp only at hSw); go_simp) (by assumption) ?_
  try simp only [Act.put, pw]
  refine wtk 9 50 (.bool true) rfl (by kernel_rfl) (fun _ _ _ h => h) (by rfl) (fun x hSw => by (try dsimp only at hSw); go_simp) (by assumption) ?_
  try simp only [Act.put, pw]
  refine wtu 10 51 rfl (by kernel_rfl) (fun _ _ _ h => h) (by rfl) (by assumption) ?_
  try simp only [Act.put, pw]
  refine wtu 11 52 rfl (by kernel_rfl) (fun _ _ _ h => h) (by rfl) (by assumption) ?_
  try simp only [Act.put, pw]
  refine wtu 12 53 rfl (by kernel_rfl) (fun _ _ _ h => h) (by rfl) (by assumption) ?_
  try simp only [Act.put, pw]
  refine wtu 13 54 rfl (by kernel_rfl) (fun _ _ _ h => h) (by rfl) (by assumption) ?_
  try simp only [Act.put, pw]
  refine wtu 14 55 rfl (by kernel_rfl) (fun _ _ _ h => h) (by rfl) (by assumption) ?_
  try simp only [Act.put, pw]
  refine wtk 15 56 (.bool true) rfl (by kernel_rfl) (fun _ _ _ h => h) (by rfl) (fun x hSw => by (try dsimp only at hSw); go_simp) (by assumption) ?_
  try simp only [Act.put, pw]
  refine wpAnyH_done (by kernel_rfl) ?_ _
  have HR5 := HR0.out.bl HB5
  have c0 := HR5.cell 0 rfl
  have c1 := HR5.cell 1 rfl
  have c2 := HR5.cell 2 rfl
  have f0 := HR5.free 0
  have f1 := HR5.free 1
  have f2 := HR5.free 2
  have HW5 := Lib.hid (HW.out.trans (HB5.out.mono HW.out.size))
  clear HR5 hg5 hb4 hHeld
  go_wp2_with fail
  have r0 := Bx.set (w := w5) (HR0.out.bl HB5) 0 (.string ⟨#[]⟩) _ rfl
  have r1 := r0.set 1 (.int .u64 0) _ rfl
  have r2 := r1.set 2 (.int .u64 0) _ rfl
  have e0 := r2.cell 0 rfl
  have e1 := r2.cell 1 rfl
  have e2 := r2.cell 2 rfl
  refine bodyPost_ret (v := .tuple #[.agg #[.string ⟨#[]⟩, .int .u64 0, .int .u64 0], .bool false]) (by simp [results, Tryz.results108, go_sem, e0, e1, e2]) rfl ⟨rfl, ?_⟩
  exact ((HW5.out.setCell (p := ⟨w.heap.size, 0, none⟩) (Nat.le_refl _) _).setCell (p := ⟨w.heap.size, 1, none⟩) (Nat.le_refl _) _).setCell (p := ⟨w.heap.size, 2, none⟩) (Nat.le_refl _) _
set_option maxRecDepth 100000 in
theorem whole_zero {s : ByteArray} (hs : Zs s) (a c : Int) (w : World) :
    Calls Tryz.prog 109 #[.string s, .int .u64 a, .int .u64 c] w fun e w' => e = .returned (.bool false) ∧ Below w.heap.size w w' := by
  have HS := Lib.hid hs
  clear hs
  go_enter Tryz.func109, Tryz.ntmps109
  go_wp2_with fail
  refine (fread_zero HS.out _).mono ?_
  rintro e w1 ⟨rfl, hb1⟩
  go_wp2_with fail
  go_ret
  exact ⟨rfl, hb1.alloc hb1.size _⟩
end Go.Proofs.YtoichcickcgbgaaGreatDoor
namespace Go.Proofs.YtoichcickcgbgaaGreatDoor
open Go.RowKit
theorem cell_head {w : World} {b : Nat} {x : Value} {Z : Array Value} {T : TypeId} (h : w.heap[b]? = some (.cells (#[x] ++ Z) T (0, 0))) : w.cell? ⟨b, 0, none⟩ = some x := by
  simp only [World.cell?, h]
  rw [Array.getElem?_append_left (by simp)]
  rfl
set_option maxRecDepth 100000 in
set_option maxHeartbeats 1000000 in
theorem chunks_one (s : ByteArray) (hs : s.size ≤ 43) (w : World) :
    Calls Tryz.prog 110 #[.string s] w fun e w' => ∃ g c, e = .returned (.slice (some ⟨g, 0, none⟩) 1 c) ∧ w'.cell? ⟨g, 0, none⟩ = some (.string s) ∧ g < w'.heap.size ∧ w.heap.size ≤ g ∧ Below w.heap.size w w' := by
  have h1 : decide ((s.size : Int) ≤ 43) = true := by simp; omega
  have h2 : (s.size : Int) ≤ 43 := by omega
  go_enter Tryz.func110, Tryz.ntmps110
  go_wp2_with fail
  go_step3
  go_wp2_with fail
  go_step3
  go_wp2_with fail
  refine wp_loop_rounds 1 ?_
  rw [rounds_succ]
  go_wp2_with fail
  rw [Exit.noGoto_ret]
  go_ret
  refine ⟨_, _, rfl, ?_, by simp, by omega, ?_⟩
  · have h3 := heap_alloc2_new w (.cells #[.string s] 9) (.cells (#[.string s] ++ Builtin.zeroCells #[.string ⟨#[]⟩] ((Question.appendCap 1 0 9).cut (w.tape w.drawn (Question.appendCap 1 0 9)) - 1)) 9)
    exact cell_head h3
  · exact (((Below.refl _ _).alloc (Nat.le_refl _) _).alloc (by simp) _).drew
end Go.Proofs.YtoichcickcgbgaaGreatDoor
