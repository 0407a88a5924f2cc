/-
  The document's own sums: the same as the table's.
-/
import Derived.Test.YtjdaeaanheidiaaRead
namespace Go.Proofs.Ytjdaeaanheidiaa
open Go.RowKit Crc

set_option maxRecDepth 100000 in
set_option maxHeartbeats 800000 in
theorem rmore1 (n : Nat) (hn : n < 4294967296) (c : UInt8) (w : World) :
    Calls Try.prog 23 #[.int .u32 n, .int .u8 (c.toNat : Int)] w fun e w' => e = .returned (.int .u32 (upd n c.toNat : Nat)) ∧ w = w' := by
  have hc8 := c.toNat_lt
  have h1 := u32_xor_nat n c.toNat hn (by omega)
  have hxl : n ^^^ c.toNat < 2 ^ 32 := Nat.xor_lt_two_pow hn (by omega)
  have hu : Hid (upd n c.toNat = it 8 (n ^^^ c.toNat)) := upd_eq n c.toNat
  obtain ⟨x0, hx0⟩ : ∃ x, n ^^^ c.toNat = x := ⟨_, rfl⟩
  rw [hx0] at h1 hxl hu
  clear hx0
  go_enter Try.func23, Try.ntmps23
  go_wp2
  go_loop [0, 5] (fun v i => ∃ (j x : Nat), j ≤ 8 ∧ i = .int .i64 j ∧ v = .int .u32 x ∧ x < 4294967296 ∧ Hid (it (8 - j) x = it 8 x0)) (fun _ i => 8 - (intOf i).toNat)
  case atStart => exact ⟨0, x0, by omega, rfl, rfl, by omega, rfl⟩
  case round =>
    obtain ⟨j, x, hj, rfl, rfl, hx, hit⟩ := hrel
    by_cases hj8 : j < 8
    · have hst : Hid (it (8 - (j + 1)) (st x) = it 8 x0) := by
        have := hit.out
        rw [show 8 - j = (8 - (j + 1)) + 1 from by omega] at this
        exact this
      obtain ⟨y, hy, hy2⟩ : ∃ y : Nat, (x : Int) / 2 = y ∧ y = x / 2 := ⟨x / 2, by omega, rfl⟩
      have HY := Lib.hid hy2
      clear hy2
      rcases Nat.mod_two_eq_zero_or_one x with h0 | h1
      · have ha : (x : Int) % 2 = 0 := by omega
        have HST : Hid (st x = y) := by show st x = y; rw [st_even' h0, HY.out]
        have hyl : y < 4294967296 := by rw [HY.out]; omega
        clear h0
        go_wp2
        go_round
        case rel => exact ⟨j + 1, y, by omega, by go_num, by go_num, hyl, by rw [← HST.out]; exact hst⟩
        case measure => simp [intOf]; omega
      · have ha : (x : Int) % 2 = 1 := by omega
        have hyl : y < 4294967296 := by rw [HY.out]; omega
        have hxo := xorT y hyl
        have HST : Hid (st x = y ^^^ 3988292384) := by show st x = _; rw [st_odd h1, HY.out]
        have hsl := st_lt x hx
        rw [HST.out] at hsl
        obtain ⟨z, hz⟩ : ∃ z, y ^^^ 3988292384 = z := ⟨_, rfl⟩
        rw [hz] at hxo hsl HST
        clear h1 hz
        go_wp2
        go_round
        case rel => exact ⟨j + 1, z, by omega, by go_num, by go_num, by omega, by rw [← HST.out]; exact hst⟩
        case measure => simp [intOf]; omega
    · obtain rfl : j = 8 := by omega
      have hend : Hid (upd n c.toNat = x) := by show upd n c.toNat = x; rw [hu.out, ← hit.out]; rfl
      go_wp2
      go_ret
      exact ⟨by rw [hend.out]; rfl, rfl⟩

set_option maxHeartbeats 800000 in
theorem rmore_any (n : Nat) (hn : n < 4294967296) (s : ByteArray) (hs : s.size ≤ 9223372036854775807) (w : World) :
    Calls Try.prog 19 #[.int .u32 n, .string s] w fun e w' => e = .returned (.int .u32 (more n s.data.toList : Nat)) ∧ w = w' := by
  have hx0 := xorM n hn
  have hcl := cpl_lt n
  obtain ⟨x0, hxx⟩ : ∃ x, cpl n = x := ⟨_, rfl⟩
  have hm : Hid (more n s.data.toList = cpl (run x0 s.data.toList)) := by show more n s.data.toList = _; rw [← hxx]; rfl
  rw [hxx] at hx0 hcl
  clear hxx
  go_enter Try.func19, Try.ntmps19
  go_wp2
  go_loop [5, 6] (fun v i => ∃ (k x : Nat), k ≤ s.size ∧ i = .int .i64 k ∧ v = .int .u32 x ∧ x < 4294967296 ∧ Hid (run x0 (s.data.toList.take k) = x)) (fun _ i => s.size - (intOf i).toNat)
  case atStart => exact ⟨0, x0, Nat.zero_le _, rfl, rfl, by omega, rfl⟩
  case round =>
    obtain ⟨k, x, hk, rfl, rfl, hx, hrun⟩ := hrel
    by_cases hlt : k < s.size
    · obtain ⟨c, hc⟩ : ∃ c, s[k] = c := ⟨_, rfl⟩
      have hnew : Hid (run x0 (s.data.toList.take (k + 1)) = upd x c.toNat) := by
        show run x0 (s.data.toList.take (k + 1)) = _
        have e : s.data.toList.take (k + 1) = s.data.toList.take k ++ [s[k]] := by rw [List.take_succ_eq_append_getElem (by simpa using hlt)]; rfl
        rw [e, run_append, hrun.out, hc]
        rfl
      have hul := upd_lt x c.toNat hx c.toNat_lt
      have hcall := rmore1 x hx c
      obtain ⟨y, hy⟩ : ∃ y, upd x c.toNat = y := ⟨_, rfl⟩
      rw [hy] at hnew hul hcall
      have HC := Lib.hid hcall
      clear hy hcall
      go_wp2_with (go_at_call 23; refine (HC.out _).mono ?_; rintro e w1 ⟨rfl, rfl⟩)
      go_round
      case rel => exact ⟨k + 1, y, by omega, by go_num, rfl, by omega, hnew⟩
      case measure => simp [intOf]; omega
    · have hend : Hid (more n s.data.toList = cpl x) := by
        show more n s.data.toList = cpl x
        rw [hm.out, ← hrun.out, List.take_of_length_le (by simp; omega)]
      have hxm := xorM x hx
      go_wp2
      go_ret
      exact ⟨by rw [hend.out]; rfl, rfl⟩
theorem rsum_any (s : ByteArray) (hs : s.size ≤ 9223372036854775807) (w : World) :
    Calls Try.prog 18 #[.string s] w fun e w' => e = .returned (.int .u32 (more 0 s.data.toList : Nat)) ∧ w = w' := by
  have hm := Lib.hid (rmore_any 0 (by omega) s hs w)
  go_enter Try.func18, Try.ntmps18
  go_wp2_with fail
  refine (hm.out).mono ?_
  rintro e w1 ⟨rfl, rfl⟩
  go_wp2_with fail
  go_ret
  exact ⟨rfl, rfl⟩
end Go.Proofs.Ytjdaeaanheidiaa
