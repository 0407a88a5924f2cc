/-
  The document's Read.
-/
import Derived.Test.YtaccmeffcjfeeaaRk
namespace Go.Proofs.Ytaccmeffcjfeeaa
open Go.RowKit

section
variable {w : World} {R : Nat} {S : List (List UInt8)} {O : List (Nat × List UInt8)} {vS vO : Value} {f c : Int}
theorem rread_bad (h : Rk w R S O vS vO f c) (k : Int) (hk : ¬ (0 ≤ k ∧ k < S.length)) :
    Calls Try.prog 19 #[.pointer (some ⟨R, 0, none⟩), .int .i64 k] w fun e w' => e = .returned (.tuple #[.string ⟨#[]⟩, .int .i64 1]) ∧ w = w' := by
  obtain ⟨a, cp, hv⟩ := row_len h.rs
  have c0 := h.c0
  rw [hv] at c0
  have hd : k < 0 ∨ 0 ≤ k ∧ (S.length : Int) ≤ k := by omega
  clear hk hv
  generalize S.length = n at *
  rcases hd with hd | ⟨hd, hd2⟩
  · go_enter Try.func19, Try.ntmps19
    go_wp2
    go_ret2
    exact ⟨rfl, rfl⟩
  · have hd3 : decide ((n : Int) ≤ k) = true := by simp; omega
    go_enter Try.func19, Try.ntmps19
    go_wp2
    go_ret2
    exact ⟨rfl, rfl⟩
theorem rread_fail (h : Rk w R S O vS vO f c) (k : Nat) (hk : k < S.length) (hc0 : 0 ≤ c) (hc1 : c < 1000000) (hf0 : 0 ≤ f) (hf1 : f ≤ 9223372036854775807) (f' : Int) (hf : failS f = (true, f')) :
    Calls Try.prog 19 #[.pointer (some ⟨R, 0, none⟩), .int .i64 k] w fun e w' => e = .returned (.tuple #[.string ⟨#[]⟩, .int .i64 18]) ∧ Rk w' R S O vS vO f' (c + 1) ∧ w.grownBy w' (some R) := by
  obtain ⟨a, cp, hv⟩ := row_len h.rs
  have c0 := h.c0
  have c3 := h.c3
  have hz := h.fr 3
  rw [hv] at c0
  have h1 := h.setc (c + 1)
  have hg1 := grown_cell w R 3 (.int .i64 (c + 1))
  have HF := Lib.hid (rfails h1 hf0 hf1 true f' hf)
  clear hf
  generalize S.length = n at *
  go_enter Try.func19, Try.ntmps19
  go_wp2_with fail
  refine HF.out.mono ?_
  rintro e w2 ⟨rfl, h2, hg2⟩
  go_wp2_with fail
  go_ret2
  exact ⟨rfl, h2, grown_then hg1 hg2⟩
theorem rread_ok (h : Rk w R S O vS vO f c) (hm : O.length ≤ 1000) (k : Nat) (hk : k < S.length) (hc0 : 0 ≤ c) (hc1 : c < 1000000) (hf0 : 0 ≤ f) (hf1 : f ≤ 9223372036854775807) (f' : Int) (hf : failS f = (false, f')) :
    Calls Try.prog 19 #[.pointer (some ⟨R, 0, none⟩), .int .i64 k] w fun e w' => e = .returned (.tuple #[.string ⟨(rd S O k).toArray⟩, .int .i64 0]) ∧ Rk w' R S O vS vO f' (c + 1) ∧ w.grownBy w' (some R) := by
  obtain ⟨X, hX⟩ : ∃ X, rd S O k = X := ⟨_, rfl⟩
  rw [hX]
  have HX := Lib.hid hX
  obtain ⟨a, cp, hv⟩ := row_len h.rs
  have c0 := h.c0
  have c3 := h.c3
  have hz := h.fr 3
  rw [hv] at c0
  have h1 := h.setc (c + 1)
  have hg1 := grown_cell w R 3 (.int .i64 (c + 1))
  have HF := Lib.hid (rfails h1 hf0 hf1 false f' hf)
  have hkn : (k : Int) < (S.length : Int) := by omega
  clear hf hX
  have HV := Lib.hid hv
  clear hv
  go_enter Try.func19, Try.ntmps19
  go_wp2_with fail
  refine HF.out.mono ?_
  rintro e w2 ⟨rfl, h2, hg2⟩
  have hgr := grown_then hg1 hg2
  obtain ⟨ao, co, hvo⟩ := row_len h2.ro
  have d0 := h2.c0
  have d1 := h2.c1
  rw [HV.out] at d0
  rw [hvo] at d1
  have HVO := Lib.hid hvo
  clear HF h1 hg1 hg2 c0 c3 hz hvo h
  go_wp2_with fail
  go_loop [7] (fun i => ∃ r : Nat, r ≤ O.length ∧ i = .int .i64 ((r : Int) - 1) ∧ Hid (rd S (O.take r) k = X)) (fun i => (intOf i + 1).toNat)
  case atStart => exact ⟨O.length, by omega, by go_num, by show rd S (O.take O.length) k = X; rw [List.take_length]; exact HX.out⟩
  case round =>
    obtain ⟨r, hr, rfl, hrd⟩ := hrel
    rcases r with _ | r
    · obtain ⟨g, cap, hv2, hB, e0, _⟩ := h2.rs.cell (i := k) (List.getElem?_eq_getElem hk)
      rw [HV.out] at hv2
      cases hv2
      have hXe : S[k] = X := by
        have := hrd.out
        simpa [rd, hk] using this
      rw [hXe] at e0
      unfold sc at e0
      go_wp2
      go_ret2
      exact ⟨rfl, h2, hgr⟩
    · have hro : r < O.length := by omega
      obtain ⟨g, cap, hv2, hB, e0, e1⟩ := h2.ro.cells (i := r) (List.getElem?_eq_getElem hro)
      rw [HVO.out] at hv2
      cases hv2
      have hst : Hid ((if (O[r]).1 = k then (O[r]).2 else rd S (O.take r) k) = X) := by
        have h9 := hrd.out
        rw [List.take_succ_eq_append_getElem hro] at h9
        show (if (O[r]).1 = k then (O[r]).2 else rd S (O.take r) k) = X
        rw [← rd_write]
        exact h9
      have hi : ((r + 1 : Nat) : Int) - 1 = (r : Int) := by omega
      rw [hi]
      obtain ⟨p, hp⟩ : ∃ p, O[r] = p := ⟨_, rfl⟩
      rw [hp] at e0 e1 hst
      clear hp hi
      by_cases hpk : p.1 = k
      · have hXe : p.2 = X := by have := hst.out; rwa [if_pos hpk] at this
        rw [hXe] at e1
        rw [hpk] at e0
        unfold sc at e1
        go_wp2
        go_ret2
        exact ⟨rfl, h2, hgr⟩
      · have hne : ((p.1 : Int) == (k : Int)) = false := by rw [beq_eq_false_iff_ne]; omega
        have hst2 : Hid (rd S (O.take r) k = X) := by
          have := hst.out
          rwa [if_neg hpk] at this
        go_wp2
        go_round
        case rel => exact ⟨r, by omega, by go_num, hst2⟩
        case measure => simp [intOf]
end
end Go.Proofs.Ytaccmeffcjfeeaa
