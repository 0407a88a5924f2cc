/-
  The document's Flush.
-/
import Derived.Test.YtaccmeffcjfeeaaRw
import Derived.BigRegion
namespace Go.Proofs.Ytaccmeffcjfeeaa
open Go.RowKit

section
variable {w : World} {R : Nat} {S : List (List UInt8)} {O : List (Nat × List UInt8)} {vS vO : Value} {f c : Int}
/-- One sector is written. -/
theorem Rk.sets (h : Rk w R S O vS vO f c) {g n cap : Nat} (hv : vS = .slice (some ⟨g, 0, none⟩) n cap) (i : Nat) (hi : i < S.length) (x : List UInt8) :
    Rk (w.setCell ⟨g, i, none⟩ (sc x)) R (S.set i x) O vS vO f c ∧ Mv w (w.setCell ⟨g, i, none⟩ (sc x)) R vS vO := by
  have hob : vS.ownBlock = some g := by rw [hv]; rfl
  have hgR := (World.ownsRow.lt h.rs g hob).1
  have hap := h.apart g hob
  refine ⟨⟨(heap_setCell_other _ _ _ _ (by show R ≠ g; omega)).trans h.box, ?_, row_keep h.ro fun j hj _ => heap_setCell_other _ _ _ _ (by show j ≠ g; rintro rfl; exact hap hj)⟩, ?_⟩
  · rcases h.rs.2 with ⟨_, h0⟩ | ⟨g', cap', cur, hv', hB, hg, hcap, hmx, hcs, hx⟩
    · omega
    · rw [hv] at hv'
      cases hv'
      unfold Rs
      rw [List.length_set]
      refine ⟨by simp, .inr ⟨g, cap, cur.setIfInBounds i (sc x), hv, hB, heap_setCell_same w g i _ 9 _ hg, hcap, hmx, by simp [hcs], ?_⟩⟩
      rw [List.map_set, ← hx, Array.toList_setIfInBounds, List.take_set]
  · exact ⟨rfl, rfl, rfl, by simp [World.setCell], fun k _ _ hS _ => heap_setCell_other _ _ _ _ (by show k ≠ g; rintro rfl; exact hS hob)⟩
theorem Rk.shut (h : Rk w R S O vS vO f c) : Rk (w.setCell ⟨R, 1, none⟩ (.slice none 0 0)) R S [] vS (.slice none 0 0) f c := by
  refine ⟨by rw [heap_setCell_same w R 1 _ 53 _ h.box]; rfl, row_keep h.rs fun g hg _ => heap_setCell_other _ _ _ _ (by have := (World.ownsRow.lt h.rs g hg).1; show g ≠ R; omega), World.ownsRow_nil _ _ _ _⟩

theorem rflush_fail (h : Rk w R S O vS vO f c) (hf0 : 0 ≤ f) (hf1 : f ≤ 9223372036854775807) (f' : Int) (hf : failS f = (true, f')) :
    Calls Try.prog 20 #[.pointer (some ⟨R, 0, none⟩)] w fun e w' => e = .returned (.int .i64 18) ∧ Rk w' R S O vS vO f' c ∧ Mv w w' R vS vO := by
  have HF := Lib.hid (rfails h hf0 hf1 true f' hf)
  clear hf
  go_enter Try.func20, Try.ntmps20
  go_wp2_with fail
  refine HF.out.mono ?_
  rintro e w2 ⟨rfl, h2, hg2⟩
  go_wp2_with fail
  go_ret
  exact ⟨rfl, h2, Mv.of _ _ hg2⟩
theorem rflush_ok (h : Rk w R S O vS vO f c) (hm : O.length ≤ 1000) (hO : ∀ p ∈ O, p.1 < S.length) (hf0 : 0 ≤ f) (hf1 : f ≤ 9223372036854775807) (f' : Int) (hf : failS f = (false, f')) :
    Calls Try.prog 20 #[.pointer (some ⟨R, 0, none⟩)] w fun e w' => e = .returned (.int .i64 0) ∧ Rk w' R (fl S O) [] vS (.slice none 0 0) f' c ∧ Mv w w' R vS vO := by
  have HF := Lib.hid (rfails h hf0 hf1 false f' hf)
  have HO := Lib.hid hO
  obtain ⟨aS, cS, hvs⟩ := row_len h.rs
  obtain ⟨ao, co, hvo⟩ := row_len h.ro
  have HVS := Lib.hid hvs
  have HVO := Lib.hid hvo
  clear hf hO hvs hvo
  go_enter Try.func20, Try.ntmps20
  go_wp2_with fail
  refine HF.out.mono ?_
  rintro e w2 ⟨rfl, h2, hg2⟩
  have hm2 := Mv.of vS vO hg2
  clear HF hg2 h
  go_wp2_with fail
  go_loopw [4] (fun i wr => ∃ k : Nat, k ≤ O.length ∧ i = .int .i64 k ∧ Rk wr R (fl S (O.take k)) O vS vO f' c ∧ Mv w wr R vS vO) (fun i _ => O.length - (intOf i).toNat)
  case atStart => exact ⟨0, by omega, rfl, h2, hm2⟩
  case round =>
    clear h2 hm2
    obtain ⟨k, hk, rfl, hr, hmr⟩ := hrel
    have c0 := hr.c0
    have c1 := hr.c1
    rw [HVS.out] at c0
    rw [HVO.out] at c1
    by_cases hlt : k < O.length
    · have hgo := List.getElem?_eq_getElem hlt
      obtain ⟨g, cap, hv2, hB, e0, e1⟩ := hr.ro.cells hgo
      rw [HVO.out] at hv2
      cases hv2
      have hp1 := HO.out _ (List.getElem_mem hlt)
      have hst : Hid (fl S (O.take (k + 1)) = (fl S (O.take k)).set (O[k]).1 (O[k]).2) := by
        show fl S (O.take (k + 1)) = _
        rw [List.take_succ_eq_append_getElem hlt]
        unfold fl
        rw [List.foldl_append]
        rfl
      have hlen := fl_len (O.take k) S
      obtain ⟨p, hp⟩ : ∃ p, O[k] = p := ⟨_, rfl⟩
      rw [hp] at e0 e1 hp1 hst
      clear hp hgo
      generalize fl S (O.take k) = S1 at *
      have hp2 : p.1 < S1.length := by omega
      obtain ⟨gs, caps, hvs2, hBs, u0, uz⟩ := hr.rs.cell (List.getElem?_eq_getElem hp2)
      rw [HVS.out, hlen] at hvs2
      cases hvs2
      have hset := hr.sets HVS.out p.1 hp2 p.2
      rw [← hst.out] at hset
      have hps : (p.1 : Int) < (S.length : Int) := by omega
      generalize S1[p.1] = y at *
      unfold sc at e1 u0 hset
      obtain ⟨P1, hP1⟩ : ∃ P1, p.1 = P1 := ⟨_, rfl⟩
      rw [hP1] at e0 u0 uz hset hps
      clear hst hlen hp1 hp2 hP1
      go_wp2
      go_region
      all_goals
        go_wp2
        go_roundw
        case rel => exact ⟨k + 1, by omega, by go_num, hset.1.keep fun _ _ _ => rfl, hmr.trans ⟨hset.2.os, hset.2.tape, hset.2.output, hset.2.size, hset.2.block⟩⟩
        case measure => simp [intOf]; omega
    · have hk2 : k = O.length := by omega
      rw [hk2, List.take_length] at hr
      have hz := hr.fr 1
      have hsh := hr.shut
      have hmm : Mv wr (wr.setCell ⟨R, 1, none⟩ (.slice none 0 0)) R vS vO := Mv.of _ _ (grown_cell _ _ _ _)
      clear hk2
      go_wp2
      go_ret
      exact ⟨rfl, hsh, hmr.trans hmm⟩
end
end Go.Proofs.Ytaccmeffcjfeeaa
