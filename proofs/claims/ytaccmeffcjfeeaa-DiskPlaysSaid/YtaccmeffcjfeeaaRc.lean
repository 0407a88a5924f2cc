/-
  The document's Crash.
-/
import Derived.Test.YtaccmeffcjfeeaaRf
import Derived.Deep.DeepCutAuto
import Derived.Deep.CutBlock
import Derived.Deep.LoopGhost
namespace Go.Proofs.Ytaccmeffcjfeeaa
open Go.RowKit

theorem cat_of (a b : List UInt8) (v : Nat) (hb : b.length = 64) : (⟨a.toArray⟩ : ByteArray).extract 0 v ++ (⟨b.toArray⟩ : ByteArray).extract v 64 = ⟨(a.take v ++ b.drop v).toArray⟩ := by
  apply ByteArray.ext
  simp
  exact List.take_of_length_le (by simp; omega)
section
variable {w : World} {R : Nat} {S : List (List UInt8)} {O : List (Nat × List UInt8)} {vS vO : Value} {f c : Int}
set_option maxRecDepth 100000 in
set_option maxHeartbeats 4000000 in
theorem rcrash (h : Rk w R S O vS vO f c) (hm : O.length ≤ 1000) (hS : ∀ x ∈ S, x.length = 64) (hO : ∀ p ∈ O, p.1 < S.length ∧ p.2.length = 64) (la : Option Addr) (F : List (Int × Int)) (len lcap : Nat) (hF : Fates w la F) (hlen : F.length = len) (hl63 : len ≤ 9223372036854775807) (hfar : 0 < len → ∀ d off, la = some ⟨d, off, none⟩ → d < R) :
    Calls Try.prog 22 #[.pointer (some ⟨R, 0, none⟩), .slice la len lcap] w fun e w' => e = .returned (.int .i64 (crN F 0 O : Nat)) ∧ Rk w' R (crS F 0 S O) [] vS (.slice none 0 0) 0 0 ∧ Mv w w' R vS vO := by
  obtain ⟨X, hX⟩ : ∃ X, crS F 0 S O = X := ⟨_, rfl⟩
  obtain ⟨N, hN⟩ : ∃ N, crN F 0 O = N := ⟨_, rfl⟩
  have hNle := crN_le F O 0
  rw [hX, hN]
  rw [hN] at hNle
  have HX := Lib.hid hX
  have HN := Lib.hid hN
  have HO := Lib.hid hO
  have HSL := Lib.hid hS
  have HF := Lib.hid hF
  have HL := Lib.hid hlen
  have HFAR := Lib.hid hfar
  obtain ⟨aS, cS, hvs⟩ := row_len h.rs
  obtain ⟨ao, co, hvo⟩ := row_len h.ro
  have HVS := Lib.hid hvs
  have HVO := Lib.hid hvo
  have hRl := h.lt
  clear hX hN hO hS hF hlen hfar hvs hvo
  go_enter Try.func22, Try.ntmps22
  go_wp2_with fail
  go_loopg [5, 6] 1000 (fun g l5 i wr => ∃ (k lost : Nat) (C : List (List UInt8)), k ≤ O.length ∧ i = .int .i64 k ∧ l5 = .int .i64 lost ∧ Rk wr R C O vS vO f c ∧ Hid (C.length = S.length ∧ ∀ x ∈ C, x.length = 64) ∧ Hid (crS F k C (O.drop k) = X) ∧ Hid (lost + crN F k (O.drop k) = N) ∧ lost ≤ k ∧ Mv w wr R vS vO ∧ g = 1000 - k)
  case atStart => exact ⟨0, 0, S, by omega, rfl, rfl, h, ⟨rfl, HSL.out⟩, HX.out, by show 0 + _ = N; rw [Nat.zero_add]; exact HN.out, by omega, Mv.of _ _ (grown_nothing _ _), by omega⟩
  case round =>
    clear h
    obtain ⟨k, lost, C, hk, rfl, rfl, hr, hC, hcur, hlost, hlk, hmr, rfl⟩ := hrel
    have c0 := hr.c0
    have c1 := hr.c1
    rw [HVS.out] at c0
    rw [HVO.out] at c1
    by_cases hlt : k < O.length
    · have hgo := List.getElem?_eq_getElem hlt
      obtain ⟨g, cap, hv2, hB, e0, e1⟩ := hr.ro.cells hgo
      rw [HVO.out] at hv2
      cases hv2
      obtain ⟨hp1, hp64⟩ := HO.out _ (List.getElem_mem hlt)
      have hdrop : O.drop k = O[k] :: O.drop (k + 1) := List.drop_eq_getElem_cons hlt
      obtain ⟨p, hp⟩ : ∃ p, O[k] = p := ⟨_, rfl⟩
      rw [hp] at e0 e1 hp1 hp64 hdrop
      have hc2 := hcur.out
      have hn2 := hlost.out
      rw [hdrop] at hc2 hn2
      simp only [crS, crN] at hc2 hn2
      obtain ⟨v, hv⟩ : ∃ v, lf F k = v := ⟨_, rfl⟩
      have hv64 : v ≤ 64 := by rw [← hv]; exact lf_le _ _
      rw [hv] at hc2 hn2
      have HV := Lib.hid hv
      have hcur2 := Lib.hid hc2
      have hlost2 := Lib.hid hn2
      obtain ⟨P1, P2⟩ := p
      simp only at e0 e1 hp1 hp64
      unfold sc at e1
      clear hp hgo hdrop hc2 hn2 hv hcur hlost
      have ha := (Below.refl wr.heap.size wr).alloc (Nat.le_refl _) (Obj.cells #[.int .i64 (P1 : Int), .string ⟨P2.toArray⟩] 67)
      have hr2 := hr.below ha
      have hmr2 : Mv w (wr.alloc (.cells #[.int .i64 (P1 : Int), .string ⟨P2.toArray⟩] 67)) R vS vO := hmr.trans (Mv.of _ _ (World.grownBy_alloc _ _ _))
      have x0 : (wr.alloc (.cells #[.int .i64 (P1 : Int), .string ⟨P2.toArray⟩] 67)).cell? ⟨wr.heap.size, 0, none⟩ = some (.int .i64 (P1 : Int)) := cellAt (heap_alloc_new _ _) 0 rfl
      have x1 : (wr.alloc (.cells #[.int .i64 (P1 : Int), .string ⟨P2.toArray⟩] 67)).cell? ⟨wr.heap.size, 1, none⟩ = some (.string ⟨P2.toArray⟩) := cellAt (heap_alloc_new _ _) 1 rfl
      have hfc : ∀ (j : Nat) (u : Value) (d off : Nat), d < R → w.cell? ⟨d, off + j, none⟩ = some u → (wr.alloc (.cells #[.int .i64 (P1 : Int), .string ⟨P2.toArray⟩] 67)).cell? ⟨d, off + j, none⟩ = some u := fun j u d off hd hu => by
        have hdl : d < w.heap.size := by simpa using block_lt_of_cell hu
        exact (World.cell?_of_block (hmr2.block d hdl (by omega) (fun e => by have := (World.ownsRow.lt hr.rs d e).1; omega) (fun e => by have := (World.ownsRow.lt hr.ro d e).1; omega))).trans hu
      have HFC := Lib.hid hfc
      clear hfc hr hmr ha
      go_upto_if 29 with fail
      generalize wr.alloc (.cells #[.int .i64 (P1 : Int), .string ⟨P2.toArray⟩] 67) = wa at *
      generalize wr.heap.size = xb at *
      go_cut [8] (fun s8 wx => wx = wa ∧ s8 = .int .i64 (v : Int))
      case first =>
        by_cases hi : k < len
        · have hkF : k < F.length := by rw [HL.out]; exact hi
          obtain ⟨d, off, rfl, hf0, hf1⟩ := HF.out k hkF
          have hdR := HFAR.out (by omega) d off rfl
          obtain ⟨KA, hKA⟩ : ∃ KA, F[k] = KA := ⟨_, rfl⟩
          rw [hKA] at hf0 hf1
          have q0 : wa.cell? ⟨d, off + k * 2, none⟩ = some (.int .i64 KA.1) := by
            have := HFC.out (k * 2) _ d off hdR hf0
            exact this
          have q1 : wa.cell? ⟨d, off + k * 2 + 1, none⟩ = some (.int .i64 KA.2) := by
            have := HFC.out (k * 2 + 1) _ d off hdR (by rw [← Nat.add_assoc]; exact hf1)
            rw [← Nat.add_assoc] at this
            exact this
          have hleft : leftN KA.1 KA.2 = v := by
            have := HV.out
            unfold lf at this
            rw [List.getElem?_eq_getElem hkF, hKA] at this
            exact this
          obtain ⟨K, A⟩ := KA
          simp only at q0 q1 hleft
          have t0 : -3 < K.tmod 3 := (tmod_in K 3 (by omega)).1
          have t1 : K.tmod 3 < 3 := (tmod_in K 3 (by omega)).2
          have a0 : -65 < A.tmod 65 := (tmod_in A 65 (by omega)).1
          have a1 : A.tmod 65 < 65 := (tmod_in A 65 (by omega)).2
          have hK := rest_eq K 3 (by omega)
          have hKl := rest_lt K 3 (by omega)
          have hA := rest_eq A 65 (by omega)
          unfold leftN at hleft
          have hq : restN K 3 = 0 ∨ restN K 3 = 1 ∨ restN K 3 = 2 := by omega
          rcases hq with hq | hq | hq
          · rw [hq] at hK hleft
            have hK2 : (K.tmod 3 + 3) % 3 = 0 := hK
            have hv0 : v = 0 := by rw [← hleft]; simp
            subst hv0
            clear hK hA hleft hq hKl hKA hf0 hf1
            go_wp2_with fail
            go_meet
            exact ⟨rfl, rfl⟩
          · rw [hq] at hK hleft
            have hK2 : (K.tmod 3 + 3) % 3 = 1 := hK
            have hv0 : v = 64 := by rw [← hleft]; simp
            subst hv0
            clear hK hA hleft hq hKl hKA hf0 hf1
            go_wp2_with fail
            go_meet
            exact ⟨rfl, rfl⟩
          · rw [hq] at hK hleft
            have hK2 : (K.tmod 3 + 3) % 3 = 2 := hK
            have hv0 : restN A 65 = v := by rw [← hleft]; simp
            rw [hv0] at hA
            have hA2 : (A.tmod 65 + 65) % 65 = (v : Int) := hA
            clear hK hA hleft hq hKl hKA hf0 hf1 hv0
            go_wp2_with fail
            go_meet
            exact ⟨rfl, rfl⟩
        · have hv0 : v = 0 := by
            have := HV.out
            unfold lf at this
            rw [List.getElem?_eq_none (by rw [HL.out]; omega)] at this
            exact this.symm
          subst hv0
          go_wp2_with fail
          go_meet
          exact ⟨rfl, rfl⟩
      case rest =>
        obtain ⟨rfl, rfl⟩ := hcut
        have hPC : P1 < C.length := by rw [hC.out.1]; exact hp1
        have hCy := List.getElem?_eq_getElem hPC
        obtain ⟨gs, caps, hvs2, hBs, u0, uz⟩ := hr2.rs.cell hCy
        rw [HVS.out, hC.out.1] at hvs2
        cases hvs2
        have hy64 := hC.out.2 _ (List.getElem_mem hPC)
        have hgD : C.getD P1 [] = C[P1] := by rw [List.getD_eq_getElem?_getD, hCy]; rfl
        have hcur3 := hcur2.out
        rw [hgD] at hcur3
        obtain ⟨y, hy⟩ : ∃ y, C[P1] = y := ⟨_, rfl⟩
        rw [hy] at u0 hy64 hcur3
        unfold sc at u0
        have hset := hr2.sets HVS.out P1 hPC (P2.take v ++ y.drop v)
        unfold sc at hset
        have hcat := cat_of P2 y v hy64
        rw [← hcat] at hset
        have hC2 : Hid ((C.set P1 (P2.take v ++ y.drop v)).length = S.length ∧ ∀ x ∈ C.set P1 (P2.take v ++ y.drop v), x.length = 64) := by
          refine ⟨by rw [List.length_set]; exact hC.out.1, fun x hx => ?_⟩
          rcases List.mem_or_eq_of_mem_set hx with h9 | h9
          · exact hC.out.2 x h9
          · rw [h9]; simp; omega
        have hT1 : (⟨P2.toArray⟩ : ByteArray).size = 64 := by simp [ByteArray.size, hp64]
        have hT2 : (⟨y.toArray⟩ : ByteArray).size = 64 := by simp [ByteArray.size, hy64]
        have HCUR := Lib.hid hcur3
        generalize C.set P1 (P2.take v ++ y.drop v) = C2 at *
        generalize (⟨P2.toArray⟩ : ByteArray) = T1 at *
        generalize (⟨y.toArray⟩ : ByteArray) = T2 at *
        have c0w := hr2.c0
        rw [HVS.out] at c0w
        have hP1S : (P1 : Int) < (S.length : Int) := by omega
        have hv0 : (0 : Int) ≤ (v : Int) := by omega
        have hv6 : (v : Int) ≤ 64 := by omega
        clear hcat hCy hgD hy hcur3 hy64 hp64 hcur2 hPC
        by_cases hv9 : v = 64
        · have hl2 : Hid (lost + crN F (k + 1) (O.drop (k + 1)) = N) := by
            have := hlost2.out
            rw [if_pos hv9] at this
            show _ = _
            omega
          have hv10 : ¬ (v : Int) < 64 := by omega
          clear hv9
          go_wp2
          go_region
          all_goals
            go_wp2
            go_roundg (1000 - (k + 1))
            case measure => omega
            case rel => exact ⟨k + 1, lost, C2, by omega, by go_num, rfl, hset.1.keep (fun _ _ _ => rfl), hC2, HCUR.out, hl2, by omega, hmr2.trans ⟨hset.2.os, hset.2.tape, hset.2.output, hset.2.size, hset.2.block⟩, by omega⟩
        · have hl2 : Hid (lost + 1 + crN F (k + 1) (O.drop (k + 1)) = N) := by
            have := hlost2.out
            rw [if_neg hv9] at this
            show _ = _
            omega
          have hv10 : (v : Int) < 64 := by omega
          clear hv9
          go_wp2
          go_region
          all_goals
            go_wp2
            go_roundg (1000 - (k + 1))
            case measure => omega
            case rel => exact ⟨k + 1, lost + 1, C2, by omega, by go_num, by go_num, hset.1.keep (fun _ _ _ => rfl), hC2, HCUR.out, hl2, by omega, hmr2.trans ⟨hset.2.os, hset.2.tape, hset.2.output, hset.2.size, hset.2.block⟩, by omega⟩
    · have hk2 : k = O.length := by omega
      subst hk2
      have hx := hcur.out
      have hn := hlost.out
      rw [List.drop_length] at hx hn
      simp only [crS, crN, Nat.add_zero] at hx hn
      subst hx hn
      have z1 := hr.fr 1
      have z2 := hr.fr 2
      have z3 := hr.fr 3
      have hs1 := hr.shut
      have hs2 := (hs1.setf 0).setc 0
      have hg : wr.grownBy (((wr.setCell ⟨R, 1, none⟩ (.slice none 0 0)).setCell ⟨R, 2, none⟩ (.int .i64 0)).setCell ⟨R, 3, none⟩ (.int .i64 0)) (some R) := grown_then (grown_then (grown_cell _ _ _ _) (grown_cell _ _ _ _)) (grown_cell _ _ _ _)
      have c2 := hr.c2
      have c3 := hr.c3
      clear hcur hlost hs1
      go_wp2_with fail
      go_ret
      exact ⟨rfl, hs2, hmr.trans (Mv.of _ _ hg)⟩
end
end Go.Proofs.Ytaccmeffcjfeeaa
