/-
  Flush: all that was written lies there.
-/
import Derived.Test.YtaccmeffcjfeeaaWr
import Derived.Deep.RegionHeld
namespace Go.Proofs.Ytaccmeffcjfeeaa
open Go.RowKit
set_option linter.unusedSimpArgs false

theorem setCells_heap (b : Nat) : ∀ (vs : List Value) (o : Nat) (w : World) (cur : Array Value) (T : TypeId), w.heap[b]? = some (.cells cur T (0, 0)) → o + vs.length ≤ cur.size →
    (w.setCells b o vs).heap[b]? = some (.cells (cur.toList.take o ++ vs ++ cur.toList.drop (o + vs.length)).toArray T (0, 0))
  | [], o, w, cur, T, h, _ => by simp [World.setCells, h]
  | v :: vs, o, w, cur, T, h, hle => by
    have h1 := heap_setCell_same w b o cur T v h
    have h2 := setCells_heap b vs (o + 1) (w.setCell ⟨b, o, none⟩ v) _ T h1 (by simp only [List.length_cons] at hle; simp; omega)
    simp only [World.setCells]
    rw [h2]
    have e := list_seg_step cur.toList o v vs (by simp only [List.length_cons] at hle; simpa using hle)
    simp only [List.length_cons, Array.toList_setIfInBounds]
    rw [e]
theorem setCells_other (b k : Nat) (hk : k ≠ b) : ∀ (vs : List Value) (o : Nat) (w : World), (w.setCells b o vs).heap[k]? = w.heap[k]?
  | [], _, _ => rfl
  | v :: vs, o, w => by
    simp only [World.setCells]
    rw [setCells_other b k hk vs]
    exact heap_setCell_other _ _ _ _ hk
theorem setCells_cell {b o : Nat} {vs : List Value} {w : World} {a : Addr} (h : a.block ≠ b) : (w.setCells b o vs).cell? a = w.cell? a := World.cell?_of_block (setCells_other b a.block h vs o w)
theorem setCells_same (b : Nat) : ∀ (vs : List Value) (o : Nat) (w : World), (w.setCells b o vs).os = w.os ∧ (w.setCells b o vs).tape = w.tape ∧ (w.setCells b o vs).output = w.output ∧ (w.setCells b o vs).heap.size = w.heap.size
  | [], _, _ => ⟨rfl, rfl, rfl, rfl⟩
  | v :: vs, o, w => by
    simp only [World.setCells]
    obtain ⟨h1, h2, h3, h4⟩ := setCells_same b vs (o + 1) (w.setCell ⟨b, o, none⟩ v)
    exact ⟨h1, h2, h3, h4.trans (by simp [World.setCell])⟩

section
variable {w : World} {b s n : Nat} {S : List (List UInt8)} {O : List (Nat × List UInt8)} {m : Nat} {oa : Option Addr} {cap : Nat} {f r : Int}
/-- A part of a sector is there, and may be written. -/
theorem Dk.room (h : Dk w b s n S O m oa cap f r) (k : Nat) (hk : k < n) (c : Nat) (hc : c ≤ 64) : w.there s (k * 64) c := by
  obtain ⟨T, hs⟩ := h.sec
  intro j hj
  have hlen : (S.flatMap bc).length = n * 64 := by rw [flat_len bc 64 S (fun y hy => by rw [bc_len]; exact h.all y hy), h.len]
  have hlt : k * 64 + j < (S.flatMap bc).length := by rw [hlen]; omega
  refine ⟨?_, freeAt hs _⟩
  rw [cellAt hs (k * 64 + j) (v := (S.flatMap bc)[k * 64 + j]) (by simp [hlt])]
  rfl
/-- The first cells of a sector are written over. -/
theorem Dk.over (h : Dk w b s n S O m oa cap f r) (k : Nat) (hk : k < n) (y x : List UInt8) (hy : S[k]? = some y) (hx : x.length ≤ 64) :
    Dk (w.setCells s (k * 64) (bc x)) b s n (S.set k (x ++ y.drop x.length)) O m oa cap f r ∧ Moved w (w.setCells s (k * 64) (bc x)) b s oa := by
  obtain ⟨T, hs⟩ := h.sec
  obtain ⟨T', hb⟩ := h.box
  obtain ⟨o1, o2, o3, o4⟩ := setCells_same s (bc x) (k * 64) w
  have hkS : k < S.length := by rw [h.len]; exact hk
  have hye : S[k] = y := by rw [List.getElem?_eq_getElem hkS] at hy; exact Option.some.inj hy
  have hy64 : y.length = 64 := h.all y (by rw [← hye]; exact List.getElem_mem hkS)
  have hall : ∀ z ∈ S, (bc z).length = 64 := fun z hz => by rw [bc_len]; exact h.all z hz
  have hlen : (S.flatMap bc).length = n * 64 := by rw [flat_len bc 64 S hall, h.len]
  have hfit : k * 64 + (bc x).length ≤ (S.flatMap bc).toArray.size := by rw [bc_len]; simp only [List.size_toArray]; rw [hlen]; omega
  have hset := setCells_heap s (bc x) (k * 64) w _ T hs hfit
  have hflat := flat_set bc 64 S k hkS (x ++ y.drop x.length) hall
  have hmid : (S.flatMap bc).drop (k * 64 + x.length) = bc (y.drop x.length) ++ (S.flatMap bc).drop (k * 64 + 64) := by
    have hself := flat_set bc 64 S k hkS y hall
    rw [← hye, List.set_getElem_self] at hself
    conv => lhs; rw [hself]
    have e1 : ((S.flatMap bc).take (k * 64)).length = k * 64 := by rw [List.length_take, hlen]; omega
    rw [List.append_assoc, List.drop_append, e1]
    rw [List.drop_of_length_le (by rw [e1]; omega), List.nil_append, Nat.add_sub_cancel_left]
    rw [List.drop_append_of_le_length (by rw [bc_len, hye, hy64]; omega), hye]
    simp [bc, List.map_drop]
  refine ⟨{ h with box := ⟨T', (setCells_other s b h.ne _ _ _).trans hb⟩, sec := ⟨T, ?_⟩, len := by simp [h.len], all := ?_, own := own_keep h.own fun g _ hg => setCells_other s g (fun e => h.nos (by rw [hg, e])) _ _ _ }, ⟨o1, o2, o3, by rw [o4]; exact Nat.le_refl _, fun g _ _ hgs _ => setCells_other s g hgs _ _ _⟩⟩
  · rw [hset]
    congr 2
    simp only [bc_len]
    rw [hflat, hmid]
    simp [bc, List.append_assoc]
  · intro z hz
    rcases List.mem_or_eq_of_mem_set hz with hz | rfl
    · exact h.all z hz
    · simp; omega
end

/-- What a Flush makes of the sectors. -/
def fl (S : List (List UInt8)) (O : List (Nat × List UInt8)) : List (List UInt8) := O.foldl (fun S p => S.set p.1 p.2) S

theorem flush_nil (w : World) : Calls Try.prog 14 #[.pointer none] w fun e w' => e = .returned (.int .i64 1) ∧ w = w' := by
  go_enter Try.func14, Try.ntmps14
  go_wp2
  go_ret
  exact ⟨rfl, rfl⟩

section
variable {w : World} {b s n : Nat} {S : List (List UInt8)} {O : List (Nat × List UInt8)} {m : Nat} {oa : Option Addr} {cap : Nat} {f r : Int}
/-- No write is open any more. -/
theorem Dk.shut (h : Dk w b s n S O m oa cap f r) : Dk (w.setCell ⟨b, 1, none⟩ (.slice none 0 0)) b s n S [] 0 none 0 f r := by
  obtain ⟨T, hb⟩ := h.box
  obtain ⟨T', hs⟩ := h.sec
  refine { h with box := ⟨T, ?_⟩, sec := ⟨T', (heap_setCell_other _ _ _ _ h.ne.symm).trans hs⟩, many := rfl, own := World.ownsRow_nil _ _ _ _, oall := by simp, nob := by simp [Value.ownBlock], nos := by simp [Value.ownBlock], few := by omega }
  rw [heap_setCell_same _ _ _ _ T _ hb]
  rfl
theorem flush_fail (h : Dk w b s n S O m oa cap f r) (f' : Int) (hf : failS f = (true, f')) :
    Calls Try.prog 14 #[.pointer (some ⟨b, 0, none⟩)] w fun e w' => e = .returned (.int .i64 18) ∧ Dk w' b s n S O m oa cap f' r ∧ Moved w w' b s oa := by
  have H := Lib.hid hf
  clear hf
  go_enter Try.func14, Try.ntmps14
  go_wp2_with (go_at_call 27; refine (fails_any h true f' H.out).mono ?_; rintro e w1 ⟨rfl, hD, hM2, -⟩)
  go_ret
  exact ⟨rfl, hD, hM2⟩

set_option maxRecDepth 100000 in
set_option maxHeartbeats 2000000 in
theorem flush_ok (h : Dk w b s n S O m oa cap f r) (f' : Int) (hf : failS f = (false, f')) :
    Calls Try.prog 14 #[.pointer (some ⟨b, 0, none⟩)] w fun e w' => e = .returned (.int .i64 0) ∧ Dk w' b s n (fl S O) [] 0 none 0 f' r ∧ Moved w w' b s oa := by
  have H := Lib.hid hf
  have hn := h.hi
  have hfew := h.few
  have HM := Lib.hid h.many
  have HO := Lib.hid h.oall
  obtain ⟨R, hR⟩ : ∃ R, fl S O = R := ⟨_, rfl⟩
  rw [hR]
  have HR := Lib.hid hR
  clear hf hR
  go_enter Try.func14, Try.ntmps14
  go_wp2_with (go_at_call 27; refine (fails_any h false f' H.out).mono ?_; rintro e w1 ⟨rfl, hD, hM2, -⟩; have d1 := hD.c1)
  clear d1 h
  go_loopw [16] (fun i wr => ∃ (q : Nat) (C : List (List UInt8)), q ≤ m ∧ i = .int .i64 q ∧ Dk wr b s n C O m oa cap f' r ∧ Hid ((O.take q).foldl (fun S p => S.set p.1 p.2) S = C) ∧ Moved w1 wr b s oa) (fun i _ => m - (intOf i).toNat)
  case atStart => exact ⟨0, S, by omega, rfl, hD, rfl, Moved.refl _ _ _ _⟩
  case round =>
    obtain ⟨q, C, hq, rfl, hDr, hcur, hMr⟩ := hrel
    by_cases hlt : q < m
    · obtain ⟨g, rfl, hgb, hgs, hgw⟩ := hDr.spot (by omega)
      obtain ⟨p, hp⟩ : ∃ p, O[q]? = some p := ⟨_, List.getElem?_eq_getElem (by rw [HM.out]; exact hlt)⟩
      obtain ⟨hpn, hp64⟩ := HO.out p (List.mem_of_getElem? hp)
      have hrow := hDr.openAt q hlt p hp g rfl
      have hqO : q < O.length := by rw [HM.out]; exact hlt
      have hpe : O[q] = p := by rw [List.getElem?_eq_getElem hqO] at hp; exact Option.some.inj hp
      have hnext : Hid ((O.take (q + 1)).foldl (fun S p => S.set p.1 p.2) S = C.set p.1 p.2) := by
        show (O.take (q + 1)).foldl (fun S p => S.set p.1 p.2) S = C.set p.1 p.2
        rw [List.take_succ_eq_append_getElem hqO, List.foldl_append, hpe, hcur.out]
        rfl
      have i64a : Hid ((Try.prog.info? 64).map (·.size) = some (oc p).length) := by show _ = _; rw [info64, oc_len hp64]
      have i64b : Hid ((Try.prog.info? 64).map (·.size) = some (oc p).toArray.size) := by show _ = _; rw [info64]; simp [oc_len hp64]
      have ho1 := all_one (oc_one p)
      have hp65 : Hid ((oc p).length = 65) := oc_len hp64
      have hcC : p.1 < C.length := by rw [hDr.len]; exact hpn
      obtain ⟨y, hy⟩ : ∃ y, C[p.1]? = some y := ⟨_, List.getElem?_eq_getElem hcC⟩
      have hDa := hDr.below ((Below.refl _ _).alloc (Nat.le_refl _) (Obj.cells (oc p).toArray 64))
      have hMa : Moved w1 (wr.alloc (.cells (oc p).toArray 64)) b s (some ⟨g, 0, none⟩) := hMr.trans (Moved.below ((Below.refl _ _).alloc (Nat.le_refl _) _))
      have hc0 : (wr.alloc (.cells (oc p).toArray 64)).cell? ⟨wr.heap.size, 0, none⟩ = some (.int .i64 (p.1 : Int)) := cellAt (heap_alloc_new _ _) 0 (by simp [oc])
      have hrow2 : (wr.alloc (.cells (oc p).toArray 64)).rangeAt wr.heap.size 1 (bc p.2) := fun j v hv => cellAt (heap_alloc_new _ _) (1 + j) (by rw [Nat.add_comm]; simpa [oc] using hv)
      have hbs : Hid (wr.heap.size ≠ s) := by show wr.heap.size ≠ s; have := hDr.lts; omega
      have HP := Lib.hid hp64
      have HY := Lib.hid hy
      clear hp hpe hp64 hqO hcC hy hD
      go_wp2_with (first
        | (refine wpList_load_mid rfl 64 _ rfl g (q * 65) rfl (oc p) _ hrow Try.underlying64 rfl i64a.out ?_)
        | (refine wpList_alloc_big 64 65 zero64 rfl rfl ?_; intro Z hZ)
        | (refine wpList_store_row rfl 64 _ _ rfl _ (oc p).toArray rfl rfl 64 _ (heap_alloc_new _ _) i64b.out ?_ ho1 ?_; (simp [hp65.out, hZ.out]); rw [World.setRow_alloc_new]))
      generalize wr.alloc (.cells (oc p).toArray 64) = W at *
      generalize wr.heap.size = B4 at *
      have hDW : Dk W.drew b s n C O m (some ⟨g, 0, none⟩) cap f' r := hDa.keep fun _ _ _ => rfl
      have t0 := hDW.c0
      have t1 : W.drew.cell? ⟨B4, 0, none⟩ = some (.int .i64 (p.1 : Int)) := hc0
      have t2 : W.drew.rangeAt B4 1 (bc p.2) := hrow2
      have t3 : W.drew.there s (p.1 * 64) 64 := hDW.room p.1 hpn 64 (Nat.le_refl _)
      have t4 : (bc p.2).length = 64 := by rw [bc_len, HP.out]
      have t5 := bc_one p.2
      have t6 : (Try.prog.info? 62).map (·.size) = some (bc p.2).length := by rw [info62, t4]
      have t7 := Try.underlying62
      have t8 : (p.1 : Int) < (n : Int) := by omega
      simp only [Act.put, List.setIfInBounds_toArray, List.set_cons_zero, List.set_cons_succ]
      go_region_held (fun w' => w'.cell? ⟨b, 0, none⟩ = some (.slice (some ⟨s, 0, none⟩) n n) ∧ w'.cell? ⟨B4, 0, none⟩ = some (.int .i64 (p.1 : Int)) ∧ w'.rangeAt B4 1 (bc p.2) ∧ w'.there s (p.1 * 64) 64)
        (first | exact ⟨t0, t1, t2, t3⟩ | exact ⟨(setCells_cell hDW.ne).trans t0, (setCells_cell hbs.out).trans t1, World.rangeAt_setCells_apart t2 _ _ _ (.inl hbs.out), World.there_setCells t3 _ _ _⟩) (fail)
      obtain ⟨hD3, hM3⟩ := hDW.over p.1 hpn y p.2 HY.out (by rw [HP.out]; exact Nat.le_refl _)
      have hy64 : y.length = 64 := hDW.all y (List.mem_of_getElem? HY.out)
      rw [HP.out, List.drop_of_length_le (by omega), List.append_nil] at hD3
      have hM4 : Moved w1 W.drew b s (some ⟨g, 0, none⟩) := hMa.trans (Moved.below (Below.refl _ _).drew)
      go_wp2
      go_roundw
      case rel => exact ⟨q + 1, C.set p.1 p.2, by omega, by go_num, hD3, hnext, hM4.trans hM3⟩
      case measure => simp [intOf]; omega
    · obtain rfl : q = m := by omega
      have hfin : Hid (C = R) := by
        show C = R
        rw [← HR.out, ← hcur.out, List.take_of_length_le (by rw [HM.out]; exact Nat.le_refl _)]
        rfl
      have d1 := hDr.c1
      have d2 := hDr.fr 1
      have hDS := hDr.shut
      have hMS := Moved.set wr b s oa 1 (.slice none 0 0)
      go_wp2_with fail
      go_ret
      exact ⟨rfl, by rw [← hfin.out]; exact hDS, hM2.trans (hMr.trans hMS)⟩
end

end Go.Proofs.Ytaccmeffcjfeeaa
