/-
  The numbers that are known, by rising numbers: IDs, and Len.
-/
import Derived.Test.YtlohcidapoicoaaLay
import Derived.Test.YtlohcidapoicoaaMask
namespace Go.Proofs.Ytlohcidapoicoaa
open Go.RowKit Go.Maps Go.Sort Go.Shelf

theorem sortsA (m : Nat) : AnyZI.SortsIn Try.prog sortedA_ren Fence.wide m :=
  ⟨fun blk off cap ss W hH hblk hsz => callsIn_wide.2 (AnyM.slices_Sort_int sortA blk off cap ss W hH hblk hsz),
   fun p cap W => callsIn_wide.2 (AnyM.slices_Sort_int_none sortA p cap W)⟩

set_option maxHeartbeats 1000000 in
theorem ids_any {g bm n : Nat} {D : DataW Unit} {w : World} (hG : Gd w g bm n D) (hn : n ≤ 1000000) :
    Calls Try.prog 13 #[.pointer (some ⟨g, 0, none⟩)] w fun e w' => ∃ (v : Value) (ss : List Int), e = .returned v ∧ ss.Perm (intKeys D) ∧
      w'.ownsRow w.heap.size 3 1 v ss.length ((ss.mergeSort (fun x y => decide (x ≤ y))).map encZ) ∧ (v = .slice none 0 0 ↔ ss = []) ∧ Below w.heap.size w w' := by
  refine (callsIn_wide (n := 6)).1 ?_
  have hown := hG.own
  have hcell := hG.cell
  have hbl := hown.lt
  have hsz := hown.size_le
  have hmax : Maps.size D ≤ maxLen := by unfold maxLen; omega
  have hbytes : Maps.size D * 8 ≤ 140737488355328 := by omega
  have hseq : SeqGives Fence.wide 2 Try.prog 27 #[.pointer (some ⟨w.heap.size, 0, none⟩)] encZ (fun ss => ss.Perm (intKeys D)) (Maps.size D) (w.alloc (.cells #[.map (some bm)] 45)) :=
    AnyZI.keys_gives (ρ := keysA_ren) { keysA with } Fence.wide _ trivial rfl (by omega) w.heap.size bm n D _ (by simp) (by simp) (by
      obtain ⟨es, clock, hb, Ft, hs, hD⟩ := hown
      exact ⟨es, clock, (Below.heap_alloc _ _ bm hbl).trans hb, Ft, hs, hD⟩)
  have cK : ∀ mb W, CallsIn Fence.wide 5 Try.prog 23 #[.map mb] W fun e w' => e = .returned (.func (.func 27) #[] #[.pointer (some ⟨W.heap.size, 0, none⟩)]) ∧ w' = W.alloc (.cells #[.map mb] 45) := fun mb W => AnyZI.keys_in keysA Fence.wide 5 trivial rfl mb W
  have cS := AnyZI.sorted_in sortedA Fence.wide 5 trivial trivial trivial trivial rfl (by omega) (sortsA _) (enters_of Try.func26 (by kernel_rfl) rfl) 27 #[.pointer (some ⟨w.heap.size, 0, none⟩)] trivial (enters_of Try.func27 (by kernel_rfl) rfl) _ _ hmax hbytes _ hseq
  change CallsIn _ _ Try.prog 22 _ _ _ at cS
  have hfK : Fence.wide.fn 23 := trivial
  have hfS : Fence.wide.fn 22 := trivial
  clear hseq hmax hbytes hsz hown
  refine callsIn_of_wp Try.func13 rfl trivial ?_ rfl
  simp only [Try.ntmps13, List.size_toArray, List.length_cons, List.length_nil, Nat.reduceAdd, Nat.reduceSub, Array.replicate_succ, Array.replicate_zero, List.push_toArray, List.append_toArray, List.nil_append, List.cons_append]
  gi_wp2_with (first
    | (gi_at_call 23; refine (cK _ _).mono ?_; rintro e w' ⟨rfl, rfl⟩)
    | (gi_at_call 22; refine cS.mono ?_; rintro e w' ⟨v, ss, rfl, hS, hrow, hnil, hb⟩))
  go_ret
  exact ⟨v, ss, rfl, hS, ownsRow_base_a hrow (by simp), hnil, ((Below.refl _ w).alloc (Nat.le_refl _) _).trans (hb.mono (by simp))⟩

theorem keys_list {P : Program} {k b n : Nat} {R : Value → Option (DataW Unit × List MemPlace)} {w : World} {D : DataW Unit} (hown : w.ownsMap P k R b n D) (K : Keyed P k) (hk : P.underlying k = some (.int .i64)) (ss : List Int) (hp : ss.Perm (intKeys D)) :
    (ss.mergeSort leI).length = ss.length ∧ (ss.mergeSort leI).length = Maps.size D ∧ (ss.mergeSort leI).Pairwise (· < ·) ∧ ∀ x, x ∈ ss.mergeSort leI ↔ has D (.int .i64 x) = true := by
  obtain ⟨es, hD, hpw, _⟩ := hown.entries K
  obtain ⟨es', hD', hko⟩ := hown.keysOf
  obtain rfl : es = es' := by rw [hD] at hD'; simpa using hD'
  subst hD
  have hint : ∀ p ∈ es, ∃ x, p.1 = .int .i64 x := fun p hp => by
    obtain ⟨v, hv⟩ := hko p hp
    obtain ⟨x, _, hx, _⟩ := Maps.keyOf_i64 hk hv
    exact ⟨x, hx⟩
  have hms := List.mergeSort_perm ss leI
  have hall := hms.trans hp
  have hnd : (intKeys (.map es)).Nodup := by
    show (es.map fun p => Go.intOf p.1).Nodup
    refine List.pairwise_map.2 (hpw.imp_of_mem fun {p q} h1 h2 hne e => hne ?_)
    obtain ⟨a, ha⟩ := hint p h1
    obtain ⟨c, hc⟩ := hint q h2
    rw [ha, hc] at e ⊢
    exact congrArg _ e
  have tr : ∀ a b c : Int, leI a b = true → leI b c = true → leI a c = true := fun a b c h1 h2 => by simp only [leI, decide_eq_true_eq] at *; omega
  have to : ∀ a b : Int, (leI a b || leI b a) = true := fun a b => by simp only [leI, Bool.or_eq_true, decide_eq_true_eq]; omega
  refine ⟨hms.length_eq, ?_, ?_, fun x => ?_⟩
  · rw [hall.length_eq]
    simp [intKeys, Maps.size]
  · have h1 := List.pairwise_mergeSort tr to ss
    have h2 : (ss.mergeSort leI).Nodup := hall.nodup_iff.2 hnd
    refine (h1.and h2).imp fun {a b} h => ?_
    have h3 := h.1
    simp only [leI, decide_eq_true_eq] at h3
    have := h.2
    omega
  · rw [hall.mem_iff, has_eq, List.any_eq_true]
    show x ∈ es.map (fun p => Go.intOf p.1) ↔ _
    rw [List.mem_map]
    constructor
    · rintro ⟨p, h1, rfl⟩
      obtain ⟨a, ha⟩ := hint p h1
      exact ⟨p, h1, by rw [ha]; simp [Lit.sameKey, Go.intOf]⟩
    · rintro ⟨p, h1, hs⟩
      obtain ⟨a, ha⟩ := hint p h1
      rw [ha] at hs
      exact ⟨p, h1, by rw [ha]; simpa [Lit.sameKey, Go.intOf] using hs⟩

theorem len_of {a b : List Int} (ha : a.Nodup) (hb : b.Nodup) (h : ∀ x, x ∈ a ↔ x ∈ b) : a.length = b.length := ((List.perm_ext_iff_of_nodup ha hb).2 h).length_eq

theorem idsV {g bm n : Nat} {m : Int → Option (Int × Int)} {w : World} (hG : Gv w g bm n m) (hn : n ≤ 1000000) (K : List Int) (hK : K.Nodup) (hm : ∀ x, x ∈ K ↔ (m x).isSome = true) :
    Calls Try.prog 13 #[.pointer (some ⟨g, 0, none⟩)] w fun e w' => ∃ (v : Value) (L : List Int), e = .returned v ∧ L.Pairwise (· < ·) ∧ (∀ x, x ∈ L ↔ (m x).isSome = true) ∧ L.length = K.length ∧
      w'.ownsRow w.heap.size 3 1 v L.length (L.map encZ) ∧ Below w.heap.size w w' := by
  obtain ⟨D, hD, hs⟩ := hG
  refine (ids_any hD hn).mono ?_
  rintro e w' ⟨v, ss, rfl, hp, hrow, hnil, hb⟩
  obtain ⟨h1, h2, h3, h4⟩ := keys_list hD.own law3 Try.underlying3 ss hp
  have h5 : ∀ x, x ∈ ss.mergeSort leI ↔ (m x).isSome = true := fun x => by rw [h4 x, (hs.2 x).1]
  refine ⟨v, ss.mergeSort leI, rfl, h3, h5, len_of (h3.imp fun h => by omega) hK (fun x => by rw [h5, hm]), ?_, hb⟩
  rw [h1]
  exact hrow

theorem lenV {g bm n : Nat} {m : Int → Option (Int × Int)} {w : World} (hG : Gv w g bm n m) (K : List Int) (hK : K.Nodup) (hm : ∀ x, x ∈ K ↔ (m x).isSome = true) (q : Nat) (hq : K.length = q) :
    Calls Try.prog 14 #[.pointer (some ⟨g, 0, none⟩)] w fun e w' => e = .returned (.int .i64 q) ∧ w = w' := by
  obtain ⟨D, hD, hs⟩ := hG
  have hsz : Maps.size D = q := by
    obtain ⟨es, hes, hpw, _⟩ := hD.own.entries law3
    obtain ⟨h1, h2, h3, h4⟩ := keys_list hD.own law3 Try.underlying3 (intKeys D) (List.Perm.refl _)
    rw [← h2, ← hq]
    exact len_of (h3.imp fun h => by omega) hK (fun x => by rw [h4 x, (hs.2 x).1, hm])
  have hl := hD.own.len Try.underlying45
  rw [hsz] at hl
  have hcell := hD.cell
  clear hsz hs hm hK hq
  go_enter Try.func14, Try.ntmps14
  go_wp2
  go_ret
  exact ⟨rfl, rfl⟩
end Go.Proofs.Ytlohcidapoicoaa
