/-
  Those by which something waits, by rising numbers: Waiting.
-/
import Derived.Test.YtfjfnfipcajkkaaLay
import Derived.Test.YtfjfnfipcajkkaaMask
namespace Go.Proofs.Ytfjfnfipcajkkaa
open Go.RowKit Go.Maps Go.Sort Go.Shelf

theorem sortsA (m : Nat) : AnyZI.SortsIn Try.prog sortedA_ren Fence.wide m :=
  ⟨fun blk off cap ss W hH hblk hsz => callsIn_wide.2 (AnyM.slices_Sort_int sortA blk off cap ss W hH hblk hsz),
   fun p cap W => callsIn_wide.2 (AnyM.slices_Sort_int_none sortA p cap W)⟩

set_option maxHeartbeats 1000000 in
theorem wait_any {g bm bt n : Nat} {D E : DataW Unit} {w : World} (hG : Sv w g bm bt n D E) (hn : n ≤ 1000000) :
    Calls Try.prog 13 #[.pointer (some ⟨g, 0, none⟩)] w fun e w' => ∃ (v : Value) (ss : List Int), e = .returned v ∧ ss.Perm (intKeys D) ∧
      w'.ownsRow w.heap.size 3 1 v ss.length ((ss.mergeSort (fun x y => decide (x ≤ y))).map encZ) ∧ (v = .slice none 0 0 ↔ ss = []) ∧ Below w.heap.size w w' := by
  refine (callsIn_wide (n := 6)).1 ?_
  have hown := hG.ow
  have hcell := hG.c0
  have hbl := hown.lt
  have hsz := hown.size_le
  have hmax : Maps.size D ≤ maxLen := by unfold maxLen; omega
  have hbytes : Maps.size D * 8 ≤ 140737488355328 := by omega
  have hseq : SeqGives Fence.wide 2 Try.prog 26 #[.pointer (some ⟨w.heap.size, 0, none⟩)] encZ (fun ss => ss.Perm (intKeys D)) (Maps.size D) (w.alloc (.cells #[.map (some bm)] 42)) :=
    AnyZI.keys_gives (ρ := keysA_ren) { keysA with } Fence.wide _ trivial rfl (by omega) w.heap.size bm n D _ (by simp) (by simp) (by
      obtain ⟨es, clock, hb, Ft, hs, hD⟩ := hown
      exact ⟨es, clock, (Below.heap_alloc _ _ bm hbl).trans hb, Ft, hs, hD⟩)
  have cK : ∀ mb W, CallsIn Fence.wide 5 Try.prog 22 #[.map mb] W fun e w' => e = .returned (.func (.func 26) #[] #[.pointer (some ⟨W.heap.size, 0, none⟩)]) ∧ w' = W.alloc (.cells #[.map mb] 42) := fun mb W => AnyZI.keys_in keysA Fence.wide 5 trivial rfl mb W
  have cS := AnyZI.sorted_in sortedA Fence.wide 5 trivial trivial trivial trivial rfl (by omega) (sortsA _) (enters_of Try.func25 (by kernel_rfl) rfl) 26 #[.pointer (some ⟨w.heap.size, 0, none⟩)] trivial (enters_of Try.func26 (by kernel_rfl) rfl) _ _ hmax hbytes _ hseq
  change CallsIn _ _ Try.prog 21 _ _ _ at cS
  have hfK : Fence.wide.fn 22 := trivial
  have hfS : Fence.wide.fn 21 := trivial
  clear hseq hmax hbytes hsz hown
  refine callsIn_of_wp Try.func13 rfl trivial ?_ rfl
  simp only [Try.ntmps13, List.size_toArray, List.length_cons, List.length_nil, Nat.reduceAdd, Nat.reduceSub, Array.replicate_succ, Array.replicate_zero, List.push_toArray, List.append_toArray, List.nil_append, List.cons_append]
  gi_wp2_with (first
    | (gi_at_call 22; refine (cK _ _).mono ?_; rintro e w' ⟨rfl, rfl⟩)
    | (gi_at_call 21; refine cS.mono ?_; rintro e w' ⟨v, ss, rfl, hS, hrow, hnil, hb⟩))
  go_ret
  exact ⟨v, ss, rfl, hS, ownsRow_base_a hrow (by simp), hnil, ((Below.refl _ w).alloc (Nat.le_refl _) _).trans (hb.mono (by simp))⟩

theorem keys_list {P : Program} {k b n : Nat} {R : Value → Option (DataW Unit × List MemPlace)} {w : World} {D : DataW Unit} (hown : w.ownsMap P k R b n D) (K : Keyed P k) (hk : P.underlying k = some (.int .i64)) (ss : List Int) (hp : ss.Perm (intKeys D)) :
    (ss.mergeSort leI).length = ss.length ∧ (ss.mergeSort leI).length = Maps.size D ∧ (ss.mergeSort leI).Pairwise (· < ·) ∧ ∀ x, x ∈ ss.mergeSort leI ↔ has D (.int .i64 x) = true := by
  obtain ⟨es, hD, hpw, _⟩ := hown.entries K
  obtain ⟨es', hD', hko⟩ := hown.keysOf
  obtain rfl : es = es' := by rw [hD] at hD'; simpa using hD'
  subst hD
  have hint : ∀ p ∈ es, ∃ x, p.1 = .int .i64 x := fun p hp => by
    obtain ⟨v, hv⟩ := hko p hp
    obtain ⟨x, _, hx, _⟩ := Maps.keyOf_i64 hk hv
    exact ⟨x, hx⟩
  have hms := List.mergeSort_perm ss leI
  have hall := hms.trans hp
  have hnd : (intKeys (.map es)).Nodup := by
    show (es.map fun p => Go.intOf p.1).Nodup
    refine List.pairwise_map.2 (hpw.imp_of_mem fun {p q} h1 h2 hne e => hne ?_)
    obtain ⟨a, ha⟩ := hint p h1
    obtain ⟨c, hc⟩ := hint q h2
    rw [ha, hc] at e ⊢
    exact congrArg _ e
  have tr : ∀ a b c : Int, leI a b = true → leI b c = true → leI a c = true := fun a b c h1 h2 => by simp only [leI, decide_eq_true_eq] at *; omega
  have to : ∀ a b : Int, (leI a b || leI b a) = true := fun a b => by simp only [leI, Bool.or_eq_true, decide_eq_true_eq]; omega
  refine ⟨hms.length_eq, ?_, ?_, fun x => ?_⟩
  · rw [hall.length_eq]
    simp [intKeys, Maps.size]
  · have h1 := List.pairwise_mergeSort tr to ss
    have h2 : (ss.mergeSort leI).Nodup := hall.nodup_iff.2 hnd
    refine (h1.and h2).imp fun {a b} h => ?_
    have h3 := h.1
    simp only [leI, decide_eq_true_eq] at h3
    have := h.2
    omega
  · rw [hall.mem_iff, has_eq, List.any_eq_true]
    show x ∈ es.map (fun p => Go.intOf p.1) ↔ _
    rw [List.mem_map]
    constructor
    · rintro ⟨p, h1, rfl⟩
      obtain ⟨a, ha⟩ := hint p h1
      exact ⟨p, h1, by rw [ha]; simp [Lit.sameKey, Go.intOf]⟩
    · rintro ⟨p, h1, hs⟩
      obtain ⟨a, ha⟩ := hint p h1
      rw [ha] at hs
      exact ⟨p, h1, by rw [ha]; simpa [Lit.sameKey, Go.intOf] using hs⟩

theorem len_of {a b : List Int} (ha : a.Nodup) (hb : b.Nodup) (h : ∀ x, x ∈ a ↔ x ∈ b) : a.length = b.length := ((List.perm_ext_iff_of_nodup ha hb).2 h).length_eq

theorem waitV {p bw bt n : Nat} {f t : Int → Int} {w : World} (hP : Pv w p bw bt n f t) (hn : n ≤ 1000000) :
    Calls Try.prog 13 #[.pointer (some ⟨p, 0, none⟩)] w fun e w' => ∃ (v : Value) (L : List Int), e = .returned v ∧ L.Pairwise (· < ·) ∧ (∀ x, x ∈ L ↔ f x ≠ 0) ∧
      w'.ownsRow w.heap.size 3 1 v L.length (L.map encZ) ∧ Below w.heap.size w w' := by
  obtain ⟨D, E, hD, hs, hfu, ht⟩ := hP
  refine (wait_any hD hn).mono ?_
  rintro e w' ⟨v, ss, rfl, hp, hrow, hnil, hb⟩
  obtain ⟨h1, h2, h3, h4⟩ := keys_list hD.ow law3 Try.underlying3 ss hp
  refine ⟨v, ss.mergeSort leI, rfl, h3, fun x => by rw [h4 x, hfu x, bne_iff_ne], ?_, hb⟩
  rw [h1]
  exact hrow

/-- A row of numbers in memory. -/
def Ar (w : World) (b : Nat) (l : List Int) : Prop := ∃ T, w.heap[b]? = some (.cells (l.map (Value.int .i64)).toArray T (0, 0))
theorem Ar.keep {w w' : World} {b : Nat} {l : List Int} (h : Ar w b l) (e : w'.heap[b]? = w.heap[b]?) : Ar w' b l := by
  obtain ⟨T, hb⟩ := h
  exact ⟨T, e.trans hb⟩
theorem Ar.lt {w : World} {b : Nat} {l : List Int} (h : Ar w b l) : b < w.heap.size := by
  obtain ⟨_, hb⟩ := h
  exact (Array.getElem?_eq_some_iff.1 hb).1
theorem Ar.cell {w : World} {b : Nat} {l : List Int} (h : Ar w b l) {k : Nat} {x : Int} (hk : l[k]? = some x) : w.cell? ⟨b, k, none⟩ = some (.int .i64 x) := by
  obtain ⟨T, hb⟩ := h
  simp [World.cell?, hb, hk]
theorem Ar.free {w : World} {b : Nat} {l : List Int} (h : Ar w b l) (k : Nat) : w.frozen? ⟨b, k, none⟩ = false := by
  obtain ⟨T, hb⟩ := h
  simp [World.frozen?, hb]
theorem Ar.set {w : World} {b : Nat} {l : List Int} (h : Ar w b l) (k : Nat) (d : Int) : Ar (w.setCell ⟨b, k, none⟩ (.int .i64 d)) b (l.set k d) := by
  obtain ⟨T, hb⟩ := h
  refine ⟨T, ?_⟩
  rw [heap_setCell_same w b k _ T _ hb]
  simp [List.map_set]
theorem Ar.below {w w' : World} {b : Nat} {l : List Int} (h : Ar w b l) (hb : Below w.heap.size w w') : Ar w' b l := h.keep (hb.block b h.lt)
theorem Ar.turn {w w' : World} {b : Nat} {l : List Int} {S : Nat → Prop} (h : Ar w b l) (ht : Turn S w w') (hS : ¬ S b) : Ar w' b l := h.keep (ht.block b h.lt hS)

/-- The first n of the rising numbers L are those below j. -/
def Upto (L : List Int) (j : Int) (n : Nat) : Prop := n ≤ L.length ∧ ∀ i v, L[i]? = some v → (i < n ↔ v < j)
theorem upto_start {L : List Int} (h : ∀ x ∈ L, 0 ≤ x) : Upto L 0 0 := ⟨Nat.zero_le _, fun i v hi => by have := h v (List.mem_of_getElem? hi); omega⟩
theorem upto_miss {L : List Int} {j : Int} {n : Nat} (h : Upto L j n) (hj : j ∉ L) : Upto L (j + 1) n :=
  ⟨h.1, fun i v hi => by
    have h1 := h.2 i v hi
    have h2 : v ≠ j := fun e => hj (e ▸ List.mem_of_getElem? hi)
    omega⟩
theorem upto_at {L : List Int} {j : Int} {n : Nat} (h : Upto L j n) (hL : L.Pairwise (· < ·)) (hj : j ∈ L) : L[n]? = some j := by
  obtain ⟨i, hi, e⟩ := List.getElem_of_mem hj
  have h1 := h.2 i j (by rw [List.getElem?_eq_getElem hi, e])
  have h2 : ¬ n < i := fun hni => by
    have h3 := List.pairwise_iff_getElem.1 hL n i (by omega) hi hni
    have h4 := h.2 n _ (List.getElem?_eq_getElem (by omega))
    omega
  have h5 : i = n := by omega
  subst h5
  rw [List.getElem?_eq_getElem hi, e]
theorem upto_hit {L : List Int} {j : Int} {n : Nat} (h : Upto L j n) (hL : L.Pairwise (· < ·)) (hj : j ∈ L) : Upto L (j + 1) (n + 1) := by
  have hn := upto_at h hL hj
  have hnl : n < L.length := (List.getElem?_eq_some_iff.1 hn).1
  refine ⟨by omega, fun i v hi => ?_⟩
  have h1 := h.2 i v hi
  rcases Nat.lt_trichotomy i n with h2 | h2 | h2
  · omega
  · subst h2
    rw [hn] at hi
    have := Option.some.inj hi
    omega
  · have hil : i < L.length := (List.getElem?_eq_some_iff.1 hi).1
    have h3 := List.pairwise_iff_getElem.1 hL n i hnl hil h2
    rw [List.getElem?_eq_getElem hil] at hi
    rw [List.getElem?_eq_getElem hnl] at hn
    have e1 := Option.some.inj hi
    have e2 := Option.some.inj hn
    omega
theorem upto_end {L : List Int} {j : Int} {n : Nat} (h : Upto L j n) (hL : ∀ x ∈ L, x < j) : n = L.length := by
  have h1 := h.1
  by_cases hn : n < L.length
  · have h2 := h.2 n _ (List.getElem?_eq_getElem hn)
    have h3 := hL _ (List.getElem_mem hn)
    omega
  · omega
end Go.Proofs.Ytfjfnfipcajkkaa
