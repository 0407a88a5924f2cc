/-
  The plain laws of a rising list of numbers: one is taken out, one is put in; the document's Release.
-/
import Derived.Test.YtlohcidapoicoaaKf
namespace Go.Proofs.Ytlohcidapoicoaa
open Go.RowKit

theorem rem_mem (id : Int) (ks : List Kn) (q : Kn) : q ∈ rem id ks ↔ q ∈ ks ∧ q.1 ≠ id := by simp [rem]
theorem km_rem {ks : List Kn} {m : Int → Option (Int × Int)} (h : Km ks m) (id : Int) : Km (rem id ks) (upd m id none) := by
  refine ⟨?_, fun x p => ?_⟩
  · exact List.Pairwise.sublist (List.Sublist.map _ List.filter_sublist) h.up
  · rw [rem_mem, h.mem]
    unfold upd
    by_cases e : x = id
    · simp [e]
    · simp [e]
theorem km_len {ks : List Kn} {m : Int → Option (Int × Int)} (h : Km ks m) (id : Int) : decide ((rem id ks).length < ks.length) = (m id).isSome := by
  cases hm : m id with
  | none =>
    have : rem id ks = ks := List.filter_eq_self.2 (fun p hp => by simpa using h.none hm p hp)
    rw [this]
    simp
  | some p =>
    have hp := (h.mem id p).2 hm
    have hlt : (rem id ks).length < ks.length := by
      rcases Nat.lt_or_ge (rem id ks).length ks.length with h1 | h1
      · exact h1
      · have h2 : ks.filter (fun p => decide (p.1 ≠ id)) = ks := List.Sublist.eq_of_length_le List.filter_sublist h1
        have h3 : (id, p) ∈ rem id ks := by unfold rem; rw [h2]; exact hp
        exact absurd rfl ((rem_mem id ks _).1 h3).2
    simpa using hlt
theorem km_size {ks : List Kn} {m : Int → Option (Int × Int)} (h : Km ks m) : (ks.map (·.1)).Nodup ∧ ∀ x, x ∈ ks.map (·.1) ↔ (m x).isSome = true := by
  refine ⟨h.up.imp fun h => by omega, fun x => ?_⟩
  rw [List.mem_map]
  constructor
  · rintro ⟨p, hp, rfl⟩
    rw [(h.mem p.1 p.2).1 hp]
    rfl
  · intro hx
    obtain ⟨p, hp⟩ := Option.isSome_iff_exists.1 hx
    exact ⟨(x, p), (h.mem x p).2 hp, rfl⟩

/-- Where the second loop of Release is. -/
def Ins (ks : List Kn) (x : Kn) (k : Nat) (acc : List Kn) (put : Bool) : Prop :=
  (put = false → acc = ks.take k ∧ ∀ q ∈ acc, q.1 < x.1) ∧
  (put = true → (acc.map (·.1)).Pairwise (· < ·) ∧ (∀ q, q ∈ acc ↔ q = x ∨ q ∈ ks.take k) ∧ (∀ q ∈ acc, ∀ j r, k ≤ j → ks[j]? = some r → q.1 < r.1) ∧ acc.length = k + 1)
theorem ins_start (ks : List Kn) (x : Kn) : Ins ks x 0 [] false := ⟨fun _ => ⟨rfl, fun q hq => by simp at hq⟩, fun h => by cases h⟩
section
variable {ks acc : List Kn} {x r : Kn} {k : Nat}
theorem up_at (hS : (ks.map (·.1)).Pairwise (· < ·)) {i j : Nat} {p q : Kn} (hi : ks[i]? = some p) (hj : ks[j]? = some q) (h : i < j) : p.1 < q.1 := by
  have hil : i < ks.length := (List.getElem?_eq_some_iff.1 hi).1
  have hjl : j < ks.length := (List.getElem?_eq_some_iff.1 hj).1
  have h1 := List.pairwise_iff_getElem.1 hS i j (by simpa using hil) (by simpa using hjl) h
  rw [List.getElem?_eq_getElem hil] at hi
  rw [List.getElem?_eq_getElem hjl] at hj
  simp only [List.getElem_map, Option.some.inj hi, Option.some.inj hj] at h1
  exact h1
theorem take_sorted (hS : (ks.map (·.1)).Pairwise (· < ·)) (k : Nat) : ((ks.take k).map (·.1)).Pairwise (· < ·) := List.Pairwise.sublist (List.Sublist.map _ (List.take_sublist k ks)) hS
theorem take_next (hk : ks[k]? = some r) : ks.take (k + 1) = ks.take k ++ [r] := by
  have hkl : k < ks.length := (List.getElem?_eq_some_iff.1 hk).1
  rw [List.take_succ_eq_append_getElem hkl]
  rw [List.getElem?_eq_getElem hkl] at hk
  rw [Option.some.inj hk]
theorem sorted_snoc {l : List Kn} {p : Kn} (h : (l.map (·.1)).Pairwise (· < ·)) (hp : ∀ q ∈ l, q.1 < p.1) : ((l ++ [p]).map (·.1)).Pairwise (· < ·) := by
  rw [List.map_append]
  refine List.pairwise_append.2 ⟨h, by simp, fun a ha b hb => ?_⟩
  obtain ⟨q, hq, rfl⟩ := List.mem_map.1 ha
  simp at hb
  rw [hb]
  exact hp q hq
theorem ins_put (hS : (ks.map (·.1)).Pairwise (· < ·)) (hk : ks[k]? = some r) (h : Ins ks x k acc false) (hlt : x.1 < r.1) : Ins ks x (k + 1) (acc ++ [x] ++ [r]) true := by
  obtain ⟨ha, hx⟩ := h.1 rfl
  refine ⟨(fun h => by cases h), fun _ => ⟨?_, fun q => ?_, fun q hq j p hj hp => ?_, ?_⟩⟩
  · refine sorted_snoc (sorted_snoc (by rw [ha]; exact take_sorted hS k) hx) (fun q hq => ?_)
    rcases List.mem_append.1 hq with h1 | h1
    · have := hx q h1; omega
    · simp at h1; rw [h1]; exact hlt
  · rw [take_next hk, ← ha]
    simp only [List.mem_append, List.mem_singleton]
    constructor
    · rintro ((h1 | h1) | h1)
      · exact .inr (.inl h1)
      · exact .inl h1
      · exact .inr (.inr h1)
    · rintro (h1 | h1 | h1)
      · exact .inl (.inr h1)
      · exact .inl (.inl h1)
      · exact .inr h1
  · have hrp := up_at hS hk hp (by omega)
    rcases List.mem_append.1 hq with h1 | h1
    · rcases List.mem_append.1 h1 with h2 | h2
      · have := hx q h2; omega
      · simp at h2; rw [h2]; omega
    · simp at h1; rw [h1]; exact hrp
  · have hkl : k < ks.length := (List.getElem?_eq_some_iff.1 hk).1
    rw [ha]
    simp
    omega
theorem ins_wait (hk : ks[k]? = some r) (h : Ins ks x k acc false) (hlt : r.1 < x.1) : Ins ks x (k + 1) (acc ++ [r]) false := by
  obtain ⟨ha, hx⟩ := h.1 rfl
  refine ⟨fun _ => ⟨by rw [take_next hk, ha], fun q hq => ?_⟩, fun h => by cases h⟩
  rcases List.mem_append.1 hq with h1 | h1
  · exact hx q h1
  · simp at h1; rw [h1]; exact hlt
theorem ins_go (hS : (ks.map (·.1)).Pairwise (· < ·)) (hk : ks[k]? = some r) (h : Ins ks x k acc true) : Ins ks x (k + 1) (acc ++ [r]) true := by
  obtain ⟨h1, h2, h3, h0⟩ := h.2 rfl
  refine ⟨(fun h => by cases h), fun _ => ⟨sorted_snoc h1 (fun q hq => h3 q hq k r (Nat.le_refl _) hk), fun q => ?_, fun q hq j p hj hp => ?_, by simp; exact h0⟩⟩
  · rw [take_next hk]
    simp only [List.mem_append, List.mem_singleton, h2]
    constructor
    · rintro ((h | h) | h)
      · exact .inl h
      · exact .inr (.inl h)
      · exact .inr (.inr h)
    · rintro (h | h | h)
      · exact .inl (.inl h)
      · exact .inl (.inr h)
      · exact .inr h
  · rcases List.mem_append.1 hq with h4 | h4
    · exact h3 q h4 j p (by omega) hp
    · simp at h4; rw [h4]; exact up_at hS hk hp (by omega)
theorem ins_len {put : Bool} (h : Ins ks x k acc put) (hk : k ≤ ks.length) : acc.length ≤ k + 1 := by
  cases put
  · rw [(h.1 rfl).1, List.length_take]; omega
  · exact Nat.le_of_eq (h.2 rfl).2.2.2
/-- The list, at the end. -/
def fin (x : Kn) (acc : List Kn) (put : Bool) : List Kn := if put then acc else acc ++ [x]
theorem km_put {m : Int → Option (Int × Int)} {put : Bool} (hM : Km ks m) (id : Int) (p : Int × Int) (hne : m id = none) (h : Ins ks (id, p) ks.length acc put) : Km (fin (id, p) acc put) (upd m id (some p)) := by
  have hboth : ((fin (id, p) acc put).map (·.1)).Pairwise (· < ·) ∧ ∀ q, q ∈ fin (id, p) acc put ↔ q = (id, p) ∨ q ∈ ks := by
    unfold fin
    cases put
    · obtain ⟨ha, hx⟩ := h.1 rfl
      rw [List.take_length] at ha
      subst ha
      refine ⟨by simpa using sorted_snoc hM.up hx, fun q => ?_⟩
      simp [or_comm]
    · obtain ⟨h1, h2, _⟩ := h.2 rfl
      rw [List.take_length] at h2
      exact ⟨by simpa using h1, fun q => by simpa using h2 q⟩
  refine ⟨hboth.1, fun x q => ?_⟩
  rw [hboth.2, hM.mem]
  unfold upd
  by_cases e : x = id
  · subst e
    simp [hne]
    exact eq_comm
  · simp [e]
end
end Go.Proofs.Ytlohcidapoicoaa
