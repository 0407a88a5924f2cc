/-
  The document's guard in memory: what is known by rising numbers; at, Next, Last, IDs.
-/
import Derived.Test.YtlohcidapoicoaaOp
import Derived.Deep.QuietTactic
import Derived.BigQuiet
import Derived.OwnWalk
import Derived.Lib.Hide
namespace Go.Proofs.Ytlohcidapoicoaa
open Go.RowKit

abbrev Kn := Int × Int × Int
/-- The cells of what is known of a number. -/
def kc (p : Kn) : List Value := [.int .i64 p.1, .int .i64 p.2.1, .int .i64 p.2.2]
theorem kc_len : ∀ ks : List Kn, (ks.flatMap kc).length = ks.length * 3
  | [] => rfl
  | p :: ks => by
    have := kc_len ks
    simp only [List.flatMap_cons, List.length_append, this, List.length_cons, kc, List.length_nil]
    omega
theorem kc_at : ∀ (ks : List Kn) (i : Nat) (p : Kn), ks[i]? = some p → (ks.flatMap kc)[i * 3]? = some (.int .i64 p.1) ∧ (ks.flatMap kc)[i * 3 + 1]? = some (.int .i64 p.2.1) ∧ (ks.flatMap kc)[i * 3 + 2]? = some (.int .i64 p.2.2)
  | [], i, p, h => by simp at h
  | q :: ks, 0, p, h => by
    simp at h
    subst h
    exact ⟨rfl, rfl, rfl⟩
  | q :: ks, i + 1, p, h => by
    have ih := kc_at ks i p (by simpa using h)
    simp only [List.flatMap_cons]
    have hl : (kc q).length = 3 := rfl
    refine ⟨?_, ?_, ?_⟩
    · rw [List.getElem?_append_right (by omega), show (i + 1) * 3 - (kc q).length = i * 3 by omega]
      exact ih.1
    · rw [List.getElem?_append_right (by omega), show (i + 1) * 3 + 1 - (kc q).length = i * 3 + 1 by omega]
      exact ih.2.1
    · rw [List.getElem?_append_right (by omega), show (i + 1) * 3 + 2 - (kc q).length = i * 3 + 2 by omega]
      exact ih.2.2

/-- A row of what is known. -/
def Kr (w : World) (B : Nat) (v : Value) (ks : List Kn) : Prop := w.ownsRow B 57 3 v ks.length (ks.flatMap kc)
theorem Kr.cells {w : World} {B : Nat} {v : Value} {ks : List Kn} (h : Kr w B v ks) {i : Nat} {p : Kn} (hi : ks[i]? = some p) :
    ∃ g cap, v = .slice (some ⟨g, 0, none⟩) ks.length cap ∧ w.cell? ⟨g, i * 3, none⟩ = some (.int .i64 p.1) ∧ w.cell? ⟨g, i * 3 + 1, none⟩ = some (.int .i64 p.2.1) ∧ w.cell? ⟨g, i * 3 + 2, none⟩ = some (.int .i64 p.2.2) := by
  have hil : i < ks.length := (List.getElem?_eq_some_iff.1 hi).1
  rcases h.2 with ⟨_, h0⟩ | ⟨g, cap, cur, hv, hB, hg, hcap, hmx, hcs, hx⟩
  · omega
  · have hk := kc_at ks i p hi
    have hz : ∀ j, j < ks.length * 3 → (ks.flatMap kc)[j]? = cur[j]? := fun j hj => by
      rw [← hx, List.getElem?_take_of_lt hj, Array.getElem?_toList]
    refine ⟨g, cap, hv, ?_, ?_, ?_⟩
    · rw [hz _ (by omega)] at hk; simp [World.cell?, hg, hk.1]
    · rw [hz (i * 3 + 1) (by omega)] at hk; simp [World.cell?, hg, hk.2.1]
    · rw [hz (i * 3 + 2) (by omega)] at hk; simp [World.cell?, hg, hk.2.2]
theorem Kr.len {w : World} {B : Nat} {v : Value} {ks : List Kn} (h : Kr w B v ks) : ∃ a c, v = .slice a ks.length c := by
  rcases h.2 with ⟨hv, h0⟩ | ⟨g, cap, cur, hv, _⟩
  · exact ⟨none, 0, by rw [hv, h0]⟩
  · exact ⟨_, cap, hv⟩
theorem Kr.base {w : World} {B C : Nat} {v : Value} {ks : List Kn} (h : Kr w B v ks) (hC : C ≤ B) : Kr w C v ks := by
  refine ⟨h.1, ?_⟩
  rcases h.2 with h0 | ⟨g, cap, cur, hv, hB, hr⟩
  · exact .inl h0
  · exact .inr ⟨g, cap, cur, hv, by omega, hr⟩
theorem Kr.keep {w w' : World} {B : Nat} {v : Value} {ks : List Kn} (h : Kr w B v ks) (e : ∀ k, k < w.heap.size → B ≤ k → w'.heap[k]? = w.heap[k]?) : Kr w' B v ks := by
  refine ⟨h.1, ?_⟩
  rcases h.2 with h0 | ⟨g, cap, cur, hv, hB, hg, hr⟩
  · exact .inl h0
  · exact .inr ⟨g, cap, cur, hv, hB, (e g (Array.getElem?_eq_some_iff.1 hg).1 hB).trans hg, hr⟩

/-- The document's guard in block R. -/
def Kg (w : World) (R : Nat) (ks : List Kn) : Prop := ∃ T v, w.heap[R]? = some (.cells #[v] T (0, 0)) ∧ Kr w (R + 1) v ks
section
variable {w w' : World} {R : Nat} {ks : List Kn}
theorem Kg.lt (h : Kg w R ks) : R < w.heap.size := by
  obtain ⟨_, _, hb, _⟩ := h
  exact (Array.getElem?_eq_some_iff.1 hb).1
theorem Kg.keep (h : Kg w R ks) (e : ∀ k, k < w.heap.size → R ≤ k → w'.heap[k]? = w.heap[k]?) : Kg w' R ks := by
  have hl := h.lt
  obtain ⟨T, v, hb, hr⟩ := h
  exact ⟨T, v, (e R hl (Nat.le_refl _)).trans hb, hr.keep fun k hk hR => e k hk (by omega)⟩
theorem Kg.below (h : Kg w R ks) (hb : Below w.heap.size w w') : Kg w' R ks := h.keep fun k hk _ => hb.block k hk
theorem Kg.kept (h : Kg w R ks) {b : Nat} (hg : w.grownBy w' (some b)) (hb : b < R) : Kg w' R ks := h.keep fun k hk hR => hg.block k hk (fun e => by have := Option.some.inj e; omega)
end
theorem drop_not {ks : List Kn} {id : Int} (i : Nat) (h : ∀ p ∈ ks, p.1 ≠ id) (hi : i < ks.length) : (ks[i]).1 ≠ id := h _ (List.getElem_mem hi)

section
variable {w : World} {R : Nat} {ks : List Kn}
theorem at_out (hK : Kg w R ks) (hn : ks.length ≤ 100000) (id : Int) (h : ∀ p ∈ ks, p.1 ≠ id) :
    Calls Try.prog 24 #[.pointer (some ⟨R, 0, none⟩), .int .i64 id] w fun e w' => e = .returned (.int .i64 (-1)) ∧ w = w' := by
  obtain ⟨T, v, hb, hr⟩ := hK
  obtain ⟨a, c, hv⟩ := hr.len
  have hc : w.cell? ⟨R, 0, none⟩ = some v := by simp [World.cell?, hb]
  rw [hv] at hc
  have HV := Lib.hid hv
  have H := Lib.hid h
  clear h hv hb
  go_enter Try.func24, Try.ntmps24
  go_wp2_with fail
  go_loop [5] (fun i => ∃ k : Nat, k ≤ ks.length ∧ i = .int .i64 k) (fun i => ks.length - (intOf i).toNat)
  case atStart => exact ⟨0, by omega, rfl⟩
  case round =>
    obtain ⟨k, hk, rfl⟩ := hrel
    by_cases hlt : k < ks.length
    · obtain ⟨g, cap, hv2, d0, _, _⟩ := hr.cells (List.getElem?_eq_getElem hlt)
      rw [HV.out] at hv2
      cases hv2
      have hne := H.out _ (List.getElem_mem hlt)
      generalize (ks[k]).1 = y at *
      go_wp2
      go_round
      case rel => exact ⟨k + 1, by omega, by go_num⟩
      case measure => simp [intOf]; omega
    · go_wp2
      go_ret
      exact ⟨rfl, rfl⟩
theorem at_in (hK : Kg w R ks) (hn : ks.length ≤ 100000) (id : Int) (i : Nat) (p : Kn) (hi : ks[i]? = some p) (hp : p.1 = id) (h : ∀ j q, j < i → ks[j]? = some q → q.1 ≠ id) :
    Calls Try.prog 24 #[.pointer (some ⟨R, 0, none⟩), .int .i64 id] w fun e w' => e = .returned (.int .i64 (i : Int)) ∧ w = w' := by
  obtain ⟨T, v, hb, hr⟩ := hK
  obtain ⟨a, c, hv⟩ := hr.len
  have hc : w.cell? ⟨R, 0, none⟩ = some v := by simp [World.cell?, hb]
  rw [hv] at hc
  have HV := Lib.hid hv
  have H := Lib.hid h
  have HP := Lib.hid hp
  have HI := Lib.hid hi
  have hil : i < ks.length := (List.getElem?_eq_some_iff.1 hi).1
  clear h hv hb hp hi
  go_enter Try.func24, Try.ntmps24
  go_wp2_with fail
  go_loop [5] (fun x => ∃ k : Nat, k ≤ i ∧ x = .int .i64 k) (fun x => ks.length - (intOf x).toNat)
  case atStart => exact ⟨0, by omega, rfl⟩
  case round =>
    obtain ⟨k, hk, rfl⟩ := hrel
    have hlt : k < ks.length := by omega
    by_cases hki : k = i
    · subst hki
      obtain ⟨g, cap, hv2, d0, _, _⟩ := hr.cells HI.out
      rw [HV.out] at hv2
      cases hv2
      rw [HP.out] at d0
      go_wp2
      go_ret
      exact ⟨rfl, rfl⟩
    · obtain ⟨g, cap, hv2, d0, _, _⟩ := hr.cells (List.getElem?_eq_getElem hlt)
      rw [HV.out] at hv2
      cases hv2
      have hne := H.out k _ (by omega) (List.getElem?_eq_getElem hlt)
      generalize (ks[k]).1 = y at *
      go_wp2
      go_round
      case rel => exact ⟨k + 1, by omega, by go_num⟩
      case measure => simp [intOf]; omega
end
/-- What is known of a number, by the list. -/
structure Km (ks : List Kn) (m : Int → Option (Int × Int)) : Prop where
  up : (ks.map (·.1)).Pairwise (· < ·)
  mem : ∀ x p, (x, p) ∈ ks ↔ m x = some p
theorem Km.none {ks : List Kn} {m : Int → Option (Int × Int)} (h : Km ks m) {id : Int} (hm : m id = none) : ∀ p ∈ ks, p.1 ≠ id := by
  intro p hp e
  subst e
  have := (h.mem p.1 p.2).1 hp
  rw [hm] at this
  cases this
theorem Km.some {ks : List Kn} {m : Int → Option (Int × Int)} (h : Km ks m) {id : Int} {p : Int × Int} (hm : m id = some p) : ∃ i : Nat, ks[i]? = some (id, p) ∧ ∀ (j : Nat) (q : Kn), j < i → ks[j]? = Option.some q → q.1 ≠ id := by
  obtain ⟨i, hi, e⟩ := List.getElem_of_mem ((h.mem id p).2 hm)
  refine ⟨i, by rw [List.getElem?_eq_getElem hi, e], fun j q hj hq => ?_⟩
  have hjl : j < ks.length := (List.getElem?_eq_some_iff.1 hq).1
  have h1 := List.pairwise_iff_getElem.1 h.up j i (by simpa using hjl) (by simpa using hi) hj
  rw [List.getElem?_eq_getElem hjl] at hq
  have e2 := Option.some.inj hq
  simp only [List.getElem_map, e2, e] at h1
  omega
section
variable {w : World} {R : Nat} {ks : List Kn} {m : Int → Option (Int × Int)}
theorem nextR (hK : Kg w R ks) (hM : Km ks m) (hn : ks.length ≤ 100000) (id : Int) (r : Int) (hr : nx m id = r) :
    Calls Try.prog 20 #[.pointer (some ⟨R, 0, none⟩), .int .i64 id] w fun e w' => e = .returned (.int .i64 r) ∧ w = w' := by
  cases hm : m id with
  | none =>
    have hr0 : r = 0 := by rw [← hr]; unfold nx; rw [hm]; rfl
    subst hr0
    have HA := Lib.hid (at_out hK hn id (hM.none hm))
    clear hr hm
    go_enter Try.func20, Try.ntmps20
    go_wp2_with (go_at_call 24; refine HA.out.mono ?_; rintro e w1 ⟨rfl, rfl⟩)
    go_ret
    exact ⟨rfl, rfl⟩
  | some p =>
    have hr0 : r = p.2 := by rw [← hr]; unfold nx; rw [hm]; rfl
    obtain ⟨i, hi, hj⟩ := hM.some hm
    have HA := Lib.hid (at_in hK hn id i _ hi rfl hj)
    have hil : i < ks.length := (List.getElem?_eq_some_iff.1 hi).1
    obtain ⟨T, v, hb, hrow⟩ := hK
    obtain ⟨g, cap, hv, d0, d1, d2⟩ := hrow.cells hi
    have hc : w.cell? ⟨R, 0, none⟩ = some v := by simp [World.cell?, hb]
    rw [hv] at hc
    simp only at d2
    rw [← hr0] at d2
    clear hr hm hi hj hb hv hr0
    go_enter Try.func20, Try.ntmps20
    go_wp2_with (go_at_call 24; refine HA.out.mono ?_; rintro e w1 ⟨rfl, rfl⟩)
    go_ret
    exact ⟨rfl, rfl⟩
theorem lastR (hK : Kg w R ks) (hM : Km ks m) (hn : ks.length ≤ 100000) (id : Int) (r : Int) (hr : ls m id = r) (b : Bool) (hbo : (m id).isSome = b) :
    Calls Try.prog 17 #[.pointer (some ⟨R, 0, none⟩), .int .i64 id] w fun e w' => e = .returned (.tuple #[.int .i64 r, .bool b]) ∧ w = w' := by
  cases hm : m id with
  | none =>
    have hr0 : r = 0 := by rw [← hr]; unfold ls; rw [hm]; rfl
    have hb0 : b = false := by rw [← hbo, hm]; rfl
    subst hr0 hb0
    have HA := Lib.hid (at_out hK hn id (hM.none hm))
    clear hr hm hbo
    go_enter Try.func17, Try.ntmps17
    go_wp2_with (go_at_call 24; refine HA.out.mono ?_; rintro e w1 ⟨rfl, rfl⟩)
    go_ret2
    exact ⟨rfl, rfl⟩
  | some p =>
    have hr0 : r = p.1 := by rw [← hr]; unfold ls; rw [hm]; rfl
    have hb0 : b = true := by rw [← hbo, hm]; rfl
    subst hb0
    obtain ⟨i, hi, hj⟩ := hM.some hm
    have HA := Lib.hid (at_in hK hn id i _ hi rfl hj)
    have hil : i < ks.length := (List.getElem?_eq_some_iff.1 hi).1
    obtain ⟨T, v, hb, hrow⟩ := hK
    obtain ⟨g, cap, hv, d0, d1, d2⟩ := hrow.cells hi
    have hc : w.cell? ⟨R, 0, none⟩ = some v := by simp [World.cell?, hb]
    rw [hv] at hc
    simp only at d1
    rw [← hr0] at d1
    clear hr hm hi hj hb hv hr0 hbo
    go_enter Try.func17, Try.ntmps17
    go_wp2_with (go_at_call 24; refine HA.out.mono ?_; rintro e w1 ⟨rfl, rfl⟩)
    go_ret2
    exact ⟨rfl, rfl⟩
end
end Go.Proofs.Ytlohcidapoicoaa
