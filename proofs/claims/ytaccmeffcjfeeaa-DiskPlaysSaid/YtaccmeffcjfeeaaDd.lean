/-
  The code's disk and the document's side by side: what one does leaves the other as it was.
-/
import Derived.Test.YtaccmeffcjfeeaaRn
import Derived.Test.YtaccmeffcjfeeaaRc
import Derived.Test.YtaccmeffcjfeeaaOd
namespace Go.Proofs.Ytaccmeffcjfeeaa
open Go.RowKit

section
variable {w w' : World} {b s n : Nat} {S S' : List (List UInt8)} {O O' : List (Nat × List UInt8)} {m : Nat} {oa : Option Addr} {cap : Nat} {f f' r r' : Int} {R : Nat} {vS vO : Value}
/-- The open writes' block bears the type 64. -/
theorem Dk.own64 (h : Dk w b s n S O m oa cap f r) {g : Nat} (hg : ob oa = some g) : ∃ cur, w.heap[g]? = some (.cells cur 64 (0, 0)) := by
  rcases h.own.2 with ⟨hv, _⟩ | ⟨g', cap', cur, hv, _, hb, _⟩
  · cases hv
    simp [ob, Value.ownBlock] at hg
  · cases hv
    simp [ob, Value.ownBlock] at hg
    subst hg
    exact ⟨cur, hb⟩
theorem own_type {B e sz k : Nat} {v : Value} {xs : List Value} (h : w.ownsRow B e sz v k xs) {g : Nat} (hg : v.ownBlock = some g) : ∃ cur, w.heap[g]? = some (.cells cur e (0, 0)) := by
  rcases h.2 with ⟨hv, _⟩ | ⟨g', cap', cur, hv, _, hb, _⟩
  · rw [hv] at hg
    simp [Value.ownBlock] at hg
  · rw [hv] at hg
    simp [Value.ownBlock] at hg
    subst hg
    exact ⟨cur, hb⟩
theorem types_ne {g g' e e' : Nat} {c c' : Array Value} (h : w.heap[g]? = some (.cells c e (0, 0))) (h' : w.heap[g']? = some (.cells c' e' (0, 0))) (he : e ≠ e') : g ≠ g' := by
  rintro rfl
  rw [h] at h'
  simp at h'
  exact he h'.2
theorem Rk.moved (h : Rk w R S' O' vS vO f' r') (hD : Dk w b s n S O m oa cap f r) (hM : Moved w w' b s oa) (hb : b < R) (hs : s < R) : Rk w' R S' O' vS vO f' r' := by
  have key : ∀ g, g < w.heap.size → R ≤ g → (∃ cur e, w.heap[g]? = some (.cells cur e (0, 0)) ∧ e ≠ 64) → w'.heap[g]? = w.heap[g]? := fun g hg hR ⟨cur, e, hc, he⟩ =>
    hM.block g hg (by omega) (by omega) (fun ho => by
      obtain ⟨c2, h2⟩ := hD.own64 ho
      exact types_ne h2 hc (fun x => he x.symm) rfl)
  refine ⟨(key R h.lt (Nat.le_refl _) ⟨_, 53, h.box, by decide⟩).trans h.box, row_keep h.rs fun g hg hl => ?_, row_keep h.ro fun g hg hl => ?_⟩
  · obtain ⟨cur, hc⟩ := own_type h.rs hg
    exact key g hl (by have := (World.ownsRow.lt h.rs g hg).1; omega) ⟨cur, 9, hc, by decide⟩
  · obtain ⟨cur, hc⟩ := own_type h.ro hg
    exact key g hl (by have := (World.ownsRow.lt h.ro g hg).1; omega) ⟨cur, 67, hc, by decide⟩
theorem Dk.mv (hD : Dk w b s n S O m oa cap f r) (h : Rk w R S' O' vS vO f' r') (hM : Mv w w' R vS vO) (hb : b < R) (hs : s < R) : Dk w' b s n S O m oa cap f r := by
  have hS : ∀ g, vS.ownBlock = some g → R + 1 ≤ g := fun g hg => (World.ownsRow.lt h.rs g hg).1
  have hO : ∀ g, vO.ownBlock = some g → R + 1 ≤ g := fun g hg => (World.ownsRow.lt h.ro g hg).1
  refine hD.keep fun k hk hc => ?_
  rcases hc with rfl | rfl | hc
  · exact hM.block k hk (by omega) (fun e => by have := hS k e; omega) (fun e => by have := hO k e; omega)
  · exact hM.block k hk (by omega) (fun e => by have := hS k e; omega) (fun e => by have := hO k e; omega)
  · obtain ⟨c, hc2⟩ := hD.own64 ((own_slice oa 0 0 m cap).trans hc)
    refine hM.block k hk (types_ne hc2 h.box (by decide)) (fun e => ?_) (fun e => ?_)
    · obtain ⟨c3, h3⟩ := own_type h.rs e
      exact types_ne hc2 h3 (by decide) rfl
    · obtain ⟨c3, h3⟩ := own_type h.ro e
      exact types_ne hc2 h3 (by decide) rfl
theorem below_mv {B : Nat} {a : World} (hba : Below B a w) (h : Rk w R S' O' vS vO f' r') (hM : Mv w w' R vS vO) (hR : B ≤ R) (hB : B ≤ w.heap.size) : Below B a w' := by
  refine ⟨hM.os.trans hba.os, hM.tape.trans hba.tape, hM.output.trans hba.output, Nat.le_trans hba.size hM.size, fun k hk => ?_⟩
  exact (hM.block k (by omega) (by omega) (fun e => by have := (World.ownsRow.lt h.rs k e).1; omega) (fun e => by have := (World.ownsRow.lt h.ro k e).1; omega)).trans (hba.block k hk)
end
end Go.Proofs.Ytaccmeffcjfeeaa
