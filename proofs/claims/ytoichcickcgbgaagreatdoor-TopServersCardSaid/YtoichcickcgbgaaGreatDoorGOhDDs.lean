/-
  A drawn region inside the wide fence, where a load may be taken first: a condition S on the world, shown anew behind each operation that is carried out.
  The disk's own state in memory, and a contract for each of its small methods.
  ! ### fill
  ! ### The disk
  ! ### The small methods
-/
import Derived.Test.YtoichcickcgbgaaGreatDoorGFrTy
import Derived.OrdersHeld
import Derived.OrdersIn
import Derived.Test.YtoichcickcgbgaaGreatDoorRows
import Derived.WalkKit
import Derived.WalkSpells
import Derived.WalkLawsBesides
import Derived.Lib.Hide
import Derived.Lib.ConvBytes
import Derived.Deep.AppendLies
import Derived.Deep.MidRow
namespace Go.Proofs.YtoichcickcgbgaaGreatDoor
open Go.RowKit
section
variable {F : Fence} {n : Nat} {P : Program} {ops : Array Oper} {Q : Exit → Act → World → Prop} {md : Region.Mode} {S : World → Prop}
/-- No operation defers a call. -/
def noDefer (ops : Array Oper) : Bool := ops.all fun o => match o.op with | .defer _ => false | _ => true
theorem noDefer_spec {ops : Array Oper} (h : noDefer ops = true) {j : Nat} {o : Oper} (ho : ops[j]? = some o) (c : Call) : o.op ≠ .defer c := by
  intro e
  obtain ⟨hj, rfl⟩ := Array.getElem?_eq_some_iff.1 ho
  have := Array.all_eq_true.1 h j hj
  simp [e] at this
/-- Whatever order is picked from here on, S holds behind each operation. -/
def anyW (F : Fence) (n : Nat) (P : Program) (md : Region.Mode) (ops : Array Oper) (Q : Exit → Act → World → Prop) (S : World → Prop) : Nat → Array Bool → Act → World → Prop
  | 0, done, a, w => Region.ready md ops done = [] ∧ Q .normal a w
  | k + 1, done, a, w => (Region.ready md ops done = [] → Q .normal a w) ∧
    ∀ i ∈ Region.ready md ops done, wpOpIn F n P ops Q i (fun a' w' => S w' ∧ anyW F n P md ops Q S k (done.setIfInBounds i true) a' w') a w
theorem anyW.plain : ∀ (k : Nat) (done : Array Bool) (a : Act) (w : World), anyW F n P md ops Q S k done a w → wpAnyIn F n P md ops Q k done a w
  | 0, _, _, _, h => h
  | k + 1, _, _, _, h => ⟨h.1, fun i hi => wpOpIn_mono (fun a' w' g => anyW.plain k _ a' w' g.2) (h.2 i hi)⟩
theorem yields_op (hfn : ∀ f, F.fn f) (hnd : noDefer ops = true) {i : Nat} {o : Oper} {v : Value} {a : Act} (hi : ops[i]? = some o) (hy : YieldsIf P ops S o v a) {K : Act → World → Prop} {w : World} (hS : S w) (h : K (a.put o.dst v) w) : wpOpIn F n P ops Q i K a w := by
  unfold wpOpIn
  simp only [hi]
  rcases hy with ⟨h1, h2⟩ | ⟨h1, rfl⟩
  · simp only [h1, if_true, Oper.wpIn, Oper.semAt_eq F.round a.eval o (noDefer_spec hnd hi), h2 w hS, Oper.uponIn]
    exact ⟨fun f _ => hfn f, h⟩
  · simp only [h1, Bool.false_eq_true, if_false]
    exact ⟨fun f _ => hfn f, h⟩
/-- An operation apart from oi does not mind whether oi's value is there already. -/
theorem put_op (hfn : ∀ f, F.fn f) (hnd : noDefer ops = true) {j : Nat} {oi oj : Oper} {v : Value} (hj : ops[j]? = some oj) (hap : oi.apart ops oj = true) (hsi : ∀ cs b, oi.op ≠ .select cs b) (hsj : ∀ cs b, oj.op ≠ .select cs b)
    (hQ : ∀ c a w, Q (.panic c) (a.put oi.dst v) w → Q (.panic c) a w) {K : Act → World → Prop} {a : Act} {w : World} (hy : YieldsIf P ops S oi v a) (h : wpOpIn F n P ops Q j K (a.put oi.dst v) w) :
    wpOpIn F n P ops Q j (fun a' w' => YieldsIf P ops S oi v a' ∧ K (a'.put oi.dst v) w') a w := by
  obtain ⟨h1, h2, h3⟩ := Oper.apart_spec hap
  have hndj := noDefer_spec hnd hj
  have stay : ∀ (b : Act), YieldsIf P ops S oi v b → ∀ u, YieldsIf P ops S oi v (b.put oj.dst u) := fun b hb u => hb.of_same (execOp_put oi hsi b oj.dst u h3) (wanted_put oi b oj.dst u h3)
  have back : ∀ (b : Act) (u : Value) (w' : World), YieldsIf P ops S oi v b → K ((b.put oi.dst v).put oj.dst u) w' → YieldsIf P ops S oi v (b.put oj.dst u) ∧ K ((b.put oj.dst u).put oi.dst v) w' := fun b u w' hb hk =>
    ⟨stay b hb u, by rw [← Act.put_comm b v u h2]; exact hk⟩
  unfold wpOpIn at *
  simp only [hj] at *
  rw [wanted_put oj a oi.dst v h1] at h
  split
  · rename_i hw
    simp only [hw, if_true] at h
    unfold Oper.wpIn at *
    refine ⟨fun f _ => hfn f, ?_⟩
    have g := h.2
    rw [Oper.semAt_eq F.round _ oj hndj, execOp_put oj hsj a oi.dst v h1] at g
    rw [Oper.semAt_eq F.round _ oj hndj]
    generalize (execOp a.eval oj).run P w = r at *
    cases r with
    | ok x w' =>
      cases x <;> simp only [Oper.uponIn] at g ⊢
      case value u => exact back a u w' hy g
      case skip => exact back a undef w' hy g
      case defer d =>
        have hd : YieldsIf P ops S oi v { a with defers := d :: a.defers } := hy.of_same rfl rfl
        refine back _ undef w' hd ?_
        rw [← Act.put_defers]
        exact g
      case enter f args =>
        refine ⟨g.1, CallsIn.mono g.2 fun e w'' he => ?_⟩
        cases e with
        | returned u => exact back a u w'' hy he
        | panicked c => exact hQ _ _ _ he
        | outgrown => exact he
      case row row args => exact ⟨g.1, RowsIn.mono g.2 fun u w'' he => back a u w'' hy he⟩
      case round l f tmps assign body =>
        refine ⟨g.1, RoundIn.mono g.2 fun e w'' he => ?_⟩
        cases e with
        | returned u => exact back a u w'' hy he
        | panicked c => exact hQ _ _ _ he
        | outgrown => exact he
    | halt x w' =>
      cases x <;> simp only [Oper.uponIn] at g ⊢
      case panic u => exact hQ _ _ _ g
  · rename_i hw
    simp only [hw] at h
    exact ⟨fun f _ => hfn f, back a undef w hy h.2⟩
theorem firstW (hfn : ∀ f, F.fn f) (hnd : noDefer ops = true) {i : Nat} {oi : Oper} {v : Value} (hi : ops[i]? = some oi) (hsel : ∀ (j : Nat) (o : Oper) cs b, ops[j]? = some o → o.op ≠ .select cs b) (hQ : ∀ c a w, Q (.panic c) (a.put oi.dst v) w → Q (.panic c) a w) :
    ∀ (k : Nat) (done : Array Bool) (a : Act) (w : World),
      (∀ j oj, ops[j]? = some oj → j ≠ i → done.getD j true = false → (∀ e ∈ oj.after, Region.binds md e = true → e.on ≠ i) → oi.apart ops oj = true) →
      i ∈ Region.ready md ops done → YieldsIf P ops S oi v a → S w → anyW F n P md ops Q S k (done.setIfInBounds i true) (a.put oi.dst v) w → anyW F n P md ops Q S (k + 1) done a w := by
  intro k
  induction k with
  | zero =>
    intro done a w _ hr hy hS H
    refine ⟨fun h => (by rw [h] at hr; cases hr), fun j hj => ?_⟩
    by_cases hji : j = i
    · subst hji
      exact yields_op hfn hnd hi hy hS ⟨hS, H⟩
    · have := ready_mono hj hji
      rw [H.1] at this
      cases this
  | succ k ih =>
    intro done a w hfree hr hy hS H
    refine ⟨fun h => (by rw [h] at hr; cases hr), fun j hj => ?_⟩
    by_cases hji : j = i
    · subst hji
      exact yields_op hfn hnd hi hy hS ⟨hS, H⟩
    · obtain ⟨hun, oj, hoj, hall⟩ := mem_ready.1 hj
      have hnot : ∀ e ∈ oj.after, Region.binds md e = true → e.on ≠ i := fun e he hb heq => by
        have h1 := hall e he hb
        have h0 := (mem_ready.1 hr).1
        rw [heq] at h1
        rcases Nat.lt_or_ge i done.size with h' | h'
        · simp [h'] at h0 h1
          rw [h0] at h1
          cases h1
        · simp [Array.getElem?_eq_none h'] at h1
      have h2 := put_op hfn hnd hoj (hfree j oj hoj hji hun hnot) (fun cs b => hsel i oi cs b hi) (fun cs b => hsel j oj cs b hoj) hQ hy (H.2 j (ready_mono hj hji))
      refine wpOpIn_mono (fun a' w' h3 => ⟨h3.2.1, ih (done.setIfInBounds j true) a' w' (fun l ol hl hli hu hno => ?_) (ready_mono hr (Ne.symm hji)) h3.1 h3.2.1 ?_⟩) h2
      · refine hfree l ol hl hli ?_ hno
        by_cases hjl : j = l
        · subst hjl; exact hun
        · rw [getD_set_ne true hjl] at hu; exact hu
      · rw [Array.setIfInBounds_comm _ _ hji]
        exact h3.2.2
theorem takeW (hfn : ∀ f, F.fn f) (hnd : noDefer ops = true) {i : Nat} {oi : Oper} {v : Value} {k : Nat} {done : Array Bool} {a : Act} {w : World} (hi : ops[i]? = some oi) (hs : Region.noSelect ops = true) (hf : Region.free md ops done i = true) (hr : (Region.ready md ops done).contains i = true)
    (hQ : ∀ c a w, Q (.panic c) (a.put oi.dst v) w → Q (.panic c) a w) (hy : YieldsIf P ops S oi v a) (hS : S w) (h : anyW F n P md ops Q S k (done.setIfInBounds i true) (a.put oi.dst v) w) : anyW F n P md ops Q S (k + 1) done a w :=
  firstW hfn hnd hi (Region.noSelect_spec hs) hQ k done a w (Region.free_spec hi hf) (by simpa using hr) hy hS h
theorem oneW {i : Nat} {o : Oper} {k : Nat} {done : Array Bool} {a : Act} {w : World} (hr : Region.ready md ops done = [i]) (ho : ops[i]? = some o)
    (h : ∀ K : Act → World → Prop, Hid (∀ a w, S w → (S w → anyW F n P md ops Q S k (done.setIfInBounds i true) a w) → K a w) → if Region.wanted o (yielded ops a.tmps) = true then Oper.wpIn F n P o a w K Q else (∀ f, o.about P w a.eval = some f → F.fn f) ∧ K (a.put o.dst undef) w) :
    anyW F n P md ops Q S (k + 1) done a w := by
  refine ⟨fun h0 => (by rw [hr] at h0; cases h0), fun j hj => ?_⟩
  rw [hr] at hj
  obtain rfl : j = i := by simpa using hj
  exact wpOpIn_step ho fun K hK => h K (fun a w hS hW => hK a w ⟨hS, hW hS⟩)
theorem endW {done : Array Bool} {a : Act} {w : World} (hr : Region.ready md ops done = []) (h : Q .normal a w) : ∀ k, anyW F n P md ops Q S k done a w
  | 0 => ⟨hr, h⟩
  | _ + 1 => ⟨fun _ => h, by rw [hr]; simp⟩
theorem startW {id : Nat} {a : Act} {w : World} (hm : P.follows .mixedOrders = true) (hS : S w.drew) (h : S w.drew → anyW F n P .any ops Q S ops.size (Array.replicate ops.size false) a w.drew) : (Code.region id ops true).wpIn F n P Q a w :=
  wpIn_region_any hm (anyW.plain _ _ _ _ (h hS))
end
end Go.Proofs.YtoichcickcgbgaaGreatDoor
namespace Go.Proofs.YtoichcickcgbgaaGreatDoor.Disk
open Go.RowKit
/-- Bytes as cells. -/
def bc (l : List UInt8) : List Value := l.map fun c => Value.int .u8 (c.toNat : Int)
theorem bc_len (l : List UInt8) : (bc l).length = l.length := by simp [bc]
theorem bc_one (l : List UInt8) : ∀ v ∈ bc l, v.oneCell' = true := by
  intro v hv
  simp only [bc, List.mem_map] at hv
  obtain ⟨c, _, rfl⟩ := hv
  rfl
/-- An open write as cells. -/
def oc (p : Nat × List UInt8) : List Value := .int .i64 (p.1 : Int) :: bc p.2
/-- Block b holds the bytes l. -/
def By (w : World) (b : Nat) (l : List UInt8) : Prop := ∃ T, w.heap[b]? = some (.cells (bc l).toArray T (0, 0))
theorem By.keep {w w' : World} {b : Nat} {l : List UInt8} (h : By w b l) (e : w'.heap[b]? = w.heap[b]?) : By w' b l := by
  obtain ⟨T, hb⟩ := h
  exact ⟨T, e.trans hb⟩
theorem By.lt {w : World} {b : Nat} {l : List UInt8} (h : By w b l) : b < w.heap.size := by
  obtain ⟨_, hb⟩ := h
  exact (Array.getElem?_eq_some_iff.1 hb).1
theorem By.cell {w : World} {b : Nat} {l : List UInt8} (h : By w b l) {k : Nat} (hk : k < l.length) : w.cell? ⟨b, k, none⟩ = some (.int .u8 (l[k].toNat : Int)) := by
  obtain ⟨T, hb⟩ := h
  simp [World.cell?, hb, hk, bc]
theorem By.free {w : World} {b : Nat} {l : List UInt8} (h : By w b l) (k : Nat) : w.frozen? ⟨b, k, none⟩ = false := by
  obtain ⟨T, hb⟩ := h
  simp [World.frozen?, hb]
theorem By.set {w : World} {b : Nat} {l : List UInt8} (h : By w b l) (k : Nat) (d : UInt8) : By (w.setCell ⟨b, k, none⟩ (.int .u8 (d.toNat : Int))) b (l.set k d) := by
  obtain ⟨T, hb⟩ := h
  refine ⟨T, ?_⟩
  rw [heap_setCell_same w b k _ T _ hb]
  simp [List.map_set, bc]
theorem By.conv {w : World} {b : Nat} {l : List UInt8} (h : By w b l) (n cap : Nat) (hn : l.length = n) : (convert 105 9 (.slice (some ⟨b, 0, none⟩) n cap)).run Tryz.prog w = .ok (.string ⟨l.toArray⟩) w := by
  subst hn
  refine run_convert_bytes_back (P := Tryz.prog) _ 105 9 5 ⟨b, 0, none⟩ cap l Tryz.underlying105 Tryz.underlying5 Tryz.underlying9 ?_
  intro j hj
  have hadd : (⟨b, 0, none⟩ : Addr).add j = ⟨b, j, none⟩ := by unfold Addr.add; split <;> simp_all
  rw [hadd]
  exact h.cell hj
theorem info5 : (Tryz.prog.info? 5).map (fun i => (i.zero, i.size, i.bytes)) = some (some (.int .u8 0), 1, 1) := by kernel_rfl
/-- The disk in block b: its n sectors S in block s; its open writes O, a slice at oa. -/
structure Dk (w : World) (b s n : Nat) (S : List (List UInt8)) (O : List (Nat × List UInt8)) (m : Nat) (oa : Option Addr) (cap : Nat) (f r : Int) : Prop where
  box : ∃ T, w.heap[b]? = some (.cells #[.slice (some ⟨s, 0, none⟩) n n, .slice oa m cap, .int .i64 f, .int .i64 r] T (0, 0))
  sec : ∃ T, w.heap[s]? = some (.cells (S.flatMap bc).toArray T (0, 0))
  len : S.length = n
  all : ∀ x ∈ S, x.length = 64
  many : O.length = m
  own : w.ownsRow 0 146 65 (.slice oa m cap) m (O.flatMap oc)
  oall : ∀ p ∈ O, p.1 < n ∧ p.2.length = 64
  ne : b ≠ s
  nob : (Value.slice oa m cap).ownBlock ≠ some b
  nos : (Value.slice oa m cap).ownBlock ≠ some s
  lo : 1 ≤ n
  hi : n ≤ 1024
  few : m ≤ 1000
  f0 : 0 ≤ f
  f1 : f ≤ 9223372036854775807
  r0 : 0 ≤ r
  r1 : r ≤ 1000000
/-- All but the disk's own blocks is as it was. -/
structure Moved (w w' : World) (b s : Nat) (oa : Option Addr) : Prop where
  os : w'.os = w.os
  tape : w'.tape = w.tape
  output : w'.output = w.output
  size : w.heap.size ≤ w'.heap.size
  block : ∀ k, k < w.heap.size → k ≠ b → k ≠ s → (Value.slice oa 0 0).ownBlock ≠ some k → w'.heap[k]? = w.heap[k]?
theorem own_slice (oa : Option Addr) (m cap m' cap' : Nat) : (Value.slice oa m cap).ownBlock = (Value.slice oa m' cap').ownBlock := by cases oa <;> rfl
section
variable {w : World} {b s n : Nat} {S : List (List UInt8)} {O : List (Nat × List UInt8)} {m : Nat} {oa : Option Addr} {cap : Nat} {f r : Int}
theorem Dk.lt (h : Dk w b s n S O m oa cap f r) : b < w.heap.size := by
  obtain ⟨_, hb⟩ := h.box
  exact (Array.getElem?_eq_some_iff.1 hb).1
theorem Dk.lts (h : Dk w b s n S O m oa cap f r) : s < w.heap.size := by
  obtain ⟨_, hb⟩ := h.sec
  exact (Array.getElem?_eq_some_iff.1 hb).1
theorem cellAt {w : World} {b : Nat} {cs : Array Value} {t : TypeId} (h : w.heap[b]? = some (.cells cs t (0, 0))) (j : Nat) {v : Value} (hj : cs[j]? = some v) : w.cell? ⟨b, j, none⟩ = some v := by simp [World.cell?, h, hj]
theorem freeAt {w : World} {b : Nat} {cs : Array Value} {t : TypeId} (h : w.heap[b]? = some (.cells cs t (0, 0))) (j : Nat) : w.frozen? ⟨b, j, none⟩ = false := by simp [World.frozen?, h]
theorem Dk.c0 (h : Dk w b s n S O m oa cap f r) : w.cell? ⟨b, 0, none⟩ = some (.slice (some ⟨s, 0, none⟩) n n) := by obtain ⟨_, hb⟩ := h.box; exact cellAt hb 0 rfl
theorem Dk.c1 (h : Dk w b s n S O m oa cap f r) : w.cell? ⟨b, 1, none⟩ = some (.slice oa m cap) := by obtain ⟨_, hb⟩ := h.box; exact cellAt hb 1 rfl
theorem Dk.c2 (h : Dk w b s n S O m oa cap f r) : w.cell? ⟨b, 2, none⟩ = some (.int .i64 f) := by obtain ⟨_, hb⟩ := h.box; exact cellAt hb 2 rfl
theorem Dk.c3 (h : Dk w b s n S O m oa cap f r) : w.cell? ⟨b, 3, none⟩ = some (.int .i64 r) := by obtain ⟨_, hb⟩ := h.box; exact cellAt hb 3 rfl
theorem Dk.fr (h : Dk w b s n S O m oa cap f r) (j : Nat) : w.frozen? ⟨b, j, none⟩ = false := by obtain ⟨_, hb⟩ := h.box; exact freeAt hb j
/-- The row of open writes is where it was. -/
theorem own_keep {w w' : World} {oa : Option Addr} {m cap : Nat} {xs : List Value} (h : w.ownsRow 0 146 65 (.slice oa m cap) m xs) (e : ∀ k, k < w.heap.size → (Value.slice oa m cap).ownBlock = some k → w'.heap[k]? = w.heap[k]?) : w'.ownsRow 0 146 65 (.slice oa m cap) m xs := by
  refine ⟨h.1, ?_⟩
  rcases h.2 with h0 | ⟨g, cap', cur, hv, hb, hg, hrest⟩
  · exact .inl h0
  · refine .inr ⟨g, cap', cur, hv, hb, ?_, hrest⟩
    have hlt : g < w.heap.size := (Array.getElem?_eq_some_iff.1 hg).1
    rw [e g hlt (by rw [hv]; rfl)]
    exact hg
/-- A world in which the disk's blocks are as they were. -/
theorem Dk.keep {w' : World} (h : Dk w b s n S O m oa cap f r) (e : ∀ k, k < w.heap.size → (k = b ∨ k = s ∨ (Value.slice oa m cap).ownBlock = some k) → w'.heap[k]? = w.heap[k]?) : Dk w' b s n S O m oa cap f r := by
  obtain ⟨T, hb⟩ := h.box
  obtain ⟨T', hs⟩ := h.sec
  exact { h with box := ⟨T, (e b h.lt (.inl rfl)).trans hb⟩, sec := ⟨T', (e s h.lts (.inr (.inl rfl))).trans hs⟩, own := own_keep h.own fun k hk hv => e k hk (.inr (.inr hv)) }
theorem Dk.below {w' : World} (h : Dk w b s n S O m oa cap f r) (hb : Below w.heap.size w w') : Dk w' b s n S O m oa cap f r :=
  h.keep fun k hk _ => hb.block k hk
/-- Another world of a box. -/
theorem Dk.setf (h : Dk w b s n S O m oa cap f r) (f' : Int) (h0 : 0 ≤ f') (h1 : f' ≤ 9223372036854775807) : Dk (w.setCell ⟨b, 2, none⟩ (.int .i64 f')) b s n S O m oa cap f' r := by
  obtain ⟨T, hb⟩ := h.box
  obtain ⟨T', hs⟩ := h.sec
  refine { h with box := ⟨T, ?_⟩, sec := ⟨T', (heap_setCell_other _ _ _ _ h.ne.symm).trans hs⟩, own := own_keep h.own fun k hk hv => heap_setCell_other _ _ _ _ (fun e => h.nob (by rw [hv, e])), f0 := h0, f1 := h1 }
  rw [heap_setCell_same w b 2 _ T _ hb]
  rfl
theorem Dk.setr (h : Dk w b s n S O m oa cap f r) (r' : Int) (h0 : 0 ≤ r') (h1 : r' ≤ 1000000) : Dk (w.setCell ⟨b, 3, none⟩ (.int .i64 r')) b s n S O m oa cap f r' := by
  obtain ⟨T, hb⟩ := h.box
  obtain ⟨T', hs⟩ := h.sec
  refine { h with box := ⟨T, ?_⟩, sec := ⟨T', (heap_setCell_other _ _ _ _ h.ne.symm).trans hs⟩, own := own_keep h.own fun k hk hv => heap_setCell_other _ _ _ _ (fun e => h.nob (by rw [hv, e])), r0 := h0, r1 := h1 }
  rw [heap_setCell_same w b 3 _ T _ hb]
  rfl
theorem Moved.refl (w : World) (b s : Nat) (oa : Option Addr) : Moved w w b s oa := ⟨rfl, rfl, rfl, Nat.le_refl _, fun _ _ _ _ _ => rfl⟩
theorem Moved.trans {w1 w2 : World} (h : Moved w w1 b s oa) (h2 : Moved w1 w2 b s oa) : Moved w w2 b s oa :=
  ⟨h2.os.trans h.os, h2.tape.trans h.tape, h2.output.trans h.output, Nat.le_trans h.size h2.size, fun k hk hb hs ho => (h2.block k (Nat.lt_of_lt_of_le hk h.size) hb hs ho).trans (h.block k hk hb hs ho)⟩
theorem Moved.set (w : World) (b s : Nat) (oa : Option Addr) (j : Nat) (v : Value) : Moved w (w.setCell ⟨b, j, none⟩ v) b s oa :=
  ⟨rfl, rfl, rfl, by simp [World.setCell], fun k _ hb _ _ => heap_setCell_other _ _ _ _ hb⟩
theorem Moved.below {w' : World} (h : Below w.heap.size w w') : Moved w w' b s oa := ⟨h.os, h.tape, h.output, h.size, fun k hk _ _ _ => h.block k hk⟩
theorem len_any (h : Dk w b s n S O m oa cap f r) : Calls Tryz.prog 72 #[.pointer (some ⟨b, 0, none⟩)] w fun e w' => e = .returned (.int .i64 n) ∧ w = w' := by
  have c0 := h.c0
  go_enter Tryz.func72, Tryz.ntmps72
  go_wp2
  go_ret
  exact ⟨rfl, rfl⟩
theorem there_in (h : Dk w b s n S O m oa cap f r) (k : Int) (h0 : 0 ≤ k) (h1 : k < n) : Calls Tryz.prog 164 #[.pointer (some ⟨b, 0, none⟩), .int .i64 k] w fun e w' => e = .returned (.bool true) ∧ w = w' := by
  go_enter Tryz.func164, Tryz.ntmps164
  go_wp2_with (go_at_call 72; refine (len_any h).mono ?_; rintro e w1 ⟨rfl, rfl⟩)
  go_ret
  exact ⟨rfl, rfl⟩
/-- One operation less till the one that fails. -/
def failS (f : Int) : Bool × Int := if f = 0 then (false, 0) else (f - 1 == 0, f - 1)
theorem fails_any (h : Dk w b s n S O m oa cap f r) (fl : Bool) (f' : Int) (hf : failS f = (fl, f')) :
    Calls Tryz.prog 117 #[.pointer (some ⟨b, 0, none⟩)] w fun e w' => e = .returned (.bool fl) ∧ Dk w' b s n S O m oa cap f' r ∧ Moved w w' b s oa ∧ w'.heap.size = w.heap.size := by
  unfold failS at hf
  have c2 := h.c2
  have fr := h.fr 2
  have h0 := h.f0
  have h1 := h.f1
  split at hf <;> obtain ⟨rfl, rfl⟩ := hf
  · rename_i hz
    subst hz
    go_enter Tryz.func117, Tryz.ntmps117
    go_wp2
    go_ret
    exact ⟨rfl, h, Moved.refl _ _ _ _, rfl⟩
  · rename_i hz
    have hz2 : (f == 0) = false := by rw [beq_eq_false_iff_ne]; exact hz
    have hS := h.setf (f - 1) (by omega) (by omega)
    have hM := Moved.set w b s oa 2 (.int .i64 (f - 1))
    have cs := hS.c2
    clear hz
    go_enter Tryz.func117, Tryz.ntmps117
    go_wp2
    go_ret
    exact ⟨rfl, hS, hM, by simp [World.setCell]⟩
end
end Go.Proofs.YtoichcickcgbgaaGreatDoor.Disk
