/-
  heap.all and List: all jobs of a heap of two at most.
  A range over a function whose loop variables lie in blocks: what comes in is laid ahead of each round.
-/
import Derived.Test.YtoichcickcgbgaaGreatDoorGHtHu
namespace Go.Proofs.YtoichcickcgbgaaGreatDoor
open Go.RowKit
attribute [local go_sem] Oper.semAt_some
attribute [local go_sem] run_store_func
/-- A node's value, below a bound. -/
def Nv (w : World) (B : Nat) (oc : Option Addr) : List Jb → Prop
  | [] => oc = none
  | [a] => ∃ p, oc = some ⟨p, 0, none⟩ ∧ p < B ∧ Lf w p a
  | [a, b] => ∃ p c, oc = some ⟨p, 0, none⟩ ∧ p < B ∧ c < B ∧ Tw w p c a b
  | _ => False
theorem Hp.nv {w : World} {h : Nat} {js : List Jb} (hp : Hp w h js) : ∃ oc n, Hx w h (.pointer oc) n ∧ Nv w w.heap.size oc js := by
  match js, hp with
  | [], hp => exact ⟨none, 0, hp, rfl⟩
  | [a], ⟨p, h1, h2⟩ => exact ⟨_, 1, h1, p, rfl, Bx.lt h2, h2⟩
  | [a, b], ⟨p, c, h1, h2, h3⟩ => exact ⟨_, 2, h1, p, c, rfl, Bx.lt h2, Bx.lt h3, h2, h3⟩
  | _ :: _ :: _ :: _, hp => exact hp.elim
theorem Nv.keep {w w' : World} {B : Nat} {oc : Option Addr} {js : List Jb} (h : Nv w B oc js) (e : ∀ k, k < B → k < w.heap.size → w'.heap[k]? = w.heap[k]?) : Nv w' B oc js := by
  match js, h with
  | [], h => exact h
  | [a], ⟨p, h1, h2, h3⟩ => exact ⟨p, h1, h2, Bx.keep h3 (e p h2 (Bx.lt h3))⟩
  | [a, b], ⟨p, c, h1, h2, h3, h4, h5⟩ => exact ⟨p, c, h1, h2, h3, Bx.keep h4 (e p h2 (Bx.lt h4)), Bx.keep h5 (e c h3 (Bx.lt h5))⟩
  | _ :: _ :: _ :: _, h => exact h.elim
/-- The first of some, and what is behind it. -/
theorem Nv.cons {w : World} {B : Nat} {oc : Option Addr} {a : Jb} {js : List Jb} (h : Nv w B oc (a :: js)) : ∃ p lf, oc = some ⟨p, 0, none⟩ ∧ p < B ∧ Nd w p a 1 (.pointer lf) (.pointer none) ∧ Nv w B lf js ∧ (lf = none ∨ ∃ c, lf = some ⟨c, 0, none⟩) := by
  match js, h with
  | [], ⟨p, h1, h2, h3⟩ => exact ⟨p, none, h1, h2, h3, rfl, .inl rfl⟩
  | [b], ⟨p, c, h1, h2, h3, h4, h5⟩ => exact ⟨p, _, h1, h2, h4, ⟨c, rfl, h3, h5⟩, .inr ⟨c, rfl⟩⟩
  | _ :: _ :: _, h => exact h.elim
theorem Nv.len {w : World} {B : Nat} {oc : Option Addr} {js : List Jb} (h : Nv w B oc js) : js.length ≤ 2 := by
  match js, h with
  | [], _ => simp
  | [a], _ => simp
  | [a, b], _ => simp
  | _ :: _ :: _ :: _, h => exact h.elim
/-- How many there are. -/
def nodeN (w : World) : Value → Nat
  | .pointer (some a) => match w.cell? ⟨a.block, 5, none⟩ with
    | some (.pointer none) => 1
    | _ => 2
  | _ => 0
theorem Nv.num {w : World} {B : Nat} {oc : Option Addr} {js : List Jb} (h : Nv w B oc js) : nodeN w (.pointer oc) = js.length := by
  match js, h with
  | [], h => rw [show oc = none from h]; rfl
  | [a], ⟨p, h1, h2, h3⟩ => subst h1; simp [nodeN, Bx.cell h3 5 rfl]
  | [a, b], ⟨p, c, h1, h2, h3, h4, h5⟩ => subst h1; simp [nodeN, Bx.cell h4 5 rfl]
  | _ :: _ :: _ :: _, h => exact h.elim
/-- What rounds over the jobs keep. -/
def Kh (B bh : Nat) (X Y : World) : Prop := X.heap.size ≤ Y.heap.size ∧ ∀ k, k < X.heap.size → (k < B ∨ k = bh) → Y.heap[k]? = X.heap[k]?
theorem Kh.trans {B bh : Nat} {X Y Z : World} (h : Kh B bh X Y) (k : Kh B bh Y Z) : Kh B bh X Z := ⟨Nat.le_trans h.1 k.1, fun i hi hs => (k.2 i (Nat.lt_of_lt_of_le hi h.1) hs).trans (h.2 i hi hs)⟩
set_option maxRecDepth 100000 in
set_option maxHeartbeats 2000000 in
theorem seq_jobs (nn : Nat) {w0 : World} {B bh h : Nat} {oc : Option Addr} {n : Int} {js : List Jb} (hB : Bx w0 bh 134 [.pointer (some ⟨h, 0, none⟩)]) (hH : Hx w0 h (.pointer oc) n) (hhB : h < B) (hN : Nv w0 B oc js) :
    SeqT nn Tryz.prog 165 #[.pointer (some ⟨bh, 0, none⟩)] (fun x : Jb => #[.agg #[.int .i64 x.id, .int .i64 x.rel, .int .i64 x.due, .int .i64 x.left]]) (fun _ => False) (Kh B bh) (fun pre x => ∃ rest, js = pre ++ x :: rest) (fun xs _ => xs = js) (fun _ _ => True) w0 := by
  intro l I Ix W hK hI hIx hY h0
  dsimp only at hY
  have HY := Lib.hid hY
  have HI := Lib.hid (fun xs X Y (h : I xs X) (b : Below X.heap.size X Y) => hI xs X Y h (Turn.below b))
  have HB0 : Hid (Bx W bh 134 [.pointer (some ⟨h, 0, none⟩)]) := hB.keep (hK.2 _ hB.lt (.inr rfl))
  have hH0 : Hx W h (.pointer oc) n := Bx.keep hH (hK.2 _ (Bx.lt hH) (.inl hhB))
  have HN0 : Hid (Nv W B oc js) := hN.keep fun k hk hl => hK.2 k hl (.inl hk)
  have HNE : Hid (∀ X, Bx X bh 134 [.pointer (some ⟨h, 0, none⟩)] → True) := fun _ _ => trivial
  clear hB hH hN hK hY hI hIx HNE
  have c0 := HB0.out.cell 0 rfl
  have c1 := Bx.cell hH0 1 rfl
  clear hH0
  refine callsIn_of_wp Tryz.func165 rfl trivial ?_ rfl
  simp only [Tryz.ntmps165, List.size_toArray, List.length_cons, List.length_nil, Nat.reduceAdd, Nat.reduceSub, Array.replicate_succ, Array.replicate_zero, List.push_toArray, List.append_toArray, List.nil_append, List.cons_append]
  gi_wp2
  gi_loopw [3] (fun v wr => ∃ (od : Option Addr) (pre rest : List Jb), v = .pointer od ∧ Hid (js = pre ++ rest) ∧ Hid (I pre wr) ∧ Hid (Bx wr bh 134 [.pointer (some ⟨h, 0, none⟩)]) ∧ Hid (Nv wr B od rest)) (fun v wr => nodeN wr v)
  case atStart => exact ⟨oc, [], js, rfl, Lib.hid rfl, h0, HB0, HN0⟩
  case round =>
    clear c0 c1
    obtain ⟨od, pre, rest, rfl, hjs, hIr, hBr, hNr⟩ := hrel
    rcases rest with _ | ⟨x, rest⟩
    · have ho : od = none := hNr.out
      subst ho
      gi_wp2
      go_end0
      exact ⟨⟨_, rfl⟩, .inl ⟨pre, by have := hjs.out; simpa using this.symm, hIr.out⟩⟩
    · obtain ⟨p, lf, rfl, hpB, hNd, hNl, hlf⟩ := hNr.out.cons
      have c0 := Bx.cell hNd 0 rfl
      have c1 := Bx.cell hNd 1 rfl
      have c2 := Bx.cell hNd 2 rfl
      have c3 := Bx.cell hNd 3 rfl
      have HND := Lib.hid hNd
      have HNL := Lib.hid hNl
      have HLF := Lib.hid hlf
      clear hNd hNl hlf
      gi_wp2
      obtain ⟨fn, tmps, assign, body, hy, hR⟩ := HY.out pre x wr hIr.out ⟨rest, hjs.out⟩
      rw [hy]
      refine ⟨fun h => (by simp [Fence.wide] at h), RoundIn.mono hR ?_⟩
      clear hR hy c0 c1 c2 c3
      rintro e w1 (⟨rfl, hI1, hk1⟩ | ⟨rfl, hI1, hk1⟩)
      · have HB1 : Hid (Bx w1 bh 134 [.pointer (some ⟨h, 0, none⟩)]) := hBr.out.keep (hk1.2 _ hBr.out.lt (.inr rfl))
        have HND1 : Hid (Nd w1 p x 1 (.pointer lf) (.pointer none)) := Bx.keep HND.out (hk1.2 _ (Bx.lt HND.out) (.inl hpB))
        have HNL1 : Hid (Nv w1 B lf rest) := HNL.out.keep fun k hk hl => hk1.2 k hl (.inl hk)
        have HI1 := Lib.hid hI1
        clear hI1 hk1
        have KC : Hid (∀ z, Hid (Below w1.heap.size w1 z) → (z.cell? ⟨bh, 0, none⟩ = some (.pointer (some ⟨h, 0, none⟩)) ∧ z.cell? ⟨p, 5, none⟩ = some (.pointer lf) ∧ z.cell? ⟨p, 6, none⟩ = some (.pointer none))) := fun z b => ⟨HB1.out.bl b |>.cell 0 rfl, Bx.cell (Bx.bl HND1.out b) 5 rfl, Bx.cell (Bx.bl HND1.out b) 6 rfl⟩
        have B1 : Hid (Below w1.heap.size w1 w1.drew) := bl_drew (bl0 _)
        gi_wp2
        refine startW (S := fun z => (z.cell? ⟨bh, 0, none⟩ = some (.pointer (some ⟨h, 0, none⟩)) ∧ z.cell? ⟨p, 5, none⟩ = some (.pointer lf) ∧ z.cell? ⟨p, 6, none⟩ = some (.pointer none)) ∧ Hid (Below w1.heap.size w1 z)) (by kernel_rfl) (skeep KC B1) (fun hHeld => ?_)
        refine takeW (fun _ => trivial) (by kernel_rfl) (i := 0) (oi := ⟨some 10, _, _, _, _, _⟩) (v := .pointer (some ⟨h, 0, none⟩)) rfl (by kernel_rfl) (by kernel_rfl) (by kernel_rfl) (fun _ _ _ h => h) (Or.inl ⟨by rfl, fun x hSw => by obtain ⟨⟨d0, d1, d2⟩, _⟩ := id hSw; (go_simp) <;> first | decide | exact IntWalk.i64_in _ (by omega)⟩) (by assumption) ?_
        try simp only [Act.put, pw]
        refine takeW (fun _ => trivial) (by kernel_rfl) (i := 1) (oi := ⟨some 11, _, _, _, _, _⟩) (v := .pointer (some ⟨p, 0, none⟩)) rfl (by kernel_rfl) (by kernel_rfl) (by kernel_rfl) (fun _ _ _ h => h) (Or.inl ⟨by rfl, fun x hSw => by obtain ⟨⟨d0, d1, d2⟩, _⟩ := id hSw; (go_simp) <;> first | decide | exact IntWalk.i64_in _ (by omega)⟩) (by assumption) ?_
        try simp only [Act.put, pw]
        refine takeW (fun _ => trivial) (by kernel_rfl) (i := 2) (oi := ⟨some 12, _, _, _, _, _⟩) (v := .pointer (some ⟨p, 0, none⟩)) rfl (by kernel_rfl) (by kernel_rfl) (by kernel_rfl) (fun _ _ _ h => h) (Or.inl ⟨by rfl, fun x hSw => by obtain ⟨⟨d0, d1, d2⟩, _⟩ := id hSw; (go_simp) <;> first | decide | exact IntWalk.i64_in _ (by omega)⟩) (by assumption) ?_
        try simp only [Act.put, pw]
        refine takeW (fun _ => trivial) (by kernel_rfl) (i := 3) (oi := ⟨some 13, _, _, _, _, _⟩) (v := .pointer (some ⟨p, 5, none⟩)) rfl (by kernel_rfl) (by kernel_rfl) (by kernel_rfl) (fun _ _ _ h => h) (Or.inl ⟨by rfl, fun x hSw => by obtain ⟨⟨d0, d1, d2⟩, _⟩ := id hSw; (go_simp) <;> first | decide | exact IntWalk.i64_in _ (by omega)⟩) (by assumption) ?_
        try simp only [Act.put, pw]
        refine takeW (fun _ => trivial) (by kernel_rfl) (i := 4) (oi := ⟨some 14, _, _, _, _, _⟩) (v := .pointer lf) rfl (by kernel_rfl) (by kernel_rfl) (by kernel_rfl) (fun _ _ _ h => h) (Or.inl ⟨by rfl, fun x hSw => by obtain ⟨⟨d0, d1, d2⟩, _⟩ := id hSw; (go_simp) <;> first | decide | exact IntWalk.i64_in _ (by omega)⟩) (by assumption) ?_
        try simp only [Act.put, pw]
        refine takeW (fun _ => trivial) (by kernel_rfl) (i := 5) (oi := ⟨some 15, _, _, _, _, _⟩) (v := .pointer (some ⟨p, 0, none⟩)) rfl (by kernel_rfl) (by kernel_rfl) (by kernel_rfl) (fun _ _ _ h => h) (Or.inl ⟨by rfl, fun x hSw => by obtain ⟨⟨d0, d1, d2⟩, _⟩ := id hSw; (go_simp) <;> first | decide | exact IntWalk.i64_in _ (by omega)⟩) (by assumption) ?_
        try simp only [Act.put, pw]
        refine takeW (fun _ => trivial) (by kernel_rfl) (i := 6) (oi := ⟨some 16, _, _, _, _, _⟩) (v := .pointer (some ⟨p, 0, none⟩)) rfl (by kernel_rfl) (by kernel_rfl) (by kernel_rfl) (fun _ _ _ h => h) (Or.inl ⟨by rfl, fun x hSw => by obtain ⟨⟨d0, d1, d2⟩, _⟩ := id hSw; (go_simp) <;> first | decide | exact IntWalk.i64_in _ (by omega)⟩) (by assumption) ?_
        try simp only [Act.put, pw]
        refine takeW (fun _ => trivial) (by kernel_rfl) (i := 7) (oi := ⟨some 17, _, _, _, _, _⟩) (v := .pointer (some ⟨p, 6, none⟩)) rfl (by kernel_rfl) (by kernel_rfl) (by kernel_rfl) (fun _ _ _ h => h) (Or.inl ⟨by rfl, fun x hSw => by obtain ⟨⟨d0, d1, d2⟩, _⟩ := id hSw; (go_simp) <;> first | decide | exact IntWalk.i64_in _ (by omega)⟩) (by assumption) ?_
        try simp only [Act.put, pw]
        refine takeW (fun _ => trivial) (by kernel_rfl) (i := 8) (oi := ⟨some 18, _, _, _, _, _⟩) (v := .pointer none) rfl (by kernel_rfl) (by kernel_rfl) (by kernel_rfl) (fun _ _ _ h => h) (Or.inl ⟨by rfl, fun x hSw => by obtain ⟨⟨d0, d1, d2⟩, _⟩ := id hSw; (go_simp) <;> first | decide | exact IntWalk.i64_in _ (by omega)⟩) (by assumption) ?_
        try simp only [Act.put, pw]
        refine oneW (i := 9) (by kernel_rfl) rfl (fun K hK => ?_)
        go_simp
        refine ⟨trivial, fun h => (by simp [Fence.wide] at h), (callsIn_wide.2 (meld_left _ _ _ HLF.out)).mono ?_⟩
        rintro e w2 ⟨rfl, rfl⟩
        refine hK.out _ _ (skeep KC B1) (fun hHeld => ?_)
        clear hK K
        try simp only [Act.put, pw]
        refine takeW (fun _ => trivial) (by kernel_rfl) (i := 10) (oi := ⟨some 3, _, _, _, _, _⟩) (v := .pointer lf) rfl (by kernel_rfl) (by kernel_rfl) (by kernel_rfl) (fun _ _ _ h => h) (Or.inl ⟨by rfl, fun x hSw => by obtain ⟨⟨d0, d1, d2⟩, _⟩ := id hSw; (go_simp) <;> first | decide | exact IntWalk.i64_in _ (by omega)⟩) (by assumption) ?_
        try simp only [Act.put, pw]
        refine endW (by kernel_rfl) ?_ _
        gi_wp2
        go_roundw
        case rel => exact ⟨lf, pre ++ [x], rest, rfl, by have := hjs.out; show _ = _; rw [this]; simp, HI.out _ _ _ HI1.out B1.out, HB1.out.below B1.out, HNL1.out.keep fun _ _ _ => rfl⟩
        case measure =>
          have e1 := hNr.out.num
          have e2 : nodeN w1.drew (.pointer lf) = rest.length := (HNL1.out.keep (w' := w1.drew) fun _ _ _ => rfl).num
          show nodeN w1.drew (.pointer lf) < nodeN wr _
          rw [e1, e2]
          simp
      · gi_wp2
        refine bodyPost_ret (results_none rfl _ _ _) rfl ?_
        exact ⟨⟨_, rfl⟩, .inr ⟨_, trivial, hI1⟩⟩
end Go.Proofs.YtoichcickcgbgaaGreatDoor
namespace Go.Proofs.YtoichcickcgbgaaGreatDoor
open Go.RowKit
theorem range_law2 {α : Type} {P : Program} {n : Nat} {g : Operand} {ps : Array Tmp} {assign body : Code} {Q : Exit → Act → World → Prop} {a : Act} {w : World}
    {gf : Nat} {lb : Array Value} (hg : a.eval g = .func (.func gf) #[] lb) (eg : ∀ args w, (callFunc gf args).run P w = .ok (.enter gf args) w)
    {encs : α → Array Value} (hps : ∀ x, (encs x).size = ps.size) {Si : Nat → Prop} {Kp : World → World → Prop} {Px : List α → α → Prop} {S Sp : List α → World → Prop} {w0 : World}
    (hseq : SeqT (n - 1) P gf lb encs Si Kp Px S Sp w0) (hk0 : Kp w0 w) (hSi : ∀ k, Si k → k < w.heap.size)
    (hKt : ∀ {A B C : World}, Kp A B → Kp B C → Kp A C)
    (hKb : ∀ A B : World, (∀ k o, (k = w.heap.size ∨ k = w.heap.size + 1) → A.heap[k]? = some o → o.isCells = false) → Turn (fun k => k = w.heap.size ∨ k = w.heap.size + 1) A B → Kp A B)
    (hS : ∀ xs A B, S xs A → Turn (fun k => k = w.heap.size + 1) A B → S xs B) (hSp : ∀ xs A B, Sp xs A → Turn (fun k => k = w.heap.size + 1) A B → Sp xs B)
    (I : List α → World → Prop) (Ix : Code → List α → World → Prop)
    (hI : ∀ xs A B, I xs A → Turn (fun k => Si k ∨ k = w.heap.size ∨ k = w.heap.size + 1) A B → I xs B)
    (hIx : ∀ c xs A B, Ix c xs A → Turn (fun k => Si k ∨ k = w.heap.size ∨ k = w.heap.size + 1) A B → Ix c xs B)
    (h0 : I [] w) (I1 : List α → α → Act → World → Prop) (hI1 : ∀ pre x a1 A B, I1 pre x a1 A → Turn (fun k => k = w.heap.size ∨ k = w.heap.size + 1) A B → I1 pre x a1 B)
    (hassign : ∀ (l : Nat) (pre : List α) (x : α) (W : World) (K : Act → World → Prop), I pre W → Px pre x → w.heap.size + 1 < W.heap.size → (∀ a1 W1, I1 pre x a1 W1 → Kp W W1 → W.heap.size ≤ W1.heap.size → (W1.heap[w.heap.size]? = W.heap[w.heap.size]? ∧ W1.heap[w.heap.size + 1]? = W.heap[w.heap.size + 1]?) → K a1 W1) →
      assign.wpIn (Fence.wide.inRound l) (n - 1 - 1) P (Exit.then K (fun _ _ _ => False)) { tmps := (ps.zip (encs x)).foldl (fun t (p, v) => t.setIfInBounds p v) a.tmps, defers := [] } W)
    (hbody : ∀ (l : Nat) (pre : List α) (x : α) (a1 : Act) (W : World), I1 pre x a1 W → Px pre x → w.heap.size + 1 < W.heap.size → (∀ k o, (k = w.heap.size ∨ k = w.heap.size + 1) → W.heap[k]? = some o → o.isCells = false) →
      body.wpIn (Fence.wide.inRound l) (n - 1 - 1) P (rPost w.heap.size Kp I Ix (pre ++ [x]) W) a1 W)
    (hdone : ∀ (xs : List α) (W : World), S xs W → I xs W → W.heap[w.heap.size]? = some (.deferred (some [])) → Q .normal { a with defers := { target := .collected w.heap.size, args := #[] } :: a.defers } W)
    (hstop : ∀ (c : Code) (pre : List α) (W : World), Sp pre W → Ix c pre W → W.heap[w.heap.size]? = some (.deferred (some [])) → c.wpIn Fence.wide n P Q { a with defers := { target := .collected w.heap.size, args := #[] } :: a.defers } W) :
    (Code.rangeFunc g ps assign body).wpIn Fence.wide n P Q a w := by
  refine wpIn_rangeFunc fun fn _ => ?_
  generalize hB : w.heap.size = B at *
  let rec' : LoopState → Option Code → Loop := fun st pe => { state := st, pending := pe, fn := fn, tmps := a.tmps, params := ps, assign := assign, body := body, defers := B }
  -- the two blocks of the loop
  let W1 : World := (w.alloc (.deferred (some []))).alloc (.loop (rec' .ready none))
  have hD1 : W1.heap[B]? = some (.deferred (some [])) := by
    show ((w.alloc (.deferred (some []))).alloc (.loop (rec' .ready none))).heap[B]? = _
    rw [Below.heap_alloc _ _ _ (by simp [hB]), ← hB]
    exact World.alloc_heap_new w _
  have hL1 : W1.heap[B + 1]? = some (.loop (rec' .ready none)) := by
    have := World.alloc_heap_new (w.alloc (.deferred (some []))) (.loop (rec' .ready none))
    rwa [World.size_alloc, hB] at this
  have ht1 : Turn (fun _ => False) w W1 := Turn.below (((Below.refl _ w).alloc (Nat.le_refl _) _).alloc (by simp) _)
  have hk1 : Kp w0 W1 := hKt hk0 (hKb w W1 (fun k o hk ho => by
    have := (Array.getElem?_eq_some_iff.1 ho).1
    omega) (ht1.wide fun _ _ h => h.elim))
  -- what lies between two rounds, with the loop's record
  let J : List α → World → Prop := fun xs W => I xs W ∧ W.heap[B]? = some (.deferred (some [])) ∧ W.heap[B + 1]? = some (.loop (rec' .ready none))
  let Jx : List α → World → Prop := fun xs W => ∃ c, Ix c xs W ∧ W.heap[B]? = some (.deferred (some [])) ∧ W.heap[B + 1]? = some (.loop (rec' .done (some c)))
  have hfar : ∀ (A A' : World) (k : Nat) (o : Obj), k = B ∨ k = B + 1 → Turn Si A A' → A.heap[k]? = some o → A'.heap[k]? = some o := fun A A' k o hk t h =>
    (t.block k (Array.getElem?_eq_some_iff.1 h).1 (fun e => by have := hSi k e; omega)).trans h
  have hput : ∀ (xs : List α) (A : World) (o : Obj), Turn (fun k => k = B ∨ k = B + 1) A (A.putObj (B + 1) o) := fun _ A o => Turn.put A (B + 1) o (.inr rfl)
  refine ⟨B + 1, [{ target := .collected B, args := #[] }], W1, { target := .fn (.func gf) lb, args := #[.func (.yield (B + 1)) #[] #[]] }, W1, gf,
    #[.func (.yield (B + 1)) #[] #[]] ++ lb, W1, ?_, ?_, fun _ _ => trivial, ?_, fun h => by simp [Fence.wide] at h, ?_⟩
  · have := run_enterLoop_outer (P := P) (w := w) fn a.tmps ps assign body
    rw [hB] at this
    exact this
  · simp only [resolve, hg]
    simp [go_sem]
  · simp [invoke, go_sem, eg]
  · refine (hseq (B + 1) J Jx W1 hk1 (fun xs A A' h t => ⟨hI xs A A' h.1 (t.wide fun _ _ e => .inl e), hfar _ _ _ _ (.inl rfl) t h.2.1, hfar _ _ _ _ (.inr rfl) t h.2.2⟩)
      (fun xs A A' ⟨c, h⟩ t => ⟨c, hIx c xs A A' h.1 (t.wide fun _ _ e => .inl e), hfar _ _ _ _ (.inl rfl) t h.2.1, hfar _ _ _ _ (.inr rfl) t h.2.2⟩) ?_
      ⟨hI [] w W1 h0 (ht1.wide fun _ _ h => h.elim), hD1, hL1⟩).mono ?_
    · rintro pre x W ⟨hi, hd, hl⟩ hx
      have hlt := (Array.getElem?_eq_some_iff.1 hl).1
      have hnc : ∀ k o, (k = B ∨ k = B + 1) → W.heap[k]? = some o → o.isCells = false := by
        rintro k o (rfl | rfl) ho
        · rw [hd] at ho; cases ho; rfl
        · rw [hl] at ho; cases ho; rfl
      have hy := run_yield (P := P) (args := encs x) hl (hps x)
      refine ⟨fn, _, assign, body, hy, roundIn_of_wpIn (F := Fence.wide) trivial (hassign (B + 1) pre x W _ hi hx hlt fun a1 W1 hi1 hk1' hz1 hs1 => ?_)⟩
      have hd := hs1.1.trans hd
      have hl := hs1.2.trans hl
      have hlt1 : B + 1 < W1.heap.size := Nat.lt_of_lt_of_le hlt hz1
      have hnc : ∀ k o, (k = B ∨ k = B + 1) → W1.heap[k]? = some o → o.isCells = false := by
        rintro k o (rfl | rfl) ho
        · rw [hd] at ho; cases ho; rfl
        · rw [hl] at ho; cases ho; rfl
      refine ⟨_, run_beginRound hl rfl, ?_⟩
      -- the record is busy while the body runs
      have hl2 : (W1.putObj (B + 1) (.loop { rec' .ready none with state := .busy })).heap[B + 1]? = some (.loop { rec' .ready none with state := .busy }) := World.putObj_heap_same hlt1
      have hd2 : (W1.putObj (B + 1) (.loop { rec' .ready none with state := .busy })).heap[B]? = some (.deferred (some [])) := (World.putObj_heap_other (by omega)).trans hd
      have hnc2 : ∀ k o, (k = B ∨ k = B + 1) → (W1.putObj (B + 1) (.loop { rec' .ready none with state := .busy })).heap[k]? = some o → o.isCells = false := by
        rintro k o (rfl | rfl) ho
        · rw [hd2] at ho; cases ho; rfl
        · rw [hl2] at ho; cases ho; rfl
      have hka := hKt hk1' (hKb _ _ hnc (hput pre W1 (.loop { rec' .ready none with state := .busy })))
      refine wpIn_mono (hbody (B + 1) pre x a1 _ (hI1 pre x a1 _ _ hi1 (hput pre W1 _)) hx (by simpa using hlt1) hnc2) ?_
      -- the round's end, however it was left
      have fin : ∀ (jump : Option Code) (W3 : World), (W3.heap[B]? = (W1.putObj (B + 1) (.loop { rec' .ready none with state := .busy })).heap[B]? ∧ W3.heap[B + 1]? = (W1.putObj (B + 1) (.loop { rec' .ready none with state := .busy })).heap[B + 1]?) →
          Kp (W1.putObj (B + 1) (.loop { rec' .ready none with state := .busy })) W3 →
          ∃ W4, (Instr.endRound (B + 1) jump).run P W3 = .ok (.bool jump.isNone) W4 ∧ Turn (fun k => k = B ∨ k = B + 1) W3 W4 ∧ Kp W W4 ∧ W4.heap[B]? = some (.deferred (some [])) ∧ W4.heap[B + 1]? = some (.loop (rec' (if jump.isNone then .ready else .done) jump)) := fun jump W3 he hk3 => by
        have hl3 := he.2.trans hl2
        have hd3 := he.1.trans hd2
        refine ⟨_, run_endRound jump hl3, hput pre W3 _, hKt hka (hKt hk3 (hKb _ _ ?_ (hput pre W3 _))), (World.putObj_heap_other (by omega)).trans hd3, World.putObj_heap_same (Array.getElem?_eq_some_iff.1 hl3).1⟩
        rintro k o (rfl | rfl) ho
        · rw [hd3] at ho; cases ho; rfl
        · rw [hl3] at ho; cases ho; rfl
      rintro e a3 W3 hp
      cases e with
      | normal =>
        obtain ⟨he, hk3, hi3⟩ := hp
        obtain ⟨W4, hr, ht, hk4, hd4, hl4⟩ := fin none W3 he hk3
        exact ⟨_, _, hr, .inl ⟨rfl, ⟨hI _ _ _ hi3 (ht.wide fun _ _ e => .inr e), hd4, hl4⟩, hk4⟩⟩
      | ret =>
        obtain ⟨he, hk3, hi3⟩ := hp
        obtain ⟨W4, hr, ht, hk4, hd4, hl4⟩ := fin (some .ret) W3 he hk3
        exact ⟨_, _, hr, .inr ⟨rfl, ⟨_, hIx _ _ _ _ hi3 (ht.wide fun _ _ e => .inr e), hd4, hl4⟩, hk4⟩⟩
      | exit id =>
        obtain ⟨he, hk3, hi3⟩ := hp
        obtain ⟨W4, hr, ht, hk4, hd4, hl4⟩ := fin (some (.exit id)) W3 he hk3
        exact ⟨_, _, hr, .inr ⟨rfl, ⟨_, hIx _ _ _ _ hi3 (ht.wide fun _ _ e => .inr e), hd4, hl4⟩, hk4⟩⟩
      | goto t =>
        obtain ⟨he, hk3, hi3⟩ := hp
        obtain ⟨W4, hr, ht, hk4, hd4, hl4⟩ := fin (some (.goto t)) W3 he hk3
        exact ⟨_, _, hr, .inr ⟨rfl, ⟨_, hIx _ _ _ _ hi3 (ht.wide fun _ _ e => .inr e), hd4, hl4⟩, hk4⟩⟩
      | panic ch => exact hp.elim
      | outgrown => exact hp.elim
    · rintro e W2 ⟨⟨v, rfl⟩, ⟨xs, hs, hi, hd, hl⟩ | ⟨pre, hs, c, hi, hd, hl⟩⟩
      · exact ⟨none, _, run_endLoop hl (by simp [rec']), hdone xs _ (hS _ _ _ hs (Turn.put _ _ _ rfl)) (hI _ _ _ hi ((hput xs _ _).wide fun _ _ e => .inr e)) ((World.putObj_heap_other (by omega)).trans hd)⟩
      · exact ⟨some c, _, run_endLoop hl (by simp [rec']), hstop c pre _ (hSp _ _ _ hs (Turn.put _ _ _ rfl)) (hIx c _ _ _ hi ((hput pre _ _).wide fun _ _ e => .inr e)) ((World.putObj_heap_other (by omega)).trans hd)⟩
end Go.Proofs.YtoichcickcgbgaaGreatDoor
