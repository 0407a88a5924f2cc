/-
  The document's Write.
-/
import Derived.Test.YtaccmeffcjfeeaaRr
import Derived.OwnWalk
namespace Go.Proofs.Ytaccmeffcjfeeaa
open Go.RowKit

/-- All but the document's own blocks is as it was. -/
structure Mv (w w' : World) (R : Nat) (vS vO : Value) : Prop where
  os : w'.os = w.os
  tape : w'.tape = w.tape
  output : w'.output = w.output
  size : w.heap.size ≤ w'.heap.size
  block : ∀ k, k < w.heap.size → k ≠ R → vS.ownBlock ≠ some k → vO.ownBlock ≠ some k → w'.heap[k]? = w.heap[k]?
theorem Mv.of {w w' : World} {R : Nat} (vS vO : Value) (h : w.grownBy w' (some R)) : Mv w w' R vS vO := ⟨h.os, h.tape, h.output, h.size, fun k hk hR _ _ => h.block k hk (fun e => hR (Option.some.inj e))⟩
theorem Mv.trans {a b c : World} {R : Nat} {vS vO : Value} (h : Mv a b R vS vO) (k : Mv b c R vS vO) : Mv a c R vS vO :=
  ⟨k.os.trans h.os, k.tape.trans h.tape, k.output.trans h.output, Nat.le_trans h.size k.size, fun j hj h1 h2 h3 => (k.block j (Nat.lt_of_lt_of_le hj h.size) h1 h2 h3).trans (h.block j hj h1 h2 h3)⟩

theorem info67m : (Try.prog.info? 67).map (fun i => (i.zero.map fun z => (z.cells.size), i.size, i.bytes)) = some (some 2, 2, 24) := by kernel_rfl
theorem info67 : ∃ i z, Try.prog.info? 67 = some i ∧ i.zero = some z ∧ i.size = 2 ∧ i.bytes = 24 ∧ z.cells.size = 2 := by
  have h := info67m
  cases hi : Try.prog.info? 67 with
  | none => simp [hi] at h
  | some i =>
    cases hz : i.zero with
    | none => simp [hi, hz] at h
    | some z =>
      simp [hi, hz] at h
      exact ⟨i, z, rfl, hz, h.2.1, h.2.2, h.1⟩
theorem wpList_putO {w : World} {ops : Array Oper} {rest : List Oper} {o : Oper} {a : Act} {Q : Exit → Act → World → Prop} (hgd : o.guard = none) (s x : Operand)
    (ho : o.op = .call { callee := .builtin .append, args := #[s, x], argTypes := #[51, 51] }) (B : Nat) (v : Value) (O : List (Nat × List UInt8)) (hs : a.eval s = v) (hown : Ro w B v O)
    (g : Nat) (k : Nat) (t : ByteArray) (hx : a.eval x = .slice (some ⟨g, 0, none⟩) 1 1) (hg : w.heap[g]? = some (.cells #[.int .i64 (k : Int), .string t] 67 (0, 0))) (hn : O.length ≤ 100000) (hbase : B ≤ w.heap.size)
    (h : ∀ v' w', Ro w' B v' (O ++ [(k, t.data.toList)]) → w.grownBy w' v.ownBlock → wpList Try.prog ops Q rest (a.put o.dst v') w') : wpList Try.prog ops Q (o :: rest) a w := by
  obtain ⟨i, z, hi, hz0, hz1, hz2, hz3⟩ := info67
  have hnew : ∀ (j : Nat) (u : Value), (pc (k, t.data.toList))[j]? = some u → w.cell? ((⟨g, 0, none⟩ : Addr).add j) = some u := by
    intro j u hj
    rw [add_plain]
    unfold pc sc at hj
    rcases j with _ | _ | j
    all_goals simp at hj
    all_goals
      subst hj
      simp [World.cell?, hg]
  refine wpList_append_own w hgd s x 51 ho B 67 i z 2 24 Try.underlying51 hi hz0 hz1 hz2 hz3 (by decide) v O.length (O.flatMap pc) hs hown ⟨g, 0, none⟩ 1 1 (pc (k, t.data.toList)) hx rfl hnew (by intro u hu; unfold pc sc at hu; simp at hu; rcases hu with rfl | rfl <;> rfl) (by unfold maxLen; omega) (by omega) hbase (fun v' w' h1 h2 _ => h v' w' ?_ h2)
  unfold Ro
  rw [List.length_append, List.flatMap_append]
  have e : ([(k, t.data.toList)] : List (Nat × List UInt8)).flatMap pc = pc (k, t.data.toList) := by simp
  rw [e]
  exact h1
section
variable {w w2 : World} {R : Nat} {S : List (List UInt8)} {O O' : List (Nat × List UInt8)} {vS vO vO' : Value} {f c : Int}
theorem Rk.apart (h : Rk w R S O vS vO f c) : Apart vS.ownBlock vO.ownBlock := by
  obtain ⟨a, cp, hv⟩ := row_len h.rs
  have hr := h.rs
  unfold Rs at hr
  rw [hv] at hr
  have := apart_types hr h.ro (by decide) rfl
  rw [hv]
  intro g hg
  exact this g ((own_slice a 0 0 _ _).trans hg)
theorem Rk.put (h : Rk w R S O vS vO f c) {wa w3 : World} (ha : Below w.heap.size w wa) (hg : wa.grownBy w3 vO.ownBlock) (hr : Ro w3 (R + 1) vO' O') :
    Rk (w3.setCell ⟨R, 1, none⟩ vO') R S O' vS vO' f c ∧ Mv w (w3.setCell ⟨R, 1, none⟩ vO') R vS vO := by
  have hl := h.lt
  have hlo : ∀ g, vO.ownBlock = some g → R + 1 ≤ g := fun g hg => (World.ownsRow.lt h.ro g hg).1
  have hb3 : w3.heap[R]? = some (.cells #[vS, vO, .int .i64 f, .int .i64 c] 53 (0, 0)) :=
    (hg.block R (Nat.lt_of_lt_of_le hl ha.size) (fun e => by have := hlo R e.symm; omega)).trans ((ha.block R hl).trans h.box)
  refine ⟨⟨by rw [heap_setCell_same w3 R 1 _ 53 _ hb3]; rfl, ?_, ?_⟩, ?_⟩
  · refine row_keep h.rs fun g hgs hgl => ?_
    have h1 := (World.ownsRow.lt h.rs g hgs).1
    rw [heap_setCell_other _ _ _ _ (by show g ≠ R; omega), hg.block g (Nat.lt_of_lt_of_le hgl ha.size) (fun e => h.apart g hgs e.symm), ha.block g hgl]
  · refine row_keep hr fun g hgo _ => ?_
    have h1 := (World.ownsRow.lt hr g hgo).1
    exact heap_setCell_other _ _ _ _ (by show g ≠ R; omega)
  · refine ⟨hg.os.trans ha.os, hg.tape.trans ha.tape, hg.output.trans ha.output, by simp [World.setCell]; exact Nat.le_trans ha.size hg.size, fun k hk hR hS hO => ?_⟩
    rw [heap_setCell_other _ _ _ _ (by show k ≠ R; exact hR), hg.block k (Nat.lt_of_lt_of_le hk ha.size) (fun e => hO e.symm), ha.block k hk]

theorem rwrite_bad (h : Rk w R S O vS vO f c) (k : Int) (x : ByteArray) (hk : ¬ (0 ≤ k ∧ k < S.length) ∨ (0 ≤ k ∧ k < S.length) ∧ x.size ≠ 64) :
    Calls Try.prog 23 #[.pointer (some ⟨R, 0, none⟩), .int .i64 k, .string x] w fun e w' => e = .returned (.int .i64 1) ∧ w = w' := by
  obtain ⟨a, cp, hv⟩ := row_len h.rs
  have c0 := h.c0
  rw [hv] at c0
  clear hv
  generalize S.length = n at *
  have hd : k < 0 ∨ 0 ≤ k ∧ (n : Int) ≤ k ∨ (0 ≤ k ∧ k < n) ∧ x.size ≠ 64 := by omega
  clear hk
  rcases hd with hd | ⟨hd, hd2⟩ | ⟨⟨hd, hd2⟩, hd3⟩
  · go_enter Try.func23, Try.ntmps23
    go_wp2
    go_ret
    exact ⟨rfl, rfl⟩
  · go_enter Try.func23, Try.ntmps23
    go_wp2
    go_ret
    exact ⟨rfl, rfl⟩
  · have hx1 : ((x.size : Int) == 64) = false := by rw [beq_eq_false_iff_ne]; omega
    have hx2 : ((x.size : Int) != 64) = true := by simp only [bne, hx1]; rfl
    clear hx1
    go_enter Try.func23, Try.ntmps23
    go_wp2
    go_ret
    exact ⟨rfl, rfl⟩
theorem rwrite_fail (h : Rk w R S O vS vO f c) (k : Nat) (hk : k < S.length) (x : ByteArray) (hx : x.size = 64) (hf0 : 0 ≤ f) (hf1 : f ≤ 9223372036854775807) (f' : Int) (hf : failS f = (true, f')) :
    Calls Try.prog 23 #[.pointer (some ⟨R, 0, none⟩), .int .i64 k, .string x] w fun e w' => e = .returned (.int .i64 18) ∧ Rk w' R S O vS vO f' c ∧ Mv w w' R vS vO := by
  obtain ⟨a, cp, hv⟩ := row_len h.rs
  have c0 := h.c0
  rw [hv] at c0
  have HF := Lib.hid (rfails h hf0 hf1 true f' hf)
  have hk1 : (k : Int) < (S.length : Int) := by omega
  clear hf hv
  generalize S.length = n at *
  go_enter Try.func23, Try.ntmps23
  go_wp2_with fail
  refine HF.out.mono ?_
  rintro e w2 ⟨rfl, h2, hg2⟩
  go_wp2_with fail
  go_ret
  exact ⟨rfl, h2, Mv.of _ _ hg2⟩
theorem rwrite_ok (h : Rk w R S O vS vO f c) (hm : O.length ≤ 1000) (k : Nat) (hk : k < S.length) (x : ByteArray) (hx : x.size = 64) (hf0 : 0 ≤ f) (hf1 : f ≤ 9223372036854775807) (f' : Int) (hf : failS f = (false, f')) :
    Calls Try.prog 23 #[.pointer (some ⟨R, 0, none⟩), .int .i64 k, .string x] w fun e w' => e = .returned (.int .i64 0) ∧ ∃ vO', Rk w' R S (O ++ [(k, x.data.toList)]) vS vO' f' c ∧ Mv w w' R vS vO := by
  obtain ⟨a, cp, hv⟩ := row_len h.rs
  have c0 := h.c0
  rw [hv] at c0
  have HF := Lib.hid (rfails h hf0 hf1 false f' hf)
  have hk1 : (k : Int) < (S.length : Int) := by omega
  have HV := Lib.hid hv
  clear hf hv
  go_enter Try.func23, Try.ntmps23
  go_wp2_with fail
  refine HF.out.mono ?_
  rintro e w2 ⟨rfl, h2, hg2⟩
  have d1 := h2.c1
  have dz := h2.fr 1
  have hl2 := h2.lt
  have hlo : ∀ g, vO.ownBlock = some g → R + 1 ≤ g := fun g hg => (World.ownsRow.lt h2.ro g hg).1
  have ha := (Below.refl w2.heap.size w2).alloc (Nat.le_refl _) (Obj.cells #[.int .i64 (k : Int), .string x] 67)
  go_wp2_with (refine wpList_putO rfl (.tmp 31) (.tmp 35) rfl (R + 1) vO O rfl (World.ownsRow.alloc h2.ro (Obj.cells #[.int .i64 (k : Int), .string x] 67)) w2.heap.size k x rfl (heap_alloc_new _ _) (by omega) (by simp; omega) ?_)
  intro v' w3 hr3 hg3
  obtain ⟨a3, c3, hv3⟩ := row_len hr3
  subst hv3
  have hp := h2.put ha hg3 hr3
  have e1 : w3.cell? ⟨R, 1, none⟩ = some vO := hg3.cell ((ha.cell (p := ⟨R, 1, none⟩) (by simpa using hl2)).trans d1) (fun e => by have := hlo R e.symm; omega)
  have e2 : w3.frozen? ⟨R, 1, none⟩ = false := (World.frozen?_of_block (hg3.block R (by simp; omega) (fun e => by have := hlo R e.symm; omega))).trans ((World.frozen?_of_block (ha.block R hl2)).trans dz)
  clear hr3 hg3 ha d1 dz
  generalize (O ++ [(k, x.data.toList)]).length = q at *
  go_wp2_with fail
  go_ret
  exact ⟨rfl, _, hp.1, (Mv.of _ _ hg2).trans hp.2⟩
end
end Go.Proofs.Ytaccmeffcjfeeaa
