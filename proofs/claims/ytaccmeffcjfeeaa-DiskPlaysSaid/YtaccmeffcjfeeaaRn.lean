/-
  The document's New. (Printed by mkrn.py.)
-/
import Derived.Test.YtaccmeffcjfeeaaRf
namespace Go.Proofs.Ytaccmeffcjfeeaa
open Go.RowKit

theorem info9 : (Try.prog.info? 9).map (fun i => (i.zero, i.size, i.bytes)) = some (some (.string ⟨#[]⟩), 1, 16) := by kernel_rfl
theorem wp_make_bytes (w : World) {ops : Array Oper} {o : Oper} {a : Act} {K : Act → World → Prop} {Q : Exit → Act → World → Prop} {E : Prop}
    (hg : o.guard = none) (hop : o.op = Op.makeSlice 60 (Operand.const (Value.int IntKind.i64 64)) (Operand.const (Value.int IntKind.i64 64)))
    (hK : K (a.put o.dst (.slice (some ⟨w.heap.size, 0, none⟩) 64 64)) (w.alloc (.cells (bc (List.replicate 64 0)).toArray 5))) :
    if Region.wanted o (yielded ops a.tmps) = true then Oper.wp Try.prog o a w K Q else E := by
  have hw : Region.wanted o (yielded ops a.tmps) = true := by simp [Region.wanted, hg]
  rw [if_pos hw]
  obtain ⟨i0, hi, hz0, hz1, hz2⟩ := info_parts info5
  have hrun := run_make (P := Try.prog) w 60 5 i0 (.int .u8 0) Try.underlying60 hi hz0 .i64 .i64 (64 : Int) (64 : Int) (by omega) (Int.le_refl _) (by rw [hz2]; omega) (by omega)
  rw [hz1] at hrun
  simp only [Value.cells] at hrun
  rw [show (64 : Int).toNat = 64 from rfl, Nat.mul_one, made_bytes] at hrun
  unfold Oper.wp
  simp [execOp, hop, Act.eval, hrun, Result.andThen]
  exact hK
theorem zs_succ (k : Nat) : (zs (k + 1)).map sc = (zs k).map sc ++ [.string ⟨(List.replicate 64 (0 : UInt8)).toArray⟩] := by
  unfold zs
  rw [List.replicate_succ', List.map_append]
  rfl
/-- One sector more. -/
theorem Rk.push {w w2 : World} {R k : Nat} {vS : Value} (h : Rk w R (zs k) [] vS (.slice none 0 0) 0 0) (hb : Below w.heap.size w w2) (v' : Value) (w3 : World)
    (hown : w3.ownsRow (R + 1) 9 1 v' (k + 1) ((zs k).map sc ++ [.string ⟨(List.replicate 64 (0 : UInt8)).toArray⟩])) (hg : w2.grownBy w3 vS.ownBlock) :
    Rk (w3.setCell ⟨R, 0, none⟩ v') R (zs (k + 1)) [] v' (.slice none 0 0) 0 0 ∧ (∀ B a, B ≤ R → B ≤ w.heap.size → Below B a w → Below B a (w3.setCell ⟨R, 0, none⟩ v')) ∧ w3.cell? ⟨R, 0, none⟩ = some vS ∧ w3.frozen? ⟨R, 0, none⟩ = false := by
  have hl := h.lt
  have hlo : ∀ g, vS.ownBlock = some g → R + 1 ≤ g := fun g hg => (World.ownsRow.lt h.rs g hg).1
  have hb3 : w3.heap[R]? = some (.cells #[vS, .slice none 0 0, .int .i64 0, .int .i64 0] 53 (0, 0)) :=
    (hg.block R (Nat.lt_of_lt_of_le hl hb.size) (fun e => by have := hlo R e.symm; omega)).trans ((hb.block R hl).trans h.box)
  refine ⟨⟨by rw [heap_setCell_same w3 R 0 _ 53 _ hb3]; rfl, ?_, World.ownsRow_nil _ _ _ _⟩, fun B a hB hB2 hba => ?_, cellAt hb3 0 rfl, freeAt hb3 0⟩
  · unfold Rs
    rw [zs_succ, show (zs (k + 1)).length = k + 1 by simp [zs]]
    refine row_keep hown fun g hgo _ => ?_
    have h1 := (World.ownsRow.lt hown g hgo).1
    exact heap_setCell_other _ _ _ _ (by show g ≠ R; omega)
  · have h2 : Below B a w2 := hba.trans (hb.mono hB2)
    have h3 : Below B a w3 := below_grown h2 hg (fun g hg => by have := hlo g hg; omega) (by have := hb.size; omega)
    exact h3.setCell (by show B ≤ R; exact hB) _

set_option maxRecDepth 100000 in
set_option maxHeartbeats 2000000 in
theorem rnew (n : Nat) (hn : n ≤ 1000) (w : World) :
    Calls Try.prog 18 #[.int .i64 n] w fun e w' => e = .returned (.pointer (some ⟨w.heap.size, 0, none⟩)) ∧ (∃ vS, Rk w' w.heap.size (zs n) [] vS (.slice none 0 0) 0 0) ∧ Below w.heap.size w w' := by
  have h0 : Rk (w.alloc (.cells #[.slice none 0 0, .slice none 0 0, .int .i64 0, .int .i64 0] 53)) w.heap.size (zs 0) [] (.slice none 0 0) (.slice none 0 0) 0 0 := ⟨heap_alloc_new _ _, World.ownsRow_nil _ _ _ _, World.ownsRow_nil _ _ _ _⟩
  have hb0 := (Below.refl w.heap.size w).alloc (Nat.le_refl _) (Obj.cells #[.slice none 0 0, .slice none 0 0, .int .i64 0, .int .i64 0] 53)
  go_enter Try.func18, Try.ntmps18
  go_wp2
  go_loopw [4] (fun i wr => ∃ k : Nat, k ≤ n ∧ i = .int .i64 k ∧ ∃ vS, Rk wr w.heap.size (zs k) [] vS (.slice none 0 0) 0 0 ∧ Below w.heap.size w wr) (fun i _ => n - (intOf i).toNat)
  case atStart => exact ⟨0, by omega, rfl, _, h0, hb0⟩
  case round =>
    clear h0 hb0
    obtain ⟨k, hk, rfl, vS, hr, hbr⟩ := hrel
    by_cases hlt : k < n
    · obtain ⟨i9, hi, hz0, hz1, hz2⟩ := info_parts info9
      have hV : Rk wr.drew w.heap.size (zs k) [] vS (.slice none 0 0) 0 0 := hr.keep fun _ _ _ => rfl
      have hbV : Below w.heap.size w wr.drew := hbr.drew
      obtain ⟨aS, cS, hvs⟩ := row_len hV.rs
      subst hvs
      go_wp2_with fail
      obtain ⟨V, hVe⟩ : ∃ V, wr.drew = V := ⟨_, rfl⟩
      refine wp_region_any (by kernel_rfl) ?_
      change wpAny _ _ _ _ _ _ _ wr.drew
      rw [hVe] at hV hbV ⊢
      clear hVe hr hbr
      obtain ⟨H, hH⟩ : ∃ H, V.heap.size = H := ⟨_, rfl⟩
      obtain ⟨Z, hZ⟩ : ∃ Z : ByteArray, ⟨(List.replicate 64 (0 : UInt8)).toArray⟩ = Z := ⟨_, rfl⟩
      obtain ⟨V1, hV1⟩ : ∃ V1, V.alloc (.cells (bc (List.replicate 64 0)).toArray 5) = V1 := ⟨_, rfl⟩
      obtain ⟨V2, hV2⟩ : ∃ V2, V1.alloc (.cells #[.string Z] 9) = V2 := ⟨_, rfl⟩
      have hb1 : Below V.heap.size V V1 := by rw [← hV1]; exact (Below.refl _ _).alloc (Nat.le_refl _) _
      have hs1 : V1.heap.size = H + 1 := by rw [← hV1, ← hH]; simp
      have hb2 : Below V.heap.size V V2 := by rw [← hV2]; exact hb1.alloc hb1.size _
      have hs2 : V2.heap.size = H + 2 := by rw [← hV2]; simp [hs1]
      have hBy : By V1 H (List.replicate 64 0) := by rw [← hV1, ← hH]; exact ⟨5, heap_alloc_new _ _⟩
      have hcv := hBy.conv 64 64 (by simp)
      rw [hZ] at hcv
      have c0 := hV.c0
      have c1 := (hV.below hb1).c0
      have c2 := (hV.below hb2).c0
      have HOWN : Hid (V2.ownsRow (w.heap.size + 1) 9 1 (.slice aS (zs k).length cS) k ((zs k).map sc)) := by
        have h9 := (hV.below hb2).rs
        unfold Rs at h9
        rw [show (zs k).length = k by simp [zs]] at h9 ⊢
        exact h9
      have hnew2 : V2.heap[H + 1]? = some (.cells #[.string Z] 9 (0, 0)) := by rw [← hV2, ← hs1]; exact heap_alloc_new _ _
      have HNEW : Hid (∀ (j : Nat) (u : Value), [Value.string Z][j]? = some u → V2.cell? ((⟨H + 1, 0, none⟩ : Addr).add j) = some u) := by
        show ∀ (j : Nat) (u : Value), _ → _
        intro j u hj
        rcases j with _ | j
        · simp at hj
          subst hj
          simp [Addr.add, World.cell?, hnew2]
        · simp at hj
      have hwl : w.heap.size < V.heap.size := hV.lt
      have HBASE : Hid (w.heap.size + 1 ≤ V2.heap.size) := by show _ ≤ _; omega
      have HPUSH : Hid (∀ (v' : Value) (w3 : World), w3.ownsRow (w.heap.size + 1) 9 1 v' (k + 1) ((zs k).map sc ++ [.string Z]) → V2.grownBy w3 (Value.slice aS (zs k).length cS).ownBlock →
          Rk (w3.setCell ⟨w.heap.size, 0, none⟩ v') w.heap.size (zs (k + 1)) [] v' (.slice none 0 0) 0 0 ∧ Below w.heap.size w (w3.setCell ⟨w.heap.size, 0, none⟩ v') ∧ w3.cell? ⟨w.heap.size, 0, none⟩ = some (.slice aS (zs k).length cS) ∧ w3.frozen? ⟨w.heap.size, 0, none⟩ = false) := by
        show ∀ (v' : Value) (w3 : World), _ → _ → _
        intro v' w3 ho hg
        rw [← hZ] at ho
        obtain ⟨p1, p2, p3, p4⟩ := hV.push hb2 v' w3 ho hg
        exact ⟨p1, p2 w.heap.size w (Nat.le_refl _) (by omega) hbV, p3, p4⟩
      clear hnew2 hBy hb1 hb2 hV hbV
      refine wpAny_take (i := 0) (v := Value.pointer (some ⟨w.heap.size, 0, none⟩)) rfl (by kernel_rfl) (by kernel_rfl) (by kernel_rfl) (fun _ _ _ h => h) (Or.inl ⟨by rfl, fun w => by go_simp⟩) ?_
      simp only [Act.put, List.setIfInBounds_toArray]
      refine wpAny_take (i := 1) (v := Value.pointer (some ⟨w.heap.size, 0, none⟩)) rfl (by kernel_rfl) (by kernel_rfl) (by kernel_rfl) (fun _ _ _ h => h) (Or.inl ⟨by rfl, fun w => by go_simp⟩) ?_
      simp only [Act.put]
      refine wpAny_take (i := 2) (v := Value.pointer (some ⟨w.heap.size, 0, none⟩)) rfl (by kernel_rfl) (by kernel_rfl) (by kernel_rfl) (fun _ _ _ h => h) (Or.inl ⟨by rfl, fun w => by go_simp⟩) ?_
      simp only [Act.put]
      refine wpAny_take (i := 3) (v := Value.pointer (some ⟨w.heap.size, 0, none⟩)) rfl (by kernel_rfl) (by kernel_rfl) (by kernel_rfl) (fun _ _ _ h => h) (Or.inl ⟨by rfl, fun w => by go_simp⟩) ?_
      simp only [Act.put]
      refine wpAny_ready (rs := [4, 5]) (by kernel_rfl) (by simp) ?_
      refine AllReady.cons (o := { dst := some 16, op := Op.load 50 (Operand.tmp 15), type := 50, pos := "ref.go:24", after := #[{ on := 3, ground := Ground.data }], guard := none }) rfl (fun K hK => ?_) (AllReady.cons (o := { dst := some 17, op := Op.makeSlice 60 (Operand.const (Value.int IntKind.i64 64)) (Operand.const (Value.int IntKind.i64 64)), type := 60, pos := "ref.go:24", after := #[], guard := none }) rfl (fun K hK => ?_) AllReady.nil)
      · go_simp
        refine hK _ _ ?_
        clear hK K
        try simp only [Act.put, List.setIfInBounds_toArray, List.set_cons_zero, List.set_cons_succ]
        refine wpAny_ready (rs := [5]) (by kernel_rfl) (by simp) ?_
        refine AllReady.cons (o := { dst := some 17, op := Op.makeSlice 60 (Operand.const (Value.int IntKind.i64 64)) (Operand.const (Value.int IntKind.i64 64)), type := 60, pos := "ref.go:24", after := #[], guard := none }) rfl (fun K hK => ?_) AllReady.nil
        refine wp_make_bytes V rfl rfl ?_
        rw [hV1, hH]
        refine hK _ _ ?_
        clear hK K
        try simp only [Act.put, List.setIfInBounds_toArray, List.set_cons_zero, List.set_cons_succ]
        refine wpAny_ready (rs := [6]) (by kernel_rfl) (by simp) ?_
        refine AllReady.cons (o := { dst := some 18, op := Op.convert 60 9 (Operand.tmp 17), type := 9, pos := "ref.go:24", after := #[{ on := 5, ground := Ground.data }], guard := none }) rfl (fun K hK => ?_) AllReady.nil
        go_simp
        refine hK _ _ ?_
        clear hK K
        try simp only [Act.put, List.setIfInBounds_toArray, List.set_cons_zero, List.set_cons_succ]
        refine wpAny_ready (rs := [7]) (by kernel_rfl) (by simp) ?_
        refine AllReady.cons (o := { dst := some 19, op := Op.buildSlice 50 1 #[(0, Operand.tmp 18)], type := 50, pos := "ref.go:24", after := #[{ on := 6, ground := Ground.data }], guard := none }) rfl (fun K hK => ?_) AllReady.nil
        go_simp
        try rw [hV2]
        try rw [hs1]
        refine hK _ _ ?_
        clear hK K
        try simp only [Act.put, List.setIfInBounds_toArray, List.set_cons_zero, List.set_cons_succ]
        refine wpAny_ready (rs := [8]) (by kernel_rfl) (by simp) ?_
        refine AllReady.cons (o := { dst := some 20, op := Op.call { callee := Callee.builtin Builtin.append, args := #[Operand.tmp 16, Operand.tmp 19], argTypes := #[50, 50] }, type := 50, pos := "ref.go:24", after := #[{ on := 4, ground := Ground.data }, { on := 7, ground := Ground.data }], guard := none }) rfl (fun K hK => ?_) AllReady.nil
        refine step_append_lies V2 rfl (.tmp 16) (.tmp 19) 50 rfl (w.heap.size + 1) 9 i9 (.string ⟨#[]⟩) 1 16 Try.underlying50 hi hz0 hz1 hz2 rfl (by omega) _ k ((zs k).map sc) rfl HOWN.out ⟨H + 1, 0, none⟩ 1 1 [.string Z] rfl rfl HNEW.out (by intro u hu; simp at hu; subst hu; rfl) (by omega) (by unfold maxLen; omega) (by omega) HBASE.out _ rfl ?_
        intro g cap' w3 hown3 hgrow hat hlt3
        refine hK _ _ ?_
        clear hK K
        try simp only [Act.put, List.setIfInBounds_toArray, List.set_cons_zero, List.set_cons_succ]
        obtain ⟨hRN, hMN, e1, e2⟩ := HPUSH.out _ _ hown3 hgrow
        refine wpAny_take (i := 9) (v := Value.pointer (some ⟨w.heap.size, 0, none⟩)) rfl (by kernel_rfl) (by kernel_rfl) (by kernel_rfl) (fun _ _ _ h => h) (Or.inl ⟨by rfl, fun w => by go_simp⟩) ?_
        try simp only [Act.put, List.setIfInBounds_toArray]
        refine wpAny_take (i := 10) (v := Value.pointer (some ⟨w.heap.size, 0, none⟩)) rfl (by kernel_rfl) (by kernel_rfl) (by kernel_rfl) (fun _ _ _ h => h) (Or.inl ⟨by rfl, fun w => by go_simp⟩) ?_
        try simp only [Act.put]
        refine wpAny_ready (rs := [11]) (by kernel_rfl) (by simp) ?_
        refine AllReady.cons (o := { dst := none, op := Op.store 50 (Operand.tmp 22) (Operand.tmp 20), type := 0, pos := "ref.go:24", after := #[{ on := 10, ground := Ground.data }, { on := 8, ground := Ground.data }, { on := 8, ground := Ground.chain }, { on := 0, ground := Ground.phase }, { on := 1, ground := Ground.phase }, { on := 2, ground := Ground.phase }, { on := 3, ground := Ground.phase }, { on := 4, ground := Ground.phase }, { on := 5, ground := Ground.phase }, { on := 6, ground := Ground.phase }, { on := 7, ground := Ground.phase }, { on := 8, ground := Ground.phase }], guard := none }) rfl (fun K hK => ?_) AllReady.nil
        go_simp
        refine hK _ _ ?_
        clear hK K
        try simp only [Act.put, List.setIfInBounds_toArray, List.set_cons_zero, List.set_cons_succ]
        refine wpAny_done (by kernel_rfl) ?_ _
        clear hown3 e1 e2 hlt3 hgrow hat
        go_wp2
        go_roundw
        case rel => exact ⟨k + 1, by omega, by go_num, _, hRN, hMN⟩
        case measure => simp [intOf]; omega
      · refine wp_make_bytes V rfl rfl ?_
        rw [hV1, hH]
        refine hK _ _ ?_
        clear hK K
        try simp only [Act.put]
        refine wpAny_ready (rs := [4, 6]) (by kernel_rfl) (by simp) ?_
        refine AllReady.cons (o := { dst := some 16, op := Op.load 50 (Operand.tmp 15), type := 50, pos := "ref.go:24", after := #[{ on := 3, ground := Ground.data }], guard := none }) rfl (fun K hK => ?_) (AllReady.cons (o := { dst := some 18, op := Op.convert 60 9 (Operand.tmp 17), type := 9, pos := "ref.go:24", after := #[{ on := 5, ground := Ground.data }], guard := none }) rfl (fun K hK => ?_) AllReady.nil)
        · go_simp
          refine hK _ _ ?_
          clear hK K
          try simp only [Act.put, List.setIfInBounds_toArray, List.set_cons_zero, List.set_cons_succ]
          refine wpAny_ready (rs := [6]) (by kernel_rfl) (by simp) ?_
          refine AllReady.cons (o := { dst := some 18, op := Op.convert 60 9 (Operand.tmp 17), type := 9, pos := "ref.go:24", after := #[{ on := 5, ground := Ground.data }], guard := none }) rfl (fun K hK => ?_) AllReady.nil
          go_simp
          refine hK _ _ ?_
          clear hK K
          try simp only [Act.put, List.setIfInBounds_toArray, List.set_cons_zero, List.set_cons_succ]
          refine wpAny_ready (rs := [7]) (by kernel_rfl) (by simp) ?_
          refine AllReady.cons (o := { dst := some 19, op := Op.buildSlice 50 1 #[(0, Operand.tmp 18)], type := 50, pos := "ref.go:24", after := #[{ on := 6, ground := Ground.data }], guard := none }) rfl (fun K hK => ?_) AllReady.nil
          go_simp
          try rw [hV2]
          try rw [hs1]
          refine hK _ _ ?_
          clear hK K
          try simp only [Act.put, List.setIfInBounds_toArray, List.set_cons_zero, List.set_cons_succ]
          refine wpAny_ready (rs := [8]) (by kernel_rfl) (by simp) ?_
          refine AllReady.cons (o := { dst := some 20, op := Op.call { callee := Callee.builtin Builtin.append, args := #[Operand.tmp 16, Operand.tmp 19], argTypes := #[50, 50] }, type := 50, pos := "ref.go:24", after := #[{ on := 4, ground := Ground.data }, { on := 7, ground := Ground.data }], guard := none }) rfl (fun K hK => ?_) AllReady.nil
          refine step_append_lies V2 rfl (.tmp 16) (.tmp 19) 50 rfl (w.heap.size + 1) 9 i9 (.string ⟨#[]⟩) 1 16 Try.underlying50 hi hz0 hz1 hz2 rfl (by omega) _ k ((zs k).map sc) rfl HOWN.out ⟨H + 1, 0, none⟩ 1 1 [.string Z] rfl rfl HNEW.out (by intro u hu; simp at hu; subst hu; rfl) (by omega) (by unfold maxLen; omega) (by omega) HBASE.out _ rfl ?_
          intro g cap' w3 hown3 hgrow hat hlt3
          refine hK _ _ ?_
          clear hK K
          try simp only [Act.put, List.setIfInBounds_toArray, List.set_cons_zero, List.set_cons_succ]
          obtain ⟨hRN, hMN, e1, e2⟩ := HPUSH.out _ _ hown3 hgrow
          refine wpAny_take (i := 9) (v := Value.pointer (some ⟨w.heap.size, 0, none⟩)) rfl (by kernel_rfl) (by kernel_rfl) (by kernel_rfl) (fun _ _ _ h => h) (Or.inl ⟨by rfl, fun w => by go_simp⟩) ?_
          try simp only [Act.put, List.setIfInBounds_toArray]
          refine wpAny_take (i := 10) (v := Value.pointer (some ⟨w.heap.size, 0, none⟩)) rfl (by kernel_rfl) (by kernel_rfl) (by kernel_rfl) (fun _ _ _ h => h) (Or.inl ⟨by rfl, fun w => by go_simp⟩) ?_
          try simp only [Act.put]
          refine wpAny_ready (rs := [11]) (by kernel_rfl) (by simp) ?_
          refine AllReady.cons (o := { dst := none, op := Op.store 50 (Operand.tmp 22) (Operand.tmp 20), type := 0, pos := "ref.go:24", after := #[{ on := 10, ground := Ground.data }, { on := 8, ground := Ground.data }, { on := 8, ground := Ground.chain }, { on := 0, ground := Ground.phase }, { on := 1, ground := Ground.phase }, { on := 2, ground := Ground.phase }, { on := 3, ground := Ground.phase }, { on := 4, ground := Ground.phase }, { on := 5, ground := Ground.phase }, { on := 6, ground := Ground.phase }, { on := 7, ground := Ground.phase }, { on := 8, ground := Ground.phase }], guard := none }) rfl (fun K hK => ?_) AllReady.nil
          go_simp
          refine hK _ _ ?_
          clear hK K
          try simp only [Act.put, List.setIfInBounds_toArray, List.set_cons_zero, List.set_cons_succ]
          refine wpAny_done (by kernel_rfl) ?_ _
          clear hown3 e1 e2 hlt3 hgrow hat
          go_wp2
          go_roundw
          case rel => exact ⟨k + 1, by omega, by go_num, _, hRN, hMN⟩
          case measure => simp [intOf]; omega
        · go_simp
          refine hK _ _ ?_
          clear hK K
          try simp only [Act.put, List.setIfInBounds_toArray, List.set_cons_zero, List.set_cons_succ]
          refine wpAny_ready (rs := [4, 7]) (by kernel_rfl) (by simp) ?_
          refine AllReady.cons (o := { dst := some 16, op := Op.load 50 (Operand.tmp 15), type := 50, pos := "ref.go:24", after := #[{ on := 3, ground := Ground.data }], guard := none }) rfl (fun K hK => ?_) (AllReady.cons (o := { dst := some 19, op := Op.buildSlice 50 1 #[(0, Operand.tmp 18)], type := 50, pos := "ref.go:24", after := #[{ on := 6, ground := Ground.data }], guard := none }) rfl (fun K hK => ?_) AllReady.nil)
          · go_simp
            refine hK _ _ ?_
            clear hK K
            try simp only [Act.put, List.setIfInBounds_toArray, List.set_cons_zero, List.set_cons_succ]
            refine wpAny_ready (rs := [7]) (by kernel_rfl) (by simp) ?_
            refine AllReady.cons (o := { dst := some 19, op := Op.buildSlice 50 1 #[(0, Operand.tmp 18)], type := 50, pos := "ref.go:24", after := #[{ on := 6, ground := Ground.data }], guard := none }) rfl (fun K hK => ?_) AllReady.nil
            go_simp
            try rw [hV2]
            try rw [hs1]
            refine hK _ _ ?_
            clear hK K
            try simp only [Act.put, List.setIfInBounds_toArray, List.set_cons_zero, List.set_cons_succ]
            refine wpAny_ready (rs := [8]) (by kernel_rfl) (by simp) ?_
            refine AllReady.cons (o := { dst := some 20, op := Op.call { callee := Callee.builtin Builtin.append, args := #[Operand.tmp 16, Operand.tmp 19], argTypes := #[50, 50] }, type := 50, pos := "ref.go:24", after := #[{ on := 4, ground := Ground.data }, { on := 7, ground := Ground.data }], guard := none }) rfl (fun K hK => ?_) AllReady.nil
            refine step_append_lies V2 rfl (.tmp 16) (.tmp 19) 50 rfl (w.heap.size + 1) 9 i9 (.string ⟨#[]⟩) 1 16 Try.underlying50 hi hz0 hz1 hz2 rfl (by omega) _ k ((zs k).map sc) rfl HOWN.out ⟨H + 1, 0, none⟩ 1 1 [.string Z] rfl rfl HNEW.out (by intro u hu; simp at hu; subst hu; rfl) (by omega) (by unfold maxLen; omega) (by omega) HBASE.out _ rfl ?_
            intro g cap' w3 hown3 hgrow hat hlt3
            refine hK _ _ ?_
            clear hK K
            try simp only [Act.put, List.setIfInBounds_toArray, List.set_cons_zero, List.set_cons_succ]
            obtain ⟨hRN, hMN, e1, e2⟩ := HPUSH.out _ _ hown3 hgrow
            refine wpAny_take (i := 9) (v := Value.pointer (some ⟨w.heap.size, 0, none⟩)) rfl (by kernel_rfl) (by kernel_rfl) (by kernel_rfl) (fun _ _ _ h => h) (Or.inl ⟨by rfl, fun w => by go_simp⟩) ?_
            try simp only [Act.put, List.setIfInBounds_toArray]
            refine wpAny_take (i := 10) (v := Value.pointer (some ⟨w.heap.size, 0, none⟩)) rfl (by kernel_rfl) (by kernel_rfl) (by kernel_rfl) (fun _ _ _ h => h) (Or.inl ⟨by rfl, fun w => by go_simp⟩) ?_
            try simp only [Act.put]
            refine wpAny_ready (rs := [11]) (by kernel_rfl) (by simp) ?_
            refine AllReady.cons (o := { dst := none, op := Op.store 50 (Operand.tmp 22) (Operand.tmp 20), type := 0, pos := "ref.go:24", after := #[{ on := 10, ground := Ground.data }, { on := 8, ground := Ground.data }, { on := 8, ground := Ground.chain }, { on := 0, ground := Ground.phase }, { on := 1, ground := Ground.phase }, { on := 2, ground := Ground.phase }, { on := 3, ground := Ground.phase }, { on := 4, ground := Ground.phase }, { on := 5, ground := Ground.phase }, { on := 6, ground := Ground.phase }, { on := 7, ground := Ground.phase }, { on := 8, ground := Ground.phase }], guard := none }) rfl (fun K hK => ?_) AllReady.nil
            go_simp
            refine hK _ _ ?_
            clear hK K
            try simp only [Act.put, List.setIfInBounds_toArray, List.set_cons_zero, List.set_cons_succ]
            refine wpAny_done (by kernel_rfl) ?_ _
            clear hown3 e1 e2 hlt3 hgrow hat
            go_wp2
            go_roundw
            case rel => exact ⟨k + 1, by omega, by go_num, _, hRN, hMN⟩
            case measure => simp [intOf]; omega
          · go_simp
            refine hK _ _ ?_
            clear hK K
            try simp only [Act.put, List.setIfInBounds_toArray, List.set_cons_zero, List.set_cons_succ]
            refine wpAny_ready (rs := [4]) (by kernel_rfl) (by simp) ?_
            refine AllReady.cons (o := { dst := some 16, op := Op.load 50 (Operand.tmp 15), type := 50, pos := "ref.go:24", after := #[{ on := 3, ground := Ground.data }], guard := none }) rfl (fun K hK => ?_) AllReady.nil
            go_simp
            refine hK _ _ ?_
            clear hK K
            try simp only [Act.put, List.setIfInBounds_toArray, List.set_cons_zero, List.set_cons_succ]
            refine wpAny_ready (rs := [8]) (by kernel_rfl) (by simp) ?_
            refine AllReady.cons (o := { dst := some 20, op := Op.call { callee := Callee.builtin Builtin.append, args := #[Operand.tmp 16, Operand.tmp 19], argTypes := #[50, 50] }, type := 50, pos := "ref.go:24", after := #[{ on := 4, ground := Ground.data }, { on := 7, ground := Ground.data }], guard := none }) rfl (fun K hK => ?_) AllReady.nil
            refine step_append_lies V2 rfl (.tmp 16) (.tmp 19) 50 rfl (w.heap.size + 1) 9 i9 (.string ⟨#[]⟩) 1 16 Try.underlying50 hi hz0 hz1 hz2 rfl (by omega) _ k ((zs k).map sc) rfl HOWN.out ⟨H + 1, 0, none⟩ 1 1 [.string Z] rfl rfl HNEW.out (by intro u hu; simp at hu; subst hu; rfl) (by omega) (by unfold maxLen; omega) (by omega) HBASE.out _ rfl ?_
            intro g cap' w3 hown3 hgrow hat hlt3
            refine hK _ _ ?_
            clear hK K
            try simp only [Act.put, List.setIfInBounds_toArray, List.set_cons_zero, List.set_cons_succ]
            obtain ⟨hRN, hMN, e1, e2⟩ := HPUSH.out _ _ hown3 hgrow
            refine wpAny_take (i := 9) (v := Value.pointer (some ⟨w.heap.size, 0, none⟩)) rfl (by kernel_rfl) (by kernel_rfl) (by kernel_rfl) (fun _ _ _ h => h) (Or.inl ⟨by rfl, fun w => by go_simp⟩) ?_
            try simp only [Act.put, List.setIfInBounds_toArray]
            refine wpAny_take (i := 10) (v := Value.pointer (some ⟨w.heap.size, 0, none⟩)) rfl (by kernel_rfl) (by kernel_rfl) (by kernel_rfl) (fun _ _ _ h => h) (Or.inl ⟨by rfl, fun w => by go_simp⟩) ?_
            try simp only [Act.put]
            refine wpAny_ready (rs := [11]) (by kernel_rfl) (by simp) ?_
            refine AllReady.cons (o := { dst := none, op := Op.store 50 (Operand.tmp 22) (Operand.tmp 20), type := 0, pos := "ref.go:24", after := #[{ on := 10, ground := Ground.data }, { on := 8, ground := Ground.data }, { on := 8, ground := Ground.chain }, { on := 0, ground := Ground.phase }, { on := 1, ground := Ground.phase }, { on := 2, ground := Ground.phase }, { on := 3, ground := Ground.phase }, { on := 4, ground := Ground.phase }, { on := 5, ground := Ground.phase }, { on := 6, ground := Ground.phase }, { on := 7, ground := Ground.phase }, { on := 8, ground := Ground.phase }], guard := none }) rfl (fun K hK => ?_) AllReady.nil
            go_simp
            refine hK _ _ ?_
            clear hK K
            try simp only [Act.put, List.setIfInBounds_toArray, List.set_cons_zero, List.set_cons_succ]
            refine wpAny_done (by kernel_rfl) ?_ _
            clear hown3 e1 e2 hlt3 hgrow hat
            go_wp2
            go_roundw
            case rel => exact ⟨k + 1, by omega, by go_num, _, hRN, hMN⟩
            case measure => simp [intOf]; omega
    · obtain rfl : k = n := by omega
      go_wp2
      go_ret
      exact ⟨rfl, ⟨vS, hr⟩, hbr⟩
end Go.Proofs.Ytaccmeffcjfeeaa
