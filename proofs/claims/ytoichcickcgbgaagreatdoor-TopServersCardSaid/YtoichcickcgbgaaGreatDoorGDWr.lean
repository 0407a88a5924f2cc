/-
  Write: an open write more.
-/
import Derived.Test.YtoichcickcgbgaaGreatDoorGDRd
import Derived.Lib.BufferWrite
import Derived.Great.BuildSlice
import Derived.Deep.RegionLaw
namespace Go.Proofs.YtoichcickcgbgaaGreatDoor.Disk
open Go.RowKit
set_option linter.unusedSimpArgs false
theorem fold_set : ∀ (l pre suf : List Value), suf.length = l.length → (l.zipIdx pre.length).foldl (fun (cs : Array Value) (x : Value × Nat) => cs.setIfInBounds x.2 x.1) (pre ++ suf).toArray = (pre ++ l).toArray
  | [], pre, suf, h => by
    have : suf = [] := List.eq_nil_of_length_eq_zero (by simpa using h)
    simp [this]
  | v :: l, pre, [], h => by simp at h
  | v :: l, pre, u :: suf, h => by
    have h1 := fold_set l (pre ++ [v]) suf (by simpa using h)
    simp only [List.zipIdx_cons, List.foldl_cons]
    have e : (pre ++ u :: suf).toArray.setIfInBounds pre.length v = ((pre ++ [v]) ++ suf).toArray := by simp
    rw [e]
    have e2 : (pre ++ [v]).length = pre.length + 1 := by simp
    rw [e2] at h1
    rw [h1]
    simp
theorem fill_one (c : Nat) (Z : Array Value) (P : List Value) (hP : P.length = c) (hZ : Z.size = c) : Instr.fill (fun i => some (i * c, c)) Z [(0, .agg P.toArray)] = some P.toArray := by
  have h1 := fold_set P [] Z.toList (by simp [hP, hZ])
  have e : (P.toArray.zipIdx.foldl (fun (cs : Array Value) (x : Value × Nat) => cs.setIfInBounds (0 * c + x.2) x.1) Z) = P.toArray := by
    rw [← Array.foldl_toList]
    simpa using h1
  simp only [Nat.zero_mul, Nat.zero_add] at e
  simp only [Instr.fill, Value.cells, Nat.zero_mul, Nat.zero_add]
  simp [hP, hZ]
  simpa using h1
def z64 : List Value := List.replicate 64 (.int .u8 0)
theorem built64 (k : Int) : Tryz.prog.built 146 [(0, .int .i64 k)] = some (.int .i64 k :: z64).toArray := by kernel_rfl
theorem wpList_build64 {w : World} {ops : Array Oper} {rest : List Oper} {o : Oper} {a : Act} {Q : Exit → Act → World → Prop} (x : Operand) (k : Int) (hg : o.guard = .none) (ho : o.op = .build 146 #[(0, x)]) (hx : a.eval x = .int .i64 k)
    (h : ∀ Z : List Value, Hid (Z = z64) → wpList Tryz.prog ops Q rest (a.put o.dst (.agg (.int .i64 k :: Z).toArray)) w) : wpList Tryz.prog ops Q (o :: rest) a w := by
  have e := built64 k
  refine wpList_build hg 146 #[(0, x)] ho ?_ ?_
  · simp only [List.map_toArray, List.map_nil, List.map_cons, hx]
    rw [e]; rfl
  · simp only [List.map_toArray, List.map_nil, List.map_cons, hx]
    rw [e]; exact h z64 rfl
/-- copy of a text that fits, in a plain region. -/
theorem wpList_copy_text {w : World} {ops : Array Oper} {rest : List Oper} {o : Oper} {a : Act} {Q : Exit → Act → World → Prop} (hgd : o.guard = none) (x y : Operand) (ho : o.op = .call { callee := .builtin .copy, args := #[x, y], argTypes := #[105, 9] })
    (g off dLen dCap : Nat) (s : ByteArray) (cur : Array Value) (t : TypeId) (hx : a.eval x = .slice (some ⟨g, off, none⟩) dLen dCap) (hy : a.eval y = .string s)
    (hg : w.heap[g]? = some (.cells cur t (0, 0))) (hle : s.size ≤ dLen) (hfit : off + s.size ≤ cur.size)
    (h : wpList Tryz.prog ops Q rest (a.put o.dst (goInt s.size)) (w.setRow g (cur.toList.take off ++ bc s.data.toList ++ cur.toList.drop (off + s.size)).toArray)) : wpList Tryz.prog ops Q (o :: rest) a w := by
  have hrun := Lib.run_copy_row_string (P := Tryz.prog) w 105 9 o.type 5 g off dLen dCap s cur t Tryz.underlying105 (by kernel_rfl) hg hle hfit
  refine wpList_plain hgd fun K hK' => ?_
  unfold Oper.wp
  simp [execOp, ho, resolve, invoke, builtin, hx, hy, hrun, Result.andThen]
  rw [List.append_assoc] at h
  exact hK' _ _ h
theorem zi64 {k : Int} {Z : List Value} (h : Hid (Z = z64)) : (Tryz.prog.info? 146).map (·.size) = some (Value.int .i64 k :: Z).toArray.size := by rw [info64, h.out]; rfl
theorem zsz {k : Int} {Z : List Value} {Y : Array Value} (h : Hid (Z = z64)) (hY : Hid (Y.size = 65)) : Y.size = (Value.int .i64 k :: Z).toArray.size := by rw [hY.out, h.out]; rfl
theorem zone {k : Int} {Z : List Value} (h : Hid (Z = z64)) : (Value.int .i64 k :: Z).toArray.all (·.oneCell') = true := by
  rw [h.out]
  refine all_one fun v hv => ?_
  simp only [List.mem_cons, z64, List.mem_replicate] at hv
  rcases hv with rfl | ⟨_, rfl⟩ <;> rfl
theorem zfit {k : Int} {Z : List Value} (h : Hid (Z = z64)) {x : ByteArray} (hx : x.size = 64) : 1 + x.size ≤ (Value.int .i64 k :: Z).toArray.size := by rw [h.out, hx]; simp [z64]
theorem zrow {k : Nat} {Z : List Value} (h : Hid (Z = z64)) {x : ByteArray} (hx : x.size = 64) : ((Value.int .i64 (k : Int) :: Z).toArray.toList.take 1 ++ bc x.data.toList ++ (Value.int .i64 (k : Int) :: Z).toArray.toList.drop (1 + x.size)).toArray = (oc (k, x.data.toList)).toArray := by
  rw [h.out, hx]
  simp [oc, z64]
section
variable {w : World} {b s n : Nat} {S : List (List UInt8)} {O : List (Nat × List UInt8)} {m : Nat} {oa : Option Addr} {cap : Nat} {f r : Int}
theorem Dk.appended {w2 : World} {g cap' : Nat} {p : Nat × List UInt8} {P : List Value} (h : Dk w b s n S O m oa cap f r) (hm : m < 1000) (hp : p.1 < n ∧ p.2.length = 64) (hP : oc p = P)
    (hown : w2.ownsRow 0 146 65 (.slice (some ⟨g, 0, none⟩) (m + 1) cap') (m + 1) (O.flatMap oc ++ P)) (hg : w.grownBy w2 (Value.slice oa m cap).ownBlock) (hat : (Value.slice oa m cap).ownBlock = some g ∨ g = w.heap.size) :
    Dk (w2.setCell ⟨b, 1, none⟩ (.slice (some ⟨g, 0, none⟩) (m + 1) cap')) b s n S (O ++ [p]) (m + 1) (some ⟨g, 0, none⟩) cap' f r ∧ Moved w (w2.setCell ⟨b, 1, none⟩ (.slice (some ⟨g, 0, none⟩) (m + 1) cap')) b s oa ∧
      ∀ k, (Value.slice (some ⟨g, 0, none⟩) 0 0).ownBlock = some k → (Value.slice oa 0 0).ownBlock = some k ∨ w.heap.size ≤ k := by
  have hgb : g ≠ b := by
    rcases hat with ha | ha
    · intro e; exact h.nob (by rw [ha, e])
    · have := h.lt; omega
  have hgs : g ≠ s := by
    rcases hat with ha | ha
    · intro e; exact h.nos (by rw [ha, e])
    · have := h.lts; omega
  obtain ⟨T, hb⟩ := h.box
  obtain ⟨T', hs⟩ := h.sec
  have hb2 : w2.heap[b]? = some (.cells #[.slice (some ⟨s, 0, none⟩) n n, .slice oa m cap, .int .i64 f, .int .i64 r] T (0, 0)) := (hg.block b h.lt (fun e => h.nob e.symm)).trans hb
  have hs2 : w2.heap[s]? = some (.cells (S.flatMap bc).toArray T' (0, 0)) := (hg.block s h.lts (fun e => h.nos e.symm)).trans hs
  refine ⟨{ h with box := ⟨T, ?_⟩, sec := ⟨T', (heap_setCell_other _ _ _ _ h.ne.symm).trans hs2⟩, many := by simp [h.many], own := own_keep (by rw [List.flatMap_append, List.flatMap_singleton, hP]; exact hown) fun k _ hk => heap_setCell_other _ _ _ _ (fun e => ?_), oall := ?_, nob := ?_, nos := ?_, few := by omega }, ⟨hg.os, hg.tape, hg.output, ?_, fun k hk hkb _ hko => ?_⟩, fun k hk => ?_⟩
  · rw [heap_setCell_same _ _ _ _ T _ hb2]
    rfl
  · simp only [Value.ownBlock, Option.some.injEq] at hk
    exact hgb (hk.trans e)
  · intro q hq
    simp only [List.mem_append, List.mem_singleton] at hq
    rcases hq with hq | rfl
    · exact h.oall q hq
    · exact hp
  · simp only [Value.ownBlock, ne_eq, Option.some.injEq]; exact hgb
  · simp only [Value.ownBlock, ne_eq, Option.some.injEq]; exact hgs
  · have : (w2.setCell ⟨b, 1, none⟩ (.slice (some ⟨g, 0, none⟩) (m + 1) cap')).heap.size = w2.heap.size := by simp [World.setCell]
    rw [this]
    exact hg.size
  · rw [heap_setCell_other _ _ _ _ hkb]
    exact hg.block k hk (fun e => hko ((own_slice oa 0 0 m cap).trans e.symm))
  · simp only [Value.ownBlock, Option.some.injEq] at hk
    subst hk
    rcases hat with ha | ha
    · exact .inl ((own_slice oa 0 0 m cap).trans ha)
    · exact .inr (by omega)
set_option maxRecDepth 100000 in
set_option maxHeartbeats 2000000 in
theorem write_ok (h : Dk w b s n S O m oa cap f r) (k : Nat) (hk : k < n) (x : ByteArray) (hx : x.size = 64) (hm : m < 1000) (f' : Int) (hf : failS f = (false, f')) :
    Calls Tryz.prog 112 #[.pointer (some ⟨b, 0, none⟩), .int .i64 k, .string x] w fun e w' => e = .returned (.int .i64 0) ∧
      ∃ oa' cap', Dk w' b s n S (O ++ [(k, x.data.toList)]) (m + 1) oa' cap' f' r ∧ Moved w w' b s oa ∧ ∀ g, (Value.slice oa' 0 0).ownBlock = some g → (Value.slice oa 0 0).ownBlock = some g ∨ w.heap.size ≤ g := by
  have H := Lib.hid hf
  clear hf
  go_enter Tryz.func112, Tryz.ntmps112
  go_wp2_with (first
    | (go_at_call 164; refine (there_in h k (by omega) (by omega)).mono ?_; rintro e w1 ⟨rfl, rfl⟩)
    | (go_at_call 117; refine (fails_any h false f' H.out).mono ?_; rintro e w1 ⟨rfl, hD, hM2, -⟩)
    | (refine wpList_build64 _ (k : Int) rfl rfl rfl ?_; intro Z hZ)
    | (refine wpList_alloc_big 146 65 zero64 rfl rfl ?_; intro Y hY)
    | (refine wpList_store_row rfl 146 _ _ rfl _ (Value.int .i64 (k : Int) :: Z).toArray rfl rfl 146 _ (heap_alloc_new _ _) (zi64 hZ) (zsz hZ hY) (zone hZ) ?_; rw [World.setRow_alloc_new])
    | (refine wpList_copy_text rfl _ _ rfl w1.heap.size 1 64 64 x (Value.int .i64 (k : Int) :: Z).toArray 146 rfl rfl (heap_alloc_new _ _) (by omega) (zfit hZ hx) ?_; rw [World.setRow_alloc_new, zrow hZ hx]))
  have hB7 : (w1.alloc (.cells (oc (k, x.data.toList)).toArray 146)).heap[w1.heap.size]? = some (.cells (oc (k, x.data.toList)).toArray 146 (0, 0)) := heap_alloc_new _ _
  have hDW := hD.below ((Below.refl _ _).alloc (Nat.le_refl _) (Obj.cells (oc (k, x.data.toList)).toArray 146))
  have hMW : Moved w1 (w1.alloc (.cells (oc (k, x.data.toList)).toArray 146)) b s oa := Moved.below ((Below.refl _ _).alloc (Nat.le_refl _) _)
  have hp64 : Hid ((oc (k, x.data.toList)).length = 65) := oc_len (by show x.data.toList.length = 64; rw [← hx]; simp)
  have hone := oc_one (k, x.data.toList)
  obtain ⟨P, hP⟩ : ∃ P, oc (k, x.data.toList) = P := ⟨_, rfl⟩
  rw [hP] at hB7 hDW hMW hp64 hone ⊢
  have hP' : Hid (oc (k, x.data.toList) = P) := hP
  clear hP
  generalize w1.alloc (.cells P.toArray 146) = W at *
  generalize w1.heap.size = B7 at *
  have hDW' : Dk W.drew b s n S O m oa cap f' r := hDW.keep fun _ _ _ => rfl
  have hB7' : W.drew.heap[B7]? = some (.cells P.toArray 146 (0, 0)) := hB7
  have hMW' : Moved w1 W.drew b s oa := hMW.trans (Moved.below (Below.refl _ _).drew)
  refine wp_region_any (by kernel_rfl) ?_
  change wpAny _ _ _ _ _ _ _ (World.drew _)
  generalize W.drew = V at *
  simp only [Act.put, pw]
  refine wpAny_take (i := 0) (v := Value.pointer (some ⟨b, 0, none⟩)) rfl (by kernel_rfl) (by kernel_rfl) (by kernel_rfl) (fun _ _ _ h => h) (Or.inl ⟨by rfl, fun w => by go_simp⟩) ?_
  simp only [Act.put, pw]
  refine wpAny_take (i := 1) (v := Value.pointer (some ⟨b, 0, none⟩)) rfl (by kernel_rfl) (by kernel_rfl) (by kernel_rfl) (fun _ _ _ h => h) (Or.inl ⟨by rfl, fun w => by go_simp⟩) ?_
  simp only [Act.put, pw]
  refine wpAny_take (i := 2) (v := Value.pointer (some ⟨b, 0, none⟩)) rfl (by kernel_rfl) (by kernel_rfl) (by kernel_rfl) (fun _ _ _ h => h) (Or.inl ⟨by rfl, fun w => by go_simp⟩) ?_
  simp only [Act.put, pw]
  refine wpAny_take (i := 3) (v := Value.pointer (some ⟨b, 1, none⟩)) rfl (by kernel_rfl) (by kernel_rfl) (by kernel_rfl) (fun _ _ _ h => h) (Or.inl ⟨by rfl, fun w => by go_simp⟩) ?_
  simp only [Act.put, pw]
  have hrng : V.rangeAt B7 0 P := fun j v hv => by rw [Nat.zero_add]; exact cellAt hB7' j (by simpa using hv)
  have hi64 : (Tryz.prog.info? 146).map (·.size) = some P.length := by rw [info64, hp64.out]
  have d1 := hDW'.c1
  have HI64 := Lib.hid hi64
  obtain ⟨i64, z, hie, hz, hs65, hz65⟩ : ∃ i z, Tryz.prog.info? 146 = some i ∧ i.zero = some z ∧ i.size = 65 ∧ z.cells.size = 65 := by
    have h1 := info64
    have h2 := zero64
    cases hi : Tryz.prog.info? 146 with
    | none => simp [hi] at h1
    | some i =>
      cases hz : i.zero with
      | none => simp [hi, hz] at h2
      | some z => exact ⟨i, z, rfl, hz, by simpa [hi] using h1, by simpa [hi, hz] using h2⟩
  have hby : i64.bytes = 72 := by
    have h1 : (Tryz.prog.info? 146).map (·.bytes) = some 72 := by kernel_rfl
    simpa [hie] using h1
  have hDU : Dk (V.alloc (.cells P.toArray 146)) b s n S O m oa cap f' r := hDW'.below ((Below.refl _ _).alloc (Nat.le_refl _) _)
  have hMU : Moved w (V.alloc (.cells P.toArray 146)) b s oa := hM2.trans (hMW'.trans (Moved.below ((Below.refl _ _).alloc (Nat.le_refl _) _)))
  have hnews := World.news_of_block (heap_alloc_new V (.cells P.toArray 146))
  have hpok : (k, x.data.toList).1 < n ∧ (k, x.data.toList).2.length = 64 := ⟨hk, by show x.data.toList.length = 64; rw [← hx]; simp⟩
  have hsm : ¬ 1 * i64.size > 2 ^ 24 := by rw [hs65]; decide
  have hps : ¬ 1 * i64.size = 0 := by rw [hs65]; decide
  have hfl : Instr.fill (fun i => some (i * i64.size, i64.size)) ((Array.range (1 * i64.size)).map (z.cells[· % z.cells.size]!)) [(0, .agg P.toArray)] = some P.toArray := by
    rw [hs65]
    exact fill_one 65 _ P hp64.out (by simp)
  refine wpAny_ready (rs := [4, 5]) (by kernel_rfl) (by simp) ?_
  refine AllReady.cons (o := { dst := some 31, op := Op.load 72 (Operand.tmp 30), type := 72, pos := "disk.go:87", after := #[{ on := 3, ground := Ground.data }], guard := none }) rfl (fun K hK => ?_) (AllReady.cons (o := { dst := some 32, op := Op.load 146 (Operand.tmp 7), type := 146, pos := "disk.go:87", after := #[], guard := none }) rfl (fun K hK => ?_) AllReady.nil)
  · go_simp
    refine hK _ _ ?_
    clear hK K
    try simp only [Act.put, pw]
    refine wpAny_ready (rs := [5]) (by kernel_rfl) (by simp) ?_
    refine AllReady.cons (o := { dst := some 32, op := Op.load 146 (Operand.tmp 7), type := 146, pos := "disk.go:87", after := #[], guard := none }) rfl (fun K hK => ?_) AllReady.nil
    rw [if_pos (by rfl)]
    refine wp_load_mid 146 _ rfl B7 0 rfl P _ hrng Tryz.underlying146 rfl hi64 ?_
    refine hK _ _ ?_
    clear hK K
    try simp only [Act.put, pw]
    refine wpAny_ready (rs := [6]) (by kernel_rfl) (by simp) ?_
    refine AllReady.cons (o := { dst := some 33, op := Op.buildSlice 72 1 #[(0, Operand.tmp 32)], type := 72, pos := "disk.go:87", after := #[{ on := 5, ground := Ground.data }], guard := none }) rfl (fun K hK => ?_) AllReady.nil
    rw [if_pos (by rfl)]
    refine wp_buildSlice 72 146 1 _ rfl P.toArray i64 z Tryz.underlying72 hie hz hsm hps (by simp only [List.map_toArray, List.map_cons, List.map_nil]; exact hfl) ?_
    refine hK _ _ ?_
    clear hK K
    try simp only [Act.put, pw]
    refine wpAny_ready (rs := [7]) (by kernel_rfl) (by simp) ?_
    refine AllReady.cons (o := { dst := some 34, op := Op.call { callee := Callee.builtin Builtin.append, args := #[Operand.tmp 31, Operand.tmp 33], argTypes := #[72, 72] }, type := 72, pos := "disk.go:87", after := #[{ on := 4, ground := Ground.data }, { on := 6, ground := Ground.data }], guard := none }) rfl (fun K hK => ?_) AllReady.nil
    refine step_append_lies (V.alloc (.cells P.toArray 146)) rfl (.tmp 31) (.tmp 33) 72 rfl 0 146 i64 z 65 72 Tryz.underlying72 hie hz hs65 hby hz65 (by omega) (.slice oa m cap) m (O.flatMap oc) rfl hDU.own ⟨V.heap.size, 0, none⟩ 1 1 P rfl (by rw [hp64.out]) hnews hone (by omega) (by unfold maxLen; omega) (by omega) (Nat.zero_le _) _ rfl ?_
    intro g cap' w2 hown2 hgrow hat hlt2
    refine hK _ _ ?_
    clear hK K
    try simp only [Act.put, pw]
    obtain ⟨hDN, hMN, hfr⟩ := hDU.appended hm hpok hP'.out hown2 hgrow hat
    have e1 : w2.cell? ⟨b, 1, none⟩ = some (.slice oa m cap) := hgrow.cell hDU.c1 (fun e => hDU.nob e.symm)
    have e2 : w2.frozen? ⟨b, 1, none⟩ = false := (hgrow.frozen_far ⟨b, 1, none⟩ hDU.lt (fun e => hDU.nob e.symm)).trans (hDU.fr 1)
    refine wpAny_take (i := 8) (v := Value.pointer (some ⟨b, 0, none⟩)) rfl (by kernel_rfl) (by kernel_rfl) (by kernel_rfl) (fun _ _ _ h => h) (Or.inl ⟨by rfl, fun w => by go_simp⟩) ?_
    try simp only [Act.put, pw]
    refine wpAny_take (i := 9) (v := Value.pointer (some ⟨b, 1, none⟩)) rfl (by kernel_rfl) (by kernel_rfl) (by kernel_rfl) (fun _ _ _ h => h) (Or.inl ⟨by rfl, fun w => by go_simp⟩) ?_
    try simp only [Act.put, pw]
    refine wpAny_ready (rs := [10]) (by kernel_rfl) (by simp) ?_
    refine AllReady.cons (o := { dst := none, op := Op.store 72 (Operand.tmp 36) (Operand.tmp 34), type := 0, pos := "disk.go:87", after := #[{ on := 9, ground := Ground.data }, { on := 7, ground := Ground.data }, { on := 7, ground := Ground.chain }, { on := 0, ground := Ground.phase }, { on := 1, ground := Ground.phase }, { on := 2, ground := Ground.phase }, { on := 3, ground := Ground.phase }, { on := 4, ground := Ground.phase }, { on := 5, ground := Ground.phase }, { on := 6, ground := Ground.phase }, { on := 7, ground := Ground.phase }], guard := none }) rfl (fun K hK => ?_) AllReady.nil
    go_simp
    refine hK _ _ ?_
    clear hK K
    try simp only [Act.put, pw]
    refine wpAny_done (by kernel_rfl) ?_ _
    clear hown2 e1 e2 hlt2 hgrow hat
    go_wp2
    go_ret
    exact ⟨rfl, _, ⟨cap', hDN⟩, hMU.trans hMN, fun k hk => (hfr k hk).imp id (fun h => by have h2 := hMU.size; omega)⟩
  · rw [if_pos (by rfl)]
    refine wp_load_mid 146 _ rfl B7 0 rfl P _ hrng Tryz.underlying146 rfl hi64 ?_
    refine hK _ _ ?_
    clear hK K
    try simp only [Act.put, pw]
    refine wpAny_ready (rs := [4, 6]) (by kernel_rfl) (by simp) ?_
    refine AllReady.cons (o := { dst := some 31, op := Op.load 72 (Operand.tmp 30), type := 72, pos := "disk.go:87", after := #[{ on := 3, ground := Ground.data }], guard := none }) rfl (fun K hK => ?_) (AllReady.cons (o := { dst := some 33, op := Op.buildSlice 72 1 #[(0, Operand.tmp 32)], type := 72, pos := "disk.go:87", after := #[{ on := 5, ground := Ground.data }], guard := none }) rfl (fun K hK => ?_) AllReady.nil)
    · go_simp
      refine hK _ _ ?_
      clear hK K
      try simp only [Act.put, pw]
      refine wpAny_ready (rs := [6]) (by kernel_rfl) (by simp) ?_
      refine AllReady.cons (o := { dst := some 33, op := Op.buildSlice 72 1 #[(0, Operand.tmp 32)], type := 72, pos := "disk.go:87", after := #[{ on := 5, ground := Ground.data }], guard := none }) rfl (fun K hK => ?_) AllReady.nil
      rw [if_pos (by rfl)]
      refine wp_buildSlice 72 146 1 _ rfl P.toArray i64 z Tryz.underlying72 hie hz hsm hps (by simp only [List.map_toArray, List.map_cons, List.map_nil]; exact hfl) ?_
      refine hK _ _ ?_
      clear hK K
      try simp only [Act.put, pw]
      refine wpAny_ready (rs := [7]) (by kernel_rfl) (by simp) ?_
      refine AllReady.cons (o := { dst := some 34, op := Op.call { callee := Callee.builtin Builtin.append, args := #[Operand.tmp 31, Operand.tmp 33], argTypes := #[72, 72] }, type := 72, pos := "disk.go:87", after := #[{ on := 4, ground := Ground.data }, { on := 6, ground := Ground.data }], guard := none }) rfl (fun K hK => ?_) AllReady.nil
      refine step_append_lies (V.alloc (.cells P.toArray 146)) rfl (.tmp 31) (.tmp 33) 72 rfl 0 146 i64 z 65 72 Tryz.underlying72 hie hz hs65 hby hz65 (by omega) (.slice oa m cap) m (O.flatMap oc) rfl hDU.own ⟨V.heap.size, 0, none⟩ 1 1 P rfl (by rw [hp64.out]) hnews hone (by omega) (by unfold maxLen; omega) (by omega) (Nat.zero_le _) _ rfl ?_
      intro g cap' w2 hown2 hgrow hat hlt2
      refine hK _ _ ?_
      clear hK K
      try simp only [Act.put, pw]
      obtain ⟨hDN, hMN, hfr⟩ := hDU.appended hm hpok hP'.out hown2 hgrow hat
      have e1 : w2.cell? ⟨b, 1, none⟩ = some (.slice oa m cap) := hgrow.cell hDU.c1 (fun e => hDU.nob e.symm)
      have e2 : w2.frozen? ⟨b, 1, none⟩ = false := (hgrow.frozen_far ⟨b, 1, none⟩ hDU.lt (fun e => hDU.nob e.symm)).trans (hDU.fr 1)
      refine wpAny_take (i := 8) (v := Value.pointer (some ⟨b, 0, none⟩)) rfl (by kernel_rfl) (by kernel_rfl) (by kernel_rfl) (fun _ _ _ h => h) (Or.inl ⟨by rfl, fun w => by go_simp⟩) ?_
      try simp only [Act.put, pw]
      refine wpAny_take (i := 9) (v := Value.pointer (some ⟨b, 1, none⟩)) rfl (by kernel_rfl) (by kernel_rfl) (by kernel_rfl) (fun _ _ _ h => h) (Or.inl ⟨by rfl, fun w => by go_simp⟩) ?_
      try simp only [Act.put, pw]
      refine wpAny_ready (rs := [10]) (by kernel_rfl) (by simp) ?_
      refine AllReady.cons (o := { dst := none, op := Op.store 72 (Operand.tmp 36) (Operand.tmp 34), type := 0, pos := "disk.go:87", after := #[{ on := 9, ground := Ground.data }, { on := 7, ground := Ground.data }, { on := 7, ground := Ground.chain }, { on := 0, ground := Ground.phase }, { on := 1, ground := Ground.phase }, { on := 2, ground := Ground.phase }, { on := 3, ground := Ground.phase }, { on := 4, ground := Ground.phase }, { on := 5, ground := Ground.phase }, { on := 6, ground := Ground.phase }, { on := 7, ground := Ground.phase }], guard := none }) rfl (fun K hK => ?_) AllReady.nil
      go_simp
      refine hK _ _ ?_
      clear hK K
      try simp only [Act.put, pw]
      refine wpAny_done (by kernel_rfl) ?_ _
      clear hown2 e1 e2 hlt2 hgrow hat
      go_wp2
      go_ret
      exact ⟨rfl, _, ⟨cap', hDN⟩, hMU.trans hMN, fun k hk => (hfr k hk).imp id (fun h => by have h2 := hMU.size; omega)⟩
    · rw [if_pos (by rfl)]
      refine wp_buildSlice 72 146 1 _ rfl P.toArray i64 z Tryz.underlying72 hie hz hsm hps (by simp only [List.map_toArray, List.map_cons, List.map_nil]; exact hfl) ?_
      refine hK _ _ ?_
      clear hK K
      try simp only [Act.put, pw]
      refine wpAny_ready (rs := [4]) (by kernel_rfl) (by simp) ?_
      refine AllReady.cons (o := { dst := some 31, op := Op.load 72 (Operand.tmp 30), type := 72, pos := "disk.go:87", after := #[{ on := 3, ground := Ground.data }], guard := none }) rfl (fun K hK => ?_) AllReady.nil
      have d1' := (hDW'.below ((Below.refl _ _).alloc (Nat.le_refl _) (Obj.cells P.toArray 146))).c1
      go_simp
      refine hK _ _ ?_
      clear hK K
      try simp only [Act.put, pw]
      refine wpAny_ready (rs := [7]) (by kernel_rfl) (by simp) ?_
      refine AllReady.cons (o := { dst := some 34, op := Op.call { callee := Callee.builtin Builtin.append, args := #[Operand.tmp 31, Operand.tmp 33], argTypes := #[72, 72] }, type := 72, pos := "disk.go:87", after := #[{ on := 4, ground := Ground.data }, { on := 6, ground := Ground.data }], guard := none }) rfl (fun K hK => ?_) AllReady.nil
      refine step_append_lies (V.alloc (.cells P.toArray 146)) rfl (.tmp 31) (.tmp 33) 72 rfl 0 146 i64 z 65 72 Tryz.underlying72 hie hz hs65 hby hz65 (by omega) (.slice oa m cap) m (O.flatMap oc) rfl hDU.own ⟨V.heap.size, 0, none⟩ 1 1 P rfl (by rw [hp64.out]) hnews hone (by omega) (by unfold maxLen; omega) (by omega) (Nat.zero_le _) _ rfl ?_
      intro g cap' w2 hown2 hgrow hat hlt2
      refine hK _ _ ?_
      clear hK K
      try simp only [Act.put, pw]
      obtain ⟨hDN, hMN, hfr⟩ := hDU.appended hm hpok hP'.out hown2 hgrow hat
      have e1 : w2.cell? ⟨b, 1, none⟩ = some (.slice oa m cap) := hgrow.cell hDU.c1 (fun e => hDU.nob e.symm)
      have e2 : w2.frozen? ⟨b, 1, none⟩ = false := (hgrow.frozen_far ⟨b, 1, none⟩ hDU.lt (fun e => hDU.nob e.symm)).trans (hDU.fr 1)
      refine wpAny_take (i := 8) (v := Value.pointer (some ⟨b, 0, none⟩)) rfl (by kernel_rfl) (by kernel_rfl) (by kernel_rfl) (fun _ _ _ h => h) (Or.inl ⟨by rfl, fun w => by go_simp⟩) ?_
      try simp only [Act.put, pw]
      refine wpAny_take (i := 9) (v := Value.pointer (some ⟨b, 1, none⟩)) rfl (by kernel_rfl) (by kernel_rfl) (by kernel_rfl) (fun _ _ _ h => h) (Or.inl ⟨by rfl, fun w => by go_simp⟩) ?_
      try simp only [Act.put, pw]
      refine wpAny_ready (rs := [10]) (by kernel_rfl) (by simp) ?_
      refine AllReady.cons (o := { dst := none, op := Op.store 72 (Operand.tmp 36) (Operand.tmp 34), type := 0, pos := "disk.go:87", after := #[{ on := 9, ground := Ground.data }, { on := 7, ground := Ground.data }, { on := 7, ground := Ground.chain }, { on := 0, ground := Ground.phase }, { on := 1, ground := Ground.phase }, { on := 2, ground := Ground.phase }, { on := 3, ground := Ground.phase }, { on := 4, ground := Ground.phase }, { on := 5, ground := Ground.phase }, { on := 6, ground := Ground.phase }, { on := 7, ground := Ground.phase }], guard := none }) rfl (fun K hK => ?_) AllReady.nil
      go_simp
      refine hK _ _ ?_
      clear hK K
      try simp only [Act.put, pw]
      refine wpAny_done (by kernel_rfl) ?_ _
      clear hown2 e1 e2 hlt2 hgrow hat
      go_wp2
      go_ret
      exact ⟨rfl, _, ⟨cap', hDN⟩, hMU.trans hMN, fun k hk => (hfr k hk).imp id (fun h => by have h2 := hMU.size; omega)⟩
end
end Go.Proofs.YtoichcickcgbgaaGreatDoor.Disk
