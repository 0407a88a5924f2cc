/-
  TopServers: for every input the law answers true. The row, and its tied card. No condition but the two tables of unicode/utf8 as the text lays them.
-/
import Derived.Test.YtoichcickcgbgaaGreatDoorGTm
import Derived.Test.YtoichcickcgbgaaGreatDoorTie
import Derived.Test.YtoichcickcgbgaaGreatDoorCards
import Derived.ProofKit
import Derived.OpenShut
import Derived.ChangeSlices
import Derived.ChangeOld
import Derived.Below
import Derived.LaidMore
import Derived.Lay
import Derived.SevenTiedAt
import Derived.Stop.Joined
namespace Go.Proofs.YtoichcickcgbgaaGreatDoor.topServers
open Go.ChangeShapes Go.WideShapes Go.ChangeAt Go.RowKit
theorem own : ownKnob Tryz.prog.godebug = none := by kernel_rfl
theorem laidOut : laidOutB Tryz.prog = true := by kernel_rfl
section
variable {H : Type} {enc : TypeId × Value → H} {W : World} {base : Nat} {v : Value} {d : DataW H} {p : List MemPlace}
set_option maxRecDepth 100000 in
theorem two_of {cs : List Value} {fuel : Nat} {x : DataW H × List MemPlace} (hf : DataW.trod enc Tryz.prog W 0 (fun _ => true) true fuel 22 cs = some x) : ∃ a b : Int, cs[0]? = some (.int .i64 a) ∧ cs[1]? = some (.int .i64 b) := by
  have hc1 : Tryz.prog.cellsOf 3 = 1 := by kernel_rfl
  obtain ⟨xs, m, _, _, _, hl, hx⟩ := DataW.trod_array Tryz.underlying22 hf
  have e0 := hx 0 (by omega)
  have e1 := hx 1 (by omega)
  rw [hc1] at e0 e1
  have g0 : ∃ z, xs[0]? = some z := ⟨_, List.getElem?_eq_getElem (by omega)⟩
  have g1 : ∃ z, xs[1]? = some z := ⟨_, List.getElem?_eq_getElem (by omega)⟩
  obtain ⟨z0, g0⟩ := g0
  obtain ⟨z1, g1⟩ := g1
  rw [g0] at e0
  rw [g1] at e1
  obtain ⟨x, ex, _, wx⟩ := DataW.trod_int Tryz.underlying3 e0
  obtain ⟨y, ey, _, wy⟩ := DataW.trod_int Tryz.underlying3 e1
  refine ⟨x, y, ?_, ?_⟩
  · have h := congrArg (fun l : List Value => l[0]?) ex
    simpa using h
  · have h := congrArg (fun l : List Value => l[0]?) ey
    simpa using h
set_option maxRecDepth 100000 in
theorem open_two (hv : Value.okWide Tryz.prog W .any base 22 v) (h : DataW.Trod enc Tryz.prog W 0 (fun _ => true) true 22 v d p) : ∃ x y : Int, v = .agg #[.int .i64 x, .int .i64 y] := by
  unfold Value.okWide at hv
  rw [Tryz.underlying22] at hv
  obtain ⟨cs, rfl, hsz, _⟩ := hv
  have hc2 : Tryz.prog.cellsOf 22 = 2 := by kernel_rfl
  rw [hc2] at hsz
  obtain ⟨l⟩ := cs
  obtain ⟨fuel, hf⟩ := h
  obtain ⟨a, b, ea, eb⟩ := two_of hf
  match l, hsz with
  | [c0, c1], _ =>
    simp [Value.cells] at ea eb
    exact ⟨a, b, by rw [ea, eb]⟩
set_option maxRecDepth 100000 in
theorem open_four (hv : Value.okWide Tryz.prog W .any base 23 v) (h : DataW.Trod enc Tryz.prog W 0 (fun _ => true) true 23 v d p) : ∃ a b c e : Int, v = .agg #[.int .i64 a, .int .i64 b, .int .i64 c, .int .i64 e] := by
  unfold Value.okWide at hv
  rw [Tryz.underlying23] at hv
  obtain ⟨cs, rfl, hsz, _⟩ := hv
  have hc4 : Tryz.prog.cellsOf 23 = 4 := by kernel_rfl
  have hc2 : Tryz.prog.cellsOf 22 = 2 := by kernel_rfl
  rw [hc4] at hsz
  obtain ⟨l⟩ := cs
  obtain ⟨fuel, hf⟩ := h
  obtain ⟨xs, m, _, _, _, hl, hx⟩ := DataW.trod_array Tryz.underlying23 hf
  have e0 := hx 0 (by omega)
  have e1 := hx 1 (by omega)
  rw [hc2] at e0 e1
  have g0 : ∃ z, xs[0]? = some z := ⟨_, List.getElem?_eq_getElem (by omega)⟩
  have g1 : ∃ z, xs[1]? = some z := ⟨_, List.getElem?_eq_getElem (by omega)⟩
  obtain ⟨z0, g0⟩ := g0
  obtain ⟨z1, g1⟩ := g1
  rw [g0] at e0
  rw [g1] at e1
  obtain ⟨a, b, ea, eb⟩ := two_of e0
  obtain ⟨c, e, ec, ee⟩ := two_of e1
  match l, hsz with
  | [c0, c1, c2, c3], _ =>
    simp [Value.cells] at ea eb ec ee
    exact ⟨a, b, c, e, by rw [ea, eb, ec, ee]⟩
end
set_option maxRecDepth 100000 in
theorem lifted (os : Os) (started : os.Started) (H : Type) (enc : TypeId × Value → H) :
    ReturnsInHanded {} Tryz.checked os 3 .any (fun w args => (Rows.topServersSpec.pre enc Tryz.prog Tryz.f3 Rows.topServersRow.domain false w args ∧ laidMetH Tryz.prog Rows.topServersRow.laid w) ∧ sizedMet enc Tryz.prog Tryz.f3 (OpenSpec.ofChange Rows.topServersSpec) false w args)
      (Rows.topServersSpec.post enc Tryz.prog Tryz.f3 false true false false) := by
  refine returnsInHanded_of_change_and (C := Tryz.checked) (X := fun w _ => laidMetH Tryz.prog Rows.topServersRow.laid w) (fun _ _ _ hh h => h.of_heap hh) own started (by kernel_rfl) Tryz.func3
    (ChangeSpec.witness_shaped (enc := enc) (C := Tryz.checked) (os := os) (X := fun w _ => laidMetH Tryz.prog Rows.topServersRow.laid w) false (World.laidAll Tryz.prog os Rows.topServersRow.laid) #[.agg #[.int .i64 0, .int .i64 0, .int .i64 0, .int .i64 0], .slice none 0 0, .agg #[.int .i64 0, .int .i64 0]] 8 (World.laidAll_os _ _ _)
      (World.shaped_of_ZipB (by kernel_rfl) (by kernel_rfl)) (by kernel_rfl) (by kernel_rfl) (by kernel_rfl)
      (by rw [MakeChecks.laidMetH_plain _ _ _ (by kernel_rfl)]; exact laidMet_laidAll _ (by kernel_rfl) (by kernel_rfl))) ?_
  intro W base args ds gs before hval0 hW hc _ hL _
  have hval : ∀ (j : Nat) t v, Tryz.f3.params[j]? = some t → args[j]? = some v → Value.okWide Tryz.prog W .any base t v := hval0
  have hW' := hW
  obtain ⟨p, q, hA0, hV, rfl, _, _⟩ := hW
  have hA : DataW.TrodAll enc Tryz.prog W 0 (fun _ => true) true Tryz.f3.params.toList args.toList ds p := hA0
  rw [Tryz.params3] at hA hval
  obtain ⟨v0, vs0, d0, ds0, p0, q0, hargs, rfl, rfl, h0, r0⟩ := trodAll_cons hA
  obtain ⟨v1, vs1, d1, ds1, p1, q1, rfl, rfl, rfl, h1, r1⟩ := trodAll_cons r0
  obtain ⟨v2, vs2, d2, ds2, p2, q2, rfl, rfl, rfl, h2, r2⟩ := trodAll_cons r1
  obtain ⟨rfl, rfl, rfl⟩ := trodAll_nil r2
  obtain rfl : args = #[v0, v1, v2] := by cases args; simp_all
  obtain ⟨rfl, rfl⟩ := trodVars_none hV
  obtain ⟨a, b, c, e, rfl⟩ := open_four (hval 0 23 v0 rfl rfl) h0
  obtain ⟨x, y, rfl⟩ := open_two (hval 2 22 v2 rfl rfl) h2
  obtain ⟨a1, len1, cap1, rfl⟩ := okWide_slice Tryz.underlying24 (hval 1 24 v1 rfl rfl)
  have k0 := h0
  have k1 := h1
  have k2 := h2
  have lt0 : ∀ x ∈ p0, x.block < W.heap.size := by obtain ⟨m, hm⟩ := k0; exact DataW.trod_lt m _ _ _ hm
  have lt1 : ∀ x ∈ p1, x.block < W.heap.size := by obtain ⟨m, hm⟩ := k1; exact DataW.trod_lt m _ _ _ hm
  have lt2 : ∀ x ∈ p2, x.block < W.heap.size := by obtain ⟨m, hm⟩ := k2; exact DataW.trod_lt m _ _ _ hm
  have hsee : len1 ≤ 9223372036854775807 ∧ SeenI W a1 len1 := by
    obtain ⟨fuel, hf⟩ := h1
    rcases open_ints Tryz.underlying24 Tryz.underlying3 (by kernel_rfl) hf with ⟨hcs, _⟩ | ⟨ad, l, cp, zs, hcs, _, hl, hm, hz, _, hcell, hwz⟩
    · simp [Value.cells] at hcs
      obtain ⟨rfl, rfl, rfl⟩ := hcs
      exact ⟨by omega, fun k hk => by omega⟩
    · simp [Value.cells] at hcs
      obtain ⟨rfl, rfl, rfl⟩ := hcs
      simp at hz
      refine ⟨by unfold maxLen at hm; omega, fun k hk => ?_⟩
      have hck := hcell k (by omega)
      have hmem : zs.getD k 0 ∈ zs := by
        rw [List.getD_eq_getElem?_getD, List.getElem?_eq_getElem (by omega)]
        exact List.getElem_mem _
      have hc0 := hcell 0 (by omega)
      obtain ⟨bb, off, sp⟩ := ad
      cases sp with
      | none =>
        have hadd : (⟨bb, off, none⟩ : Addr).add k = ⟨bb, off + k, none⟩ := by
          by_cases e : k = 0
          · subst e; simp [Addr.add]
          · simp [Addr.add, e]
        rw [hadd] at hck
        exact ⟨bb, off, rfl, by simpa using block_lt_of_cell hck, _, hck, hwz _ hmem⟩
      | some z =>
        exfalso
        have hadd : (⟨bb, off, some z⟩ : Addr).add 0 = ⟨bb, off, some z⟩ := by simp [Addr.add]
        rw [hadd] at hc0
        unfold World.cell? at hc0
        split at hc0
        · simp at hc0
        · cases hc0
  simp only [List.append_nil] at hW'
  refine (top_any W a b c e x y a1 len1 cap1 hsee).mono fun r W' ⟨he, bel⟩ => ?_
  subst he
  exact ⟨_, rfl, _, _, _, [], _, [], hW', trodAll_mk1 (shut_bool Tryz.underlying4 _), (trodAll_cons_mk (Below.trod laidOut (by kernel_rfl) (of_decide_eq_true (by kernel_rfl)) k0 bel lt0) (trodAll_cons_mk (Below.trod laidOut (by kernel_rfl) (of_decide_eq_true (by kernel_rfl)) k1 bel lt1) (trodAll_cons_mk (Below.trod laidOut (by kernel_rfl) (of_decide_eq_true (by kernel_rfl)) k2 bel lt2) trodAll_mk0))), rfl, bel.frame _, fun h => by cases h⟩
theorem over : Rows.topServersRow.holds Tryz.pinned (OpenSpec.ofChange Rows.topServersSpec) :=
  OpenClaim.holds_of_wide 3 Tryz.f3 rfl rfl rfl rfl rfl rfl rfl ⟨rfl, rfl, rfl, rfl, rfl⟩ rfl rfl rfl rfl rfl (by kernel_rfl) Tryz.func3 (by kernel_rfl)
    (of_decide_eq_true (by kernel_rfl)) (by unfold Func.isWrapper; first | (rw [if_pos (by decide +kernel)]; kernel_rfl) | (rw [if_neg (by decide +kernel)]; exact ⟨rfl, rfl⟩))
    (fun os started H enc _ => lifted os started H enc)
/-- THE STATEMENT. -/
theorem proved : Rows.TopServersCardSaid :=
  Claim7.holds_tied_plain_at .later [] [.data, .pinned] true (true, "cdc6802fbaae6ee098edb7346e596693a794de033e7349374dc41c2c1b404505") true over (fun _ h => by cases h) (by kernel_rfl) (fun _ h => by cases h) topServers_row_tie rfl ⟨rfl, rfl⟩ (by kernel_rfl) rfl
    (fun f fn hf hfn => by
      obtain rfl : f = 3 := Option.some.inj ((show Tryz.prog.funcNamed "horarium/horariumtop.TopServers" = some 3 by kernel_rfl).symm.trans hf) |>.symm
      obtain rfl : fn = Tryz.f3 := (Option.some.inj (Tryz.func3.symm.trans hfn)).symm
      exact ⟨by kernel_rfl, fun j t ht => by
        rw [Tryz.params3] at ht
        have hm : t ∈ [23, 24, 22] := by simpa using Array.mem_of_getElem? ht
        have hall : ([23, 24, 22].all fun u => !Tryz.prog.wantsStandIn u) = true := by kernel_rfl
        exact (show Tryz.prog.wantsStandIn t = false by simpa using List.all_eq_true.1 hall t hm)⟩)
    (by kernel_rfl)
#print axioms proved
end Go.Proofs.YtoichcickcgbgaaGreatDoor.topServers
