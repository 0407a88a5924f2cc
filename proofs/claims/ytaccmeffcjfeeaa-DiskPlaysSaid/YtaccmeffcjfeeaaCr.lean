/-
  Crash: open writes are lost, or there, or a part of them.
-/
import Derived.Test.YtaccmeffcjfeeaaFl
import Derived.Deep.RegionHeldLaw
import Derived.Deep.DeepCutAuto
import Derived.Deep.CutBlock
namespace Go.Proofs.Ytaccmeffcjfeeaa
open Go.RowKit
set_option linter.unusedSimpArgs false

def restN (n : Int) (c : Nat) : Nat := ((n.tmod c + c) % c).toNat
theorem rest_eq (n : Int) (c : Nat) (hc : 0 < c) : (n.tmod c + c) % c = (restN n c : Int) := by
  unfold restN
  have h0 := Int.emod_nonneg (n.tmod (c : Int) + c) (b := (c : Int)) (by omega)
  omega
theorem rest_lt (n : Int) (c : Nat) (hc : 0 < c) : restN n c < c := by
  have h := rest_eq n c hc
  have h2 := Int.emod_lt_of_pos (n.tmod (c : Int) + c) (b := (c : Int)) (by omega)
  omega
theorem tmod_in (n : Int) (c : Nat) (hc : 0 < c) : -(c : Int) < n.tmod c ∧ n.tmod c < c := by
  have h1 := Int.tmod_lt_of_pos n (b := (c : Int)) (by omega)
  have h2 := Int.tmod_lt_of_pos (-n) (b := (c : Int)) (by omega)
  rw [Int.neg_tmod] at h2
  omega
theorem rest_any (n : Int) (c : Nat) (hc : 0 < c) (hc2 : c ≤ 1000) (q : Nat) (hq : restN n c = q) (w : World) :
    Calls Try.prog 30 #[.int .i64 n, .int .i64 c] w fun e w' => e = .returned (.int .i64 q) ∧ w = w' := by
  have he := rest_eq n c hc
  rw [hq] at he
  obtain ⟨h1, h2⟩ := tmod_in n c hc
  have hz : (c : Int) ≠ 0 := by omega
  have hz2 : ((c : Int) == 0) = false := by rw [beq_eq_false_iff_ne]; omega
  have HE := Lib.hid he
  clear he
  go_enter Try.func30, Try.ntmps30
  go_wp2
  go_ret
  exact ⟨congrArg (fun x => Ending.returned (Value.int .i64 x)) HE.out, rfl⟩

/-- How many bytes of a write are there. -/
def leftN (K A : Int) : Nat := if restN K 3 = 1 then 64 else if restN K 3 = 2 then restN A 65 else 0
theorem left_le (K A : Int) : leftN K A ≤ 64 := by
  unfold leftN
  have := rest_lt A 65 (by omega)
  split
  · omega
  · split <;> omega
theorem left_any (K A : Int) (q : Nat) (hq : leftN K A = q) (w : World) :
    Calls Try.prog 28 #[.agg #[.int .i64 K, .int .i64 A]] w fun e w' => e = .returned (.int .i64 q) ∧ Below w.heap.size w w' := by
  unfold leftN at hq
  have r3 := rest_any K 3 (by omega) (by omega)
  have r65 := rest_any A 65 (by omega) (by omega) (restN A 65) rfl
  have hlt := rest_lt K 3 (by omega)
  obtain ⟨k, hk⟩ : ∃ k, restN K 3 = k := ⟨_, rfl⟩
  rw [hk] at hq hlt
  have r3 := r3 k hk
  have R3 := Lib.hid r3
  have R65 := Lib.hid r65
  clear r3 r65 hk
  have hk3 : k = 0 ∨ k = 1 ∨ k = 2 := by omega
  clear hlt
  rcases hk3 with rfl | rfl | rfl
  · simp at hq
    subst hq
    go_enter Try.func28, Try.ntmps28
    go_wp2_with (go_at_call 30; refine (R3.out _).mono ?_; rintro e w1 ⟨rfl, rfl⟩)
    go_ret
    exact ⟨rfl, (Below.refl _ _).alloc (Nat.le_refl _) _⟩
  · simp at hq
    subst hq
    go_enter Try.func28, Try.ntmps28
    go_wp2_with (go_at_call 30; refine (R3.out _).mono ?_; rintro e w1 ⟨rfl, rfl⟩)
    go_ret
    exact ⟨rfl, (Below.refl _ _).alloc (Nat.le_refl _) _⟩
  · simp at hq
    rw [hq] at R65
    clear hq
    have tok1 : True := trivial
    go_enter Try.func28, Try.ntmps28
    go_wp2_with (first | (go_at_call 30; have _t := tok1; refine (R3.out _).mono ?_; rintro e w1 ⟨rfl, rfl⟩; clear tok1) | (go_at_call 30; refine (R65.out _).mono ?_; rintro e w1 ⟨rfl, rfl⟩))
    go_ret
    exact ⟨rfl, (Below.refl _ _).alloc (Nat.le_refl _) _⟩

/-! ### The fates -/
/-- The list of fates that came in. -/
def Fates (w : World) (la : Option Addr) (F : List (Int × Int)) : Prop := ∀ i (h : i < F.length), ∃ c off, la = some ⟨c, off, none⟩ ∧ w.cell? ⟨c, off + i * 2, none⟩ = some (.int .i64 (F[i]).1) ∧ w.cell? ⟨c, off + i * 2 + 1, none⟩ = some (.int .i64 (F[i]).2)
/-- How much of write i is there. -/
def lf (F : List (Int × Int)) (i : Nat) : Nat := match F[i]? with | some q => leftN q.1 q.2 | none => 0
theorem lf_le (F : List (Int × Int)) (i : Nat) : lf F i ≤ 64 := by
  unfold lf
  split
  · exact left_le _ _
  · omega
def crS (F : List (Int × Int)) : Nat → List (List UInt8) → List (Nat × List UInt8) → List (List UInt8)
  | _, S, [] => S
  | i, S, p :: O => crS F (i + 1) (S.set p.1 (p.2.take (lf F i) ++ (S.getD p.1 []).drop (lf F i))) O
def crN (F : List (Int × Int)) : Nat → List (Nat × List UInt8) → Nat
  | _, [] => 0
  | i, _ :: O => (if lf F i = 64 then 0 else 1) + crN F (i + 1) O
theorem crN_le (F : List (Int × Int)) : ∀ (O : List (Nat × List UInt8)) (i : Nat), crN F i O ≤ O.length
  | [], _ => by simp [crN]
  | p :: O, i => by
    have := crN_le F O (i + 1)
    simp only [crN, List.length_cons]
    split <;> omega

theorem crash_nil (w : World) : Calls Try.prog 13 #[.pointer none, .slice none 0 0] w fun e w' => e = .returned (.int .i64 0) ∧ w = w' := by
  go_enter Try.func13, Try.ntmps13
  go_wp2
  go_step3
  go_wp2
  rw [Exit.noGoto_ret]
  go_ret
  exact ⟨rfl, rfl⟩

/-- copy between two rows, as a step of a region that draws. -/
theorem step_copy_mid {ops : Array Oper} {o : Oper} {a : Act} {w : World} {K : Act → World → Prop} {Q : Exit → Act → World → Prop} {E : Prop} (hg : o.guard = none) (x y : Operand)
    (hop : o.op = .call { callee := .builtin .copy, args := #[x, y], argTypes := #[60, 60] }) (b off dLen dCap : Nat) (ad : Addr) (sLen sCap : Nat) (cs : List Value)
    (hx : a.eval x = .slice (some ⟨b, off, none⟩) dLen dCap) (hy : a.eval y = .slice (some ad) sLen sCap) (hn : cs.length = Nat.min sLen dLen)
    (hsrc : ∀ j v, cs[j]? = some v → w.cell? (ad.add j) = some v) (ht : w.there b off cs.length) (h1 : ∀ v ∈ cs, v.oneCell' = true)
    (hK : K (a.put o.dst (goInt cs.length)) (w.setCells b off cs)) : if Region.wanted o (yielded ops a.tmps) = true then Oper.wp Try.prog o a w K Q else E := by
  have hw : Region.wanted o (yielded ops a.tmps) = true := by simp [Region.wanted, hg]
  rw [if_pos hw]
  have hrun := run_copy_cells (P := Try.prog) w 60 60 o.type 5 b off dLen dCap ad sLen sCap cs Try.underlying60 (by kernel_rfl) hn hsrc (fun j hj => (ht j hj).1) (fun j hj => (ht j hj).2) h1
  unfold Oper.wp
  simp [execOp, hop, resolve, invoke, builtin, hx, hy, hrun, Result.andThen]
  exact hK

section
variable {w : World} {b s n : Nat} {S : List (List UInt8)} {O : List (Nat × List UInt8)} {m : Nat} {oa : Option Addr} {cap : Nat} {f r : Int}
theorem Dk.crashed (h : Dk w b s n S O m oa cap f r) :
    Dk (((w.setCell ⟨b, 1, none⟩ (.slice none 0 0)).setCell ⟨b, 2, none⟩ (.int .i64 0)).setCell ⟨b, 3, none⟩ (.int .i64 0)) b s n S [] 0 none 0 0 0 :=
  (h.shut.setf 0 (by omega) (by omega)).setr 0 (by omega) (by omega)

set_option maxRecDepth 100000 in
set_option maxHeartbeats 4000000 in
theorem crash_any (h : Dk w b s n S O m oa cap f r) (la : Option Addr) (F : List (Int × Int)) (len lcap : Nat) (hF : Fates w la F) (hlen : F.length = len) (hl63 : len ≤ 9223372036854775807) (hfar : 0 < len → ∀ c off, la = some ⟨c, off, none⟩ → c ≠ b ∧ c ≠ s ∧ (Value.slice oa 0 0).ownBlock ≠ some c) :
    Calls Try.prog 13 #[.pointer (some ⟨b, 0, none⟩), .slice la len lcap] w fun e w' => e = .returned (.int .i64 (crN F 0 O : Nat)) ∧ Dk w' b s n (crS F 0 S O) [] 0 none 0 0 0 ∧ Moved w w' b s oa := by
  have hn := h.hi
  have hfew := h.few
  have HM := Lib.hid h.many
  have HO := Lib.hid h.oall
  have hNle := crN_le F O 0
  rw [h.many] at hNle
  obtain ⟨R, hR⟩ : ∃ R, crS F 0 S O = R := ⟨_, rfl⟩
  obtain ⟨N, hN⟩ : ∃ N, crN F 0 O = N := ⟨_, rfl⟩
  rw [hR, hN]
  rw [hN] at hNle
  have HR := Lib.hid hR
  have HN := Lib.hid hN
  have HL := Lib.hid hlen
  have HF := Lib.hid hF
  have HFAR := Lib.hid hfar
  have d1 := h.c1
  clear hR hN hlen hF hfar
  go_enter Try.func13, Try.ntmps13
  go_wp2
  go_step3
  go_wp2
  go_step3
  go_wp2
  clear d1
  go_loopw [5, 16] (fun l5 i wr => ∃ (q lost : Nat) (C : List (List UInt8)), q ≤ m ∧ i = .int .i64 q ∧ l5 = .int .i64 lost ∧ Dk wr b s n C O m oa cap f r ∧ Hid (crS F q C (O.drop q) = R) ∧ Hid (lost + crN F q (O.drop q) = N) ∧ lost ≤ 1000 ∧ Moved w wr b s oa) (fun _ i _ => m - (intOf i).toNat)
  case atStart => exact ⟨0, 0, S, by omega, rfl, rfl, h, HR.out, by show 0 + _ = N; rw [Nat.zero_add]; exact HN.out, by omega, Moved.refl _ _ _ _⟩
  case round =>
    obtain ⟨q, lost, C, hq, rfl, rfl, hDr, hcur, hlost, hl1000, hMr⟩ := hrel
    by_cases hlt : q < m
    · obtain ⟨g, rfl, hgb, hgs, hgw⟩ := hDr.spot (by omega)
      obtain ⟨p, hp⟩ : ∃ p, O[q]? = some p := ⟨_, List.getElem?_eq_getElem (by rw [HM.out]; exact hlt)⟩
      obtain ⟨hpn, hp64⟩ := HO.out p (List.mem_of_getElem? hp)
      have hrow := hDr.openAt q hlt p hp g rfl
      have hqO : q < O.length := by rw [HM.out]; exact hlt
      have hpe : O[q] = p := by rw [List.getElem?_eq_getElem hqO] at hp; exact Option.some.inj hp
      have hdrop : O.drop q = p :: O.drop (q + 1) := by rw [List.drop_eq_getElem_cons hqO, hpe]
      have hcC : p.1 < C.length := by rw [hDr.len]; exact hpn
      obtain ⟨y, hy⟩ : ∃ y, C[p.1]? = some y := ⟨_, List.getElem?_eq_getElem hcC⟩
      have hyD : C.getD p.1 [] = y := by simp [hy]
      have hc2 := hcur.out
      have hn2 := hlost.out
      rw [hdrop] at hc2 hn2
      simp only [crS, crN, hyD] at hc2 hn2
      obtain ⟨v, hv⟩ : ∃ v, lf F q = v := ⟨_, rfl⟩
      have hv64 : v ≤ 64 := by rw [← hv]; exact lf_le _ _
      rw [hv] at hc2 hn2
      have HV := Lib.hid hv
      have hcur2 := Lib.hid hc2
      have hlost2 := Lib.hid hn2
      have i64a : Hid ((Try.prog.info? 64).map (·.size) = some (oc p).length) := by show _ = _; rw [info64, oc_len hp64]
      have i64b : Hid ((Try.prog.info? 64).map (·.size) = some (oc p).toArray.size) := by show _ = _; rw [info64]; simp [oc_len hp64]
      have ho1 := all_one (oc_one p)
      have hp65 : Hid ((oc p).length = 65) := oc_len hp64
      have hDa := hDr.below ((Below.refl _ _).alloc (Nat.le_refl _) (Obj.cells (oc p).toArray 64))
      have hMa : Moved w (wr.alloc (.cells (oc p).toArray 64)) b s (some ⟨g, 0, none⟩) := hMr.trans (Moved.below ((Below.refl _ _).alloc (Nat.le_refl _) _))
      have hc0 : (wr.alloc (.cells (oc p).toArray 64)).cell? ⟨wr.heap.size, 0, none⟩ = some (.int .i64 (p.1 : Int)) := cellAt (heap_alloc_new _ _) 0 (by simp [oc])
      have hrow2 : (wr.alloc (.cells (oc p).toArray 64)).rangeAt wr.heap.size 1 (bc p.2) := fun j v hv => cellAt (heap_alloc_new _ _) (1 + j) (by rw [Nat.add_comm]; simpa [oc] using hv)
      have hbs : Hid (wr.heap.size ≠ s) := by show wr.heap.size ≠ s; have := hDr.lts; omega
      have HP := Lib.hid hp64
      have HY := Lib.hid hy
      clear hp hpe hp64 hqO hcC hy hdrop hc2 hn2 hv hyD hcur hlost
      go_upto_region 7 with (first
        | (refine wpList_load_mid rfl 64 _ rfl g (q * 65) rfl (oc p) _ hrow Try.underlying64 rfl i64a.out ?_)
        | (refine wpList_alloc_big 64 65 zero64 rfl rfl ?_; intro Z hZ)
        | (refine wpList_store_row rfl 64 _ _ rfl _ (oc p).toArray rfl rfl 64 _ (heap_alloc_new _ _) i64b.out ?_ ho1 ?_; (simp [hp65.out, hZ.out]); rw [World.setRow_alloc_new]))
      by_cases hi : q < len
      · have hqF : q < F.length := by rw [HL.out]; exact hi
        obtain ⟨c, off, rfl, hf0, hf1⟩ := HF.out q hqF
        obtain ⟨far1, far2, far3⟩ := HFAR.out (by omega) c off rfl
        have hcw : c < w.heap.size := by simpa using block_lt_of_cell hf0
        have hblk : (wr.alloc (.cells (oc p).toArray 64)).heap[c]? = w.heap[c]? := hMa.block c hcw far1 far2 far3
        obtain ⟨KA, hKA⟩ : ∃ KA, F[q] = KA := ⟨_, rfl⟩
        rw [hKA] at hf0 hf1
        have hf0' : (wr.alloc (.cells (oc p).toArray 64)).cell? ⟨c, off + q * 2, none⟩ = some (.int .i64 KA.1) := (World.cell?_of_block hblk).trans hf0
        have hf1' : (wr.alloc (.cells (oc p).toArray 64)).cell? ⟨c, off + q * 2 + 1, none⟩ = some (.int .i64 KA.2) := (World.cell?_of_block hblk).trans hf1
        have hleft : leftN KA.1 KA.2 = v := by
          have := HV.out
          unfold lf at this
          rw [List.getElem?_eq_getElem hqF, hKA] at this
          exact this
        have HLEFT := Lib.hid hleft
        clear hf0 hf1 hblk hKA hqF hleft
        generalize wr.alloc (.cells (oc p).toArray 64) = W at *
        generalize wr.heap.size = B7 at *
        go_upto_region 10 with (go_at_call 28; refine (left_any KA.1 KA.2 v HLEFT.out _).mono ?_; rintro e W5 ⟨rfl, hb5⟩)
        have hD5 := hDa.below hb5
        have hM5 := hMa.trans (Moved.below hb5)
        have hB7 : B7 < W.heap.size := by simpa using block_lt_of_cell hc0
        have hc5 : W5.cell? ⟨B7, 0, none⟩ = some (.int .i64 (p.1 : Int)) := (hb5.cell (p := ⟨B7, 0, none⟩) hB7).trans hc0
        have hr5 : W5.rangeAt B7 1 (bc p.2) := fun j u hu => (hb5.cell (p := ⟨B7, 1 + j, none⟩) hB7).trans (hrow2 j u hu)
        clear hDa hMa hc0 hrow2 hf0' hf1' hb5 hB7
        have e0 := hD5.c0
        have e1 : W5.drew.cell? ⟨B7, 0, none⟩ = some (.int .i64 (p.1 : Int)) := hc5
        have e2 : W5.drew.cell? ⟨b, 0, none⟩ = some (.slice (some ⟨s, 0, none⟩) n n) := e0
        have e3 : W5.drew.rangeAt B7 1 (bc p.2) := hr5
        have hsrc : ∀ j u, (bc (p.2.take v))[j]? = some u → W5.drew.cell? ((⟨B7, 1, none⟩ : Addr).add j) = some u := by
          intro j u hu
          rw [Addr.add_mid]
          refine e3 j u ?_
          simp only [bc, List.getElem?_map, List.getElem?_take] at hu ⊢
          split at hu
          · exact hu
          · simp at hu
        have hth : W5.drew.there s (p.1 * 64) (bc (p.2.take v)).length := by
          have hD5' : Dk W5.drew b s n C O m (some ⟨g, 0, none⟩) cap f r := hD5.keep fun _ _ _ => rfl
          exact hD5'.room p.1 hpn _ (by rw [bc_len, List.length_take]; omega)
        have hlenv : (bc (p.2.take v)).length = Nat.min v v := by
          have e : Nat.min v v = v := Nat.min_self v
          rw [bc_len, List.length_take, HP.out, e]; omega
        have hone2 := bc_one (p.2.take v)
        have hpn' : (p.1 : Int) < (n : Int) := by omega
        have hv64' : (v : Int) ≤ 64 := by omega
        go_region_held_law (fun w' => w'.cell? ⟨b, 0, none⟩ = some (.slice (some ⟨s, 0, none⟩) n n) ∧ w'.cell? ⟨B7, 0, none⟩ = some (.int .i64 (p.1 : Int)))
          (first | exact ⟨e2, e1⟩ | exact ⟨(setCells_cell hD5.ne).trans e2, (setCells_cell hbs.out).trans e1⟩)
          (refine step_copy_mid rfl (.tmp 38) (.tmp 41) rfl s (p.1 * 64) v 64 ⟨B7, 1, none⟩ v 64 (bc (p.2.take v)) rfl rfl hlenv hsrc hth hone2 ?_)
        have hD5' : Dk W5.drew b s n C O m (some ⟨g, 0, none⟩) cap f r := hD5.keep fun _ _ _ => rfl
        obtain ⟨hD6, hM6⟩ := hD5'.over p.1 hpn y (p.2.take v) HY.out (by rw [List.length_take]; omega)
        have hlv : (p.2.take v).length = v := by rw [List.length_take, HP.out]; omega
        rw [hlv] at hD6
        have hM7 : Moved w (W5.drew.setCells s (p.1 * 64) (bc (p.2.take v))) b s (some ⟨g, 0, none⟩) := (hM5.trans (Moved.below (Below.refl _ _).drew)).trans hM6
        clear e0 e1 e2 e3 hsrc hth hlenv hone2 hlv hD5' hM6
        generalize W5.drew.setCells s (p.1 * 64) (bc (p.2.take v)) = W6 at *
        by_cases hfull : v = 64
        · have hn3 := hlost2.out
          rw [if_pos hfull, Nat.zero_add] at hn3
          have HN3 := Lib.hid hn3
          subst hfull
          clear hn3
          go_wp2
          go_roundw
          case rel => exact ⟨q + 1, lost, _, by omega, by go_num, rfl, hD6, hcur2, HN3, hl1000, hM7⟩
          case measure => simp [intOf]; omega
        · have hn3 := hlost2.out
          rw [if_neg hfull, ← Nat.add_assoc] at hn3
          have hl2 : lost + 1 ≤ 1000 := by omega
          have HN3 := Lib.hid hn3
          have hvne : ((v : Int) == 64) = false := by rw [beq_eq_false_iff_ne]; omega
          clear hn3
          go_wp2
          go_roundw
          case rel => exact ⟨q + 1, lost + 1, _, by omega, by go_num, by go_num, hD6, hcur2, HN3, hl2, hM7⟩
          case measure => simp [intOf]; omega
      · have hqF : ¬ q < F.length := by rw [HL.out]; exact hi
        have hv0 : v = 0 := by
          have := HV.out
          unfold lf at this
          rw [List.getElem?_eq_none (by omega)] at this
          exact this.symm
        subst hv0
        clear hqF
        generalize wr.alloc (.cells (oc p).toArray 64) = W5 at *
        generalize wr.heap.size = B7 at *
        go_upto_region 10 with fail
        have hD5 := hDa
        have hM5 := hMa
        have hc5 := hc0
        have hr5 := hrow2
        clear hDa hMa hc0 hrow2
        have e0 := hD5.c0
        have e1 : W5.drew.cell? ⟨B7, 0, none⟩ = some (.int .i64 (p.1 : Int)) := hc5
        have e2 : W5.drew.cell? ⟨b, 0, none⟩ = some (.slice (some ⟨s, 0, none⟩) n n) := e0
        have e3 : W5.drew.rangeAt B7 1 (bc p.2) := hr5
        have hsrc : ∀ j u, (bc (p.2.take 0))[j]? = some u → W5.drew.cell? ((⟨B7, 1, none⟩ : Addr).add j) = some u := by
          intro j u hu
          rw [Addr.add_mid]
          refine e3 j u ?_
          simp only [bc, List.getElem?_map, List.getElem?_take] at hu ⊢
          split at hu
          · exact hu
          · simp at hu
        have hth : W5.drew.there s (p.1 * 64) (bc (p.2.take 0)).length := by
          have hD5' : Dk W5.drew b s n C O m (some ⟨g, 0, none⟩) cap f r := hD5.keep fun _ _ _ => rfl
          exact hD5'.room p.1 hpn _ (by rw [bc_len, List.length_take]; omega)
        have hlenv : (bc (p.2.take 0)).length = Nat.min 0 0 := by
          have e : Nat.min 0 0 = 0 := Nat.min_self 0
          rw [bc_len, List.length_take, HP.out, e]; omega
        have hone2 := bc_one (p.2.take 0)
        have hpn' : (p.1 : Int) < (n : Int) := by omega
        have hv64' : ((0 : Nat) : Int) ≤ 64 := by omega
        go_region_held_law (fun w' => w'.cell? ⟨b, 0, none⟩ = some (.slice (some ⟨s, 0, none⟩) n n) ∧ w'.cell? ⟨B7, 0, none⟩ = some (.int .i64 (p.1 : Int)))
          (first | exact ⟨e2, e1⟩ | exact ⟨(setCells_cell hD5.ne).trans e2, (setCells_cell hbs.out).trans e1⟩)
          (refine step_copy_mid rfl (.tmp 38) (.tmp 41) rfl s (p.1 * 64) 0 64 ⟨B7, 1, none⟩ 0 64 (bc (p.2.take 0)) rfl rfl hlenv hsrc hth hone2 ?_)
        have hD5' : Dk W5.drew b s n C O m (some ⟨g, 0, none⟩) cap f r := hD5.keep fun _ _ _ => rfl
        obtain ⟨hD6, hM6⟩ := hD5'.over p.1 hpn y (p.2.take 0) HY.out (by rw [List.length_take]; omega)
        have hlv : (p.2.take 0).length = 0 := by rw [List.length_take, HP.out]; omega
        rw [hlv] at hD6
        have hM7 : Moved w (W5.drew.setCells s (p.1 * 64) (bc (p.2.take 0))) b s (some ⟨g, 0, none⟩) := (hM5.trans (Moved.below (Below.refl _ _).drew)).trans hM6
        clear e0 e1 e2 e3 hsrc hth hlenv hone2 hlv hD5' hM6
        generalize W5.drew.setCells s (p.1 * 64) (bc (p.2.take 0)) = W6 at *
        have hn3 := hlost2.out
        rw [if_neg (by decide), ← Nat.add_assoc] at hn3
        have hl2 : lost + 1 ≤ 1000 := by omega
        have HN3 := Lib.hid hn3
        clear hn3
        go_wp2
        go_roundw
        case rel => exact ⟨q + 1, lost + 1, _, by omega, by go_num, by go_num, hD6, hcur2, HN3, hl2, hM7⟩
        case measure => simp [intOf]; omega
    · obtain rfl : q = m := by omega
      have hc2 := hcur.out
      have hn2 := hlost.out
      rw [List.drop_of_length_le (by rw [HM.out]; exact Nat.le_refl _)] at hc2 hn2
      simp only [crS, crN, Nat.add_zero] at hc2 hn2
      subst hc2 hn2
      have d1 := hDr.c1
      have d2 := hDr.fr 1
      have d3 := hDr.c2
      have d4 := hDr.fr 2
      have d5 := hDr.c3
      have d6 := hDr.fr 3
      have hDS := hDr.crashed
      have hMS := ((Moved.set wr b s oa 1 (.slice none 0 0)).trans (Moved.set _ b s oa 2 (.int .i64 0))).trans (Moved.set _ b s oa 3 (.int .i64 0))
      go_wp2_with fail
      rw [Exit.noGoto_ret]
      go_ret
      exact ⟨rfl, hDS, hMr.trans hMS⟩
end

end Go.Proofs.Ytaccmeffcjfeeaa
