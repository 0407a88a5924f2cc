/-
  heap.List: the jobs as a row.
  edf: Pending, Has, Idle, Add.
  edf.Late: some of the jobs.
-/
import Derived.Test.YtoichcickcgbgaaGreatDoorGHeRb
namespace Go.Proofs.YtoichcickcgbgaaGreatDoor
open Go.RowKit
attribute [local go_sem] Oper.semAt_some
attribute [local go_sem] run_store_func
theorem info137 : (Tryz.prog.info? 137).map (fun i => (i.zero, i.size, i.bytes)) = some (some (.agg #[.int .i64 0, .int .i64 0, .int .i64 0, .int .i64 0]), 4, 32) := by kernel_rfl
theorem jc_one (rs : List Jb) : ∀ u ∈ rs.flatMap jc, u.oneCell' = true := by
  intro u hu
  obtain ⟨r, _, hr⟩ := List.mem_flatMap.1 hu
  simp only [jc, List.mem_cons, List.not_mem_nil, or_false] at hr
  rcases hr with rfl | rfl | rfl | rfl <;> rfl
theorem own_keep {w w' : World} {B : Nat} {e : TypeId} {size n : Nat} {v : Value} {xs : List Value} (h : w.ownsRow B e size v n xs) (k : ∀ g, v.ownBlock = some g → w'.heap[g]? = w.heap[g]?) : w'.ownsRow B e size v n xs := by
  refine ⟨h.1, ?_⟩
  rcases h.2 with h2 | ⟨g, cap, cur, hv, h3, h4, h5⟩
  · exact .inl h2
  · exact .inr ⟨g, cap, cur, hv, h3, (k g (by rw [hv]; rfl)).trans h4, h5⟩
theorem own_cells {w : World} {B : Nat} {e : TypeId} {size n : Nat} {v : Value} {xs : List Value} (h : w.ownsRow B e size v n xs) {g : Nat} (hg : v.ownBlock = some g) : ∃ cur, w.heap[g]? = some (.cells cur e (0, 0)) := by
  rcases h.2 with ⟨rfl, _⟩ | ⟨g', cap, cur, rfl, _, hb, _⟩
  · simp [Value.ownBlock] at hg
  · have : g' = g := by simpa [Value.ownBlock] using hg
    subst this
    exact ⟨_, hb⟩
theorem own_slice {w : World} {B : Nat} {e : TypeId} {size n : Nat} {v : Value} {xs : List Value} (h : w.ownsRow B e size v n xs) : ∃ oa cap, v = .slice oa n cap := by
  rcases h.2 with ⟨rfl, rfl⟩ | ⟨g', cap, cur, rfl, _⟩
  · exact ⟨_, _, rfl⟩
  · exact ⟨_, _, rfl⟩
theorem own_nil (w : World) (B : Nat) (e : TypeId) (size : Nat) : w.ownsRow B e size (.slice none 0 0) 0 [] := ⟨by simp, .inl ⟨rfl, rfl⟩⟩
/-- What a list has come to; b, b + 1 are the loop's own blocks. -/
def Lst (w : World) (b bh h : Nat) (xs : List Jb) (W : World) : Prop := Bx W bh 134 [.pointer (some ⟨h, 0, none⟩)] ∧ ∃ oa cap, Bx W w.heap.size 38 [.slice oa xs.length cap] ∧ W.ownsRow w.heap.size 137 4 (.slice oa xs.length cap) xs.length (xs.flatMap jc) ∧ Below w.heap.size w W ∧ ∀ g, Value.ownBlock (.slice oa xs.length cap) = some g → g ≠ b ∧ g ≠ b + 1
theorem Lst.turn {S : Nat → Prop} {w A B : World} {b bh hh : Nat} {xs : List Jb} (h : Lst w b bh hh xs A) (t : Turn S A B) (hS : ∀ k, S k → k = b ∨ k = b + 1) (hb : w.heap.size < b) (hbh : bh < b) : Lst w b bh hh xs B := by
  obtain ⟨h0, oa, cap, h1, h2, h3, h4⟩ := h
  refine ⟨h0.turn t (fun e => by have := hS _ e; omega), oa, cap, h1.turn t (fun e => by have := hS _ e; omega), own_keep h2 (fun g hg => ?_), Turn.to h3 t h3.size (fun k hk => by have := hS _ hk; omega), h4⟩
  obtain ⟨cur, hc⟩ := own_cells h2 hg
  exact t.block g (Array.getElem?_eq_some_iff.1 hc).1 (fun e => by have := hS _ e; have := h4 g hg; omega)
set_option maxRecDepth 100000 in
theorem jobs_all (w : World) (h : Nat) : Calls Tryz.prog 116 #[.pointer (some ⟨h, 0, none⟩)] w fun e w' => e = .returned (.func (.func 165) #[] #[.pointer (some ⟨w.heap.size, 0, none⟩)]) ∧ Bx w' w.heap.size 134 [.pointer (some ⟨h, 0, none⟩)] ∧ Below w.heap.size w w' := by
  go_enter Tryz.func116, Tryz.ntmps116
  go_wp2
  go_ret
  exact ⟨rfl, Bx.new w [.pointer (some ⟨h, 0, none⟩)] 134, (Below.refl _ _).alloc (Nat.le_refl _) _⟩
set_option maxRecDepth 100000 in
set_option maxHeartbeats 2000000 in
theorem hlist_any {w : World} {h : Nat} {js : List Jb} (hp : Hp w h js) :
    Calls Tryz.prog 81 #[.pointer (some ⟨h, 0, none⟩)] w fun e w' => ∃ v, e = .returned v ∧ w'.ownsRow w.heap.size 137 4 v js.length (js.flatMap jc) ∧ Below w.heap.size w w' := by
  obtain ⟨oc, n, hH, hN⟩ := hp.nv
  have HP := Lib.hid hp
  have HH := Lib.hid hH
  have HN := Lib.hid hN
  have hhB : h < w.heap.size := Bx.lt hH
  have HLEN := Lib.hid hN.len
  clear hp hH hN
  refine (callsIn_wide (n := 3)).1 ?_
  refine callsIn_of_wp_marks Tryz.func81 rfl trivial ?_ rfl
  simp only [Tryz.ntmps81, List.size_toArray, List.length_cons, List.length_nil, Nat.reduceAdd, Nat.reduceSub, Array.replicate_succ, Array.replicate_zero, List.push_toArray, List.append_toArray, List.nil_append, List.cons_append]
  refine wpIn_wide.2 ?_
  go_wp2_with fail
  refine (none_any HH.out).mono ?_
  rintro e w0 ⟨rfl, rfl⟩
  have bA := (Below.refl w.heap.size w).alloc (Nat.le_refl _) (.cells #[.slice none 0 0] 38)
  have HE := Lib.hid (Bx.new w [.slice none 0 0] 38)
  have HHA : Hid (Hx _ h _ n) := Bx.below HH.out bA
  have HNA := Lib.hid (HN.out.keep fun k _ hl => bA.block k hl)
  have HBA := Lib.hid bA
  have hsA : w.heap.size < (w.alloc (.cells #[.slice none 0 0] 38)).heap.size := HE.out.lt
  clear bA HH HN HP
  go_wp2_with fail
  generalize w.alloc (.cells #[.slice none 0 0] 38) = wA at *
  refine (jobs_all _ _).mono ?_
  rintro e w1 ⟨rfl, hB1, b1⟩
  have HE1 : Hid (Bx w1 w.heap.size 38 [.slice none 0 0]) := HE.out.below b1
  have HH1 : Hid (Hx w1 h (.pointer oc) n) := Bx.below HHA.out b1
  have HN1 : Hid (Nv w1 w.heap.size oc js) := HNA.out.keep fun k _ hl => b1.block k hl
  have HB1 := Lib.hid hB1
  have HW1 := Lib.hid (HBA.out.trans (b1.mono HBA.out.size))
  have hs1 : wA.heap.size < w1.heap.size := hB1.lt
  have HSEQ := Lib.hid (seq_jobs 2 hB1 HH1.out hhB HN1.out)
  clear b1 hB1 HE HHA HNA HBA
  go_wp2_with fail
  refine (wpIn_wide (n := 3)).1 ?_
  refine range_law2 (gf := 165) (lb := #[.pointer (some ⟨wA.heap.size, 0, none⟩)]) rfl (enters_of Tryz.func165 (by kernel_rfl) rfl) (fun _ => rfl)
    HSEQ.out ⟨Nat.le_refl _, fun _ _ _ => rfl⟩ (fun k hk => hk.elim) (fun h k => h.trans k)
    ?hKb (fun xs A B h t => h) (fun _ _ _ h _ => h)
    (fun xs W => Lst w w1.heap.size wA.heap.size h xs W) (fun _ _ _ => False)
    ?hI (fun _ _ _ _ h _ => h) ⟨HB1.out, none, 0, HE1.out, own_nil _ _ _ _, HW1.out, fun g hg => by simp [Value.ownBlock] at hg⟩
    (fun pre x a1 W => ∃ q, a1 = { tmps := #[.pointer (some ⟨h, 0, none⟩), undef, .slice none 0 0, .pointer (some ⟨w.heap.size, 0, none⟩), .pointer (some ⟨q, 0, none⟩), .pointer (some ⟨h, 0, none⟩), .bool false, .pointer (some ⟨h, 0, none⟩), .func (.func 165) #[] #[.pointer (some ⟨wA.heap.size, 0, none⟩)], .agg #[.int .i64 x.id, .int .i64 x.rel, .int .i64 x.due, .int .i64 x.left], undef, undef, undef, undef, undef], defers := [] } ∧ w1.heap.size + 1 < q ∧ Bx W q 137 [.int .i64 x.id, .int .i64 x.rel, .int .i64 x.due, .int .i64 x.left] ∧ Lst w w1.heap.size wA.heap.size h pre W) ?hI1 ?assign ?body ?done ?stop
  case stop =>
    rintro c pre W _ h _
    exact h.elim
  case hKb =>
    intro A B _ t
    refine ⟨t.size, fun k hk hs => t.block k hk ?_⟩
    omega
  case hI =>
    intro xs A B h t
    have t := t.wide (S' := fun k => k = w1.heap.size ∨ k = w1.heap.size + 1) (by rintro k _ (h | h | h); exact h.elim; exact .inl h; exact .inr h)
    exact h.turn t (fun k hk => hk) (by omega) (by omega)
  case hI1 =>
    rintro pre x a1 A B ⟨q, rfl, hq, hb, hl⟩ t
    exact ⟨q, rfl, hq, hb.turn t (by omega), hl.turn t (fun k hk => hk) (by omega) (by omega)⟩
  case assign =>
    intro l pre x W K hL hx hsW hK
    have hb := (Below.refl W.heap.size W).alloc (Nat.le_refl _) (.cells #[.int .i64 x.id, .int .i64 x.rel, .int .i64 x.due, .int .i64 x.left] 137)
    have HK := Lib.hid hK
    have HBB := Lib.hid hb
    have HL := Lib.hid hL
    clear hb hK hL
    gi_wp2
    refine HK.out _ _ ⟨_, rfl, hsW, Bx.new W [.int .i64 x.id, .int .i64 x.rel, .int .i64 x.due, .int .i64 x.left] 137, HL.out.turn (S := fun _ => False) (Turn.below HBB.out) (fun _ h => h.elim) (by omega) (by omega)⟩ ⟨HBB.out.size, fun k hk _ => HBB.out.block k hk⟩ HBB.out.size ⟨HBB.out.block _ (by omega), HBB.out.block _ (by omega)⟩
  case body =>
    rintro l pre x a1 W ⟨q, rfl, hq, hb, hV, oa, cap, hE, ho, hB, hnb⟩ hx hsW hnc
    have c0 := hE.cell 0 rfl
    have f0 := hE.free 0
    have q0 := hb.cell 0 rfl
    have q1 := hb.cell 1 rfl
    have q2 := hb.cell 2 rfl
    have q3 := hb.cell 3 rfl
    have HO := Lib.hid ho
    have HE := Lib.hid hE
    have HBW := Lib.hid hB
    have HNC := Lib.hid hnc
    have HX := Lib.hid hx
    have HNB := Lib.hid hnb
    have HV := Lib.hid hV
    have hpl : pre.length ≤ 2 := by
      obtain ⟨rest, hr⟩ := hx
      have := HLEN.out
      rw [hr] at this
      simp at this
      omega
    clear ho hE hB hnc hx hnb hb hV
    obtain ⟨i0, hi, hz0, hz1, hz2⟩ := info_parts info137
    gi_wp2_with (gi_at_builtin; refine wpListIn_append_own _ rfl _ _ 38 rfl w.heap.size 137 i0 _ 4 32 Tryz.underlying38 hi hz0 hz1 hz2 rfl (by decide) _ pre.length (pre.flatMap jc) rfl (HO.out.alloc _) ⟨W.heap.size, 0, none⟩ 1 1 (jc x) rfl rfl ?c1 ?c2 ?c3 ?c4 ?c5 ?_)
    case c1 => exact range_add (Bx.new W [.int .i64 x.id, .int .i64 x.rel, .int .i64 x.due, .int .i64 x.left] 137).range
    case c2 => simpa using jc_one [x]
    case c3 => unfold maxLen; omega
    case c4 => omega
    case c5 => have := HBW.out.size; simp; omega
    intro v2 w2 ho2 hg2 _
    have hsz : W.heap.size + 1 ≤ w2.heap.size := by have := hg2.size; simpa using this
    -- what the append has left
    have t2 : Turn (fun k => Value.ownBlock (.slice oa pre.length cap) = some k) W w2 := (Turn.below ((Below.refl W.heap.size W).alloc (Nat.le_refl _) (.cells #[.int .i64 x.id, .int .i64 x.rel, .int .i64 x.due, .int .i64 x.left] 137))).trans (Turn.grown hg2 (fun j hj _ => hj))
    have hEown : Value.ownBlock (.slice oa pre.length cap) ≠ some w.heap.size := fun e => by
      obtain ⟨cur, hc⟩ := own_cells HO.out e
      have := HE.out
      unfold Bx at this
      rw [this] at hc
      simp at hc
    have hE2 : Bx w2 w.heap.size 38 [.slice oa pre.length cap] := HE.out.turn t2 hEown
    have hb1 : w2.heap[w1.heap.size]? = W.heap[w1.heap.size]? := t2.block _ (by omega) (fun e => (HNB.out _ e).1 rfl)
    have hb2 : w2.heap[w1.heap.size + 1]? = W.heap[w1.heap.size + 1]? := t2.block _ (by omega) (fun e => (HNB.out _ e).2 rfl)
    obtain ⟨oa2, cap2, rfl⟩ := own_slice ho2
    have hg3 : ∀ g, Value.ownBlock (.slice oa2 (pre.length + 1) cap2) = some g → g ≠ w1.heap.size ∧ g ≠ w1.heap.size + 1 ∧ g ≠ w.heap.size := fun g hg => by
      obtain ⟨cur, hc⟩ := own_cells ho2 hg
      refine ⟨fun e => ?_, fun e => ?_, fun e => ?_⟩
      · subst e
        have := HNC.out _ _ (.inl rfl) (hb1 ▸ hc)
        simp [Obj.isCells] at this
      · subst e
        have := HNC.out _ _ (.inr rfl) (hb2 ▸ hc)
        simp [Obj.isCells] at this
      · subst e
        have := hE2
        unfold Bx at this
        rw [this] at hc
        simp at hc
    have hB2 : Below w.heap.size w w2 := Turn.to HBW.out t2 HBW.out.size (fun k hk => own_fresh HO.out k hk)
    have hK2 : Kh w.heap.size wA.heap.size W w2 := ⟨t2.size, fun k hk hs => t2.block k hk fun e => by
      rcases hs with hs | rfl
      · have := own_fresh HO.out k e; omega
      · obtain ⟨cur, hc⟩ := own_cells HO.out e
        have := HV.out
        unfold Bx at this
        rw [this] at hc
        simp at hc⟩
    have c0 := hE2.cell 0 rfl
    have f0 := hE2.free 0
    have HE2 := Lib.hid hE2
    have HG3 := Lib.hid hg3
    have HB2 := Lib.hid hB2
    have HK2 := Lib.hid hK2
    have HO2 := Lib.hid ho2
    have HBB := Lib.hid (And.intro hb1 hb2)
    clear hE2 hg3 hB2 hK2 ho2 hg2 t2 hb1 hb2 q0 q1 q2 q3
    gi_wp2
    have ts : Turn (fun k => k = w.heap.size) w2 (w2.setCell ⟨w.heap.size, 0, none⟩ (.slice oa2 (pre.length + 1) cap2)) := Turn.set _ _ _ _ rfl
    have hlen : (pre ++ [x]).length = pre.length + 1 := by simp
    refine ⟨⟨(ts.block _ (by omega) (by omega)).trans HBB.out.1, (ts.block _ (by omega) (by omega)).trans HBB.out.2⟩, HK2.out.trans ⟨ts.size, fun k hk hs => ts.block k hk (by omega)⟩, ?_⟩
    show Lst _ _ _ _ _ _
    unfold Lst
    rw [hlen]
    refine ⟨(HV.out.keep (HK2.out.2 _ HV.out.lt (.inr rfl))).turn ts (by omega), oa2, cap2, Bx.set HE2.out 0 _ _ rfl, own_keep (by simpa using HO2.out) (fun g hg => ?_), Turn.to HB2.out ts HB2.out.size (fun k e => by omega), fun g hg => ⟨(HG3.out g hg).1, (HG3.out g hg).2.1⟩⟩
    obtain ⟨cur, hc⟩ := own_cells HO2.out hg
    exact ts.block g (Array.getElem?_eq_some_iff.1 hc).1 (HG3.out g hg).2.2
  case done =>
    rintro xs W rfl ⟨hV, oa, cap, hE, ho, hB, hnb⟩ hK
    have c0 := hE.cell 0 rfl
    have HO := Lib.hid ho
    have HB := Lib.hid hB
    have HNB := Lib.hid hnb
    clear hE ho hB hnb
    go_wp2_with fail
    have hw1 := (Array.getElem?_eq_some_iff.1 hK).1
    refine ⟨by simp, .inl ⟨_, _, rfl, run_takeDeferred hK, ?_⟩⟩
    refine ⟨.slice oa xs.length cap, by simp [results, Tryz.results81, go_sem], _, rfl, own_keep HO.out (fun g hg => World.putObj_heap_other (HNB.out g hg).1), ?_⟩
    exact Turn.to HB.out (shut_turn (S := fun k => k = w1.heap.size) W w1.heap.size _ rfl) HB.out.size (fun k e => by have := HW1.out.size; omega)
end Go.Proofs.YtoichcickcgbgaaGreatDoor
namespace Go.Proofs.YtoichcickcgbgaaGreatDoor
open Go.RowKit
attribute [local go_sem] Oper.semAt_some
attribute [local go_sem] run_store_func
/-- Who runs jobs, and its heap. -/
def Ex (w : World) (x h : Nat) (js : List Jb) : Prop := Bx w x 140 [.pointer (some ⟨h, 0, none⟩)] ∧ Hp w h js
theorem Ex.turn {S : Nat → Prop} {w w' : World} {x h : Nat} {js : List Jb} (e : Ex w x h js) (t : Turn S w w') (hx : ¬ S x) (hh : ¬ S h) (hn : ∀ p l, Bx w p 289 l → ¬ S p) : Ex w' x h js := ⟨e.1.turn t hx, e.2.turn t hh hn⟩
theorem Ex.below {w w' : World} {x h : Nat} {js : List Jb} (e : Ex w x h js) (b : Below w.heap.size w w') : Ex w' x h js := ⟨e.1.below b, e.2.below b⟩
set_option maxRecDepth 100000 in
theorem enew_any (w : World) : Calls Tryz.prog 21 #[] w fun e w' => ∃ x h, e = .returned (.pointer (some ⟨x, 0, none⟩)) ∧ Ex w' x h [] ∧ w.heap.size ≤ x ∧ w.heap.size ≤ h ∧ Below w.heap.size w w' := by
  go_enter Tryz.func21, Tryz.ntmps21
  go_wp2_with fail
  refine (hnew_any _).mono ?_
  rintro e w1 ⟨rfl, hp, b1⟩
  have HP := Lib.hid hp
  have HB := Lib.hid b1
  clear hp b1
  go_wp2_with fail
  go_ret
  exact ⟨_, _, rfl, ⟨Bx.new w1 [.pointer (some ⟨w.heap.size, 0, none⟩)] 140, HP.out.below ((Below.refl _ _).alloc (Nat.le_refl _) _)⟩, HB.out.size, Nat.le_refl _, HB.out.alloc HB.out.size _⟩
set_option maxRecDepth 100000 in
theorem pend_any {w : World} {x h : Nat} {js : List Jb} (e : Ex w x h js) : Calls Tryz.prog 46 #[.pointer (some ⟨x, 0, none⟩)] w fun e w' => ∃ v, e = .returned v ∧ w'.ownsRow w.heap.size 137 4 v js.length (js.flatMap jc) ∧ Below w.heap.size w w' := by
  have c0 := e.1.cell 0 rfl
  have HP := Lib.hid e.2
  clear e
  go_enter Tryz.func46, Tryz.ntmps46
  go_wp2_with fail
  refine (hlist_any HP.out).mono ?_
  rintro e w1 ⟨v, rfl, ho, b1⟩
  have HO := Lib.hid ho
  have HB := Lib.hid b1
  clear ho b1
  go_wp2_with fail
  go_ret
  exact ⟨v, rfl, HO.out, HB.out⟩
set_option maxRecDepth 100000 in
theorem idle_any {w : World} {x h : Nat} {js : List Jb} (e : Ex w x h js) : Calls Tryz.prog 144 #[.pointer (some ⟨x, 0, none⟩)] w fun e w' => e = .returned (.bool (decide (js = []))) ∧ w = w' := by
  have c0 := e.1.cell 0 rfl
  obtain ⟨top, hx⟩ := e.2.hx
  have HX := Lib.hid hx
  have hd : (((js.length : Nat) : Int) == 0) = decide (js = []) := by
    rcases js with _ | ⟨a, l⟩
    · rfl
    · simp; omega
  have HD := Lib.hid hd
  clear e hx hd
  go_enter Tryz.func144, Tryz.ntmps144
  go_wp2_with fail
  refine (len_any HX.out).mono ?_
  rintro e w1 ⟨rfl, rfl⟩
  go_wp2_with fail
  go_ret
  exact ⟨by rw [← HD.out]; rfl, rfl⟩
/-- A job that may be. -/
def Jb.ok (j : Jb) : Prop := 0 < j.left ∧ j.left ≤ 2147483648 ∧ 0 ≤ j.rel ∧ j.rel ≤ 1099511627776 ∧ j.rel < j.due ∧ j.due ≤ 2199023255552
set_option maxRecDepth 100000 in
theorem jmay_any {j : Jb} (h : j.ok) (w : World) : Calls Tryz.prog 140 #[.agg #[.int .i64 j.id, .int .i64 j.rel, .int .i64 j.due, .int .i64 j.left]] w fun e w' => e = .returned (.bool true) ∧ Below w.heap.size w w' := by
  obtain ⟨h1, h2, h3, h4, h5, h6⟩ := h
  have g1 : decide (0 < j.left) = true := by simp; omega
  have g2 : decide (j.left ≤ 2147483648) = true := by simp; omega
  have g3 : decide (0 ≤ j.rel) = true := by simp; omega
  have g4 : decide (j.rel ≤ 1099511627776) = true := by simp; omega
  have g5 : decide (j.rel < j.due) = true := by simp; omega
  have g6 : decide (j.due ≤ 2199023255552) = true := by simp; omega
  go_enter Tryz.func140, Tryz.ntmps140
  go_wp2_with fail
  go_ret
  exact ⟨rfl, (Below.refl _ _).alloc (Nat.le_refl _) _⟩
set_option maxRecDepth 100000 in
theorem jid_pred {w : World} {b : Nat} {i : Int} (hb : b < w.heap.size) (hc : w.cell? ⟨b, 0, none⟩ = some (.int .i64 i)) (x : Jb) :
    Calls Tryz.prog 186 (#[.agg (jc x).toArray] ++ #[.pointer (some ⟨b, 0, none⟩)]) w fun e w' => e = .returned (.bool (x.id == i)) ∧ Below w.heap.size w w' := by
  show Calls Tryz.prog 186 #[.agg #[.int .i64 x.id, .int .i64 x.rel, .int .i64 x.due, .int .i64 x.left], .pointer (some ⟨b, 0, none⟩)] w _
  go_enter Tryz.func186, Tryz.ntmps186
  go_wp2_with fail
  go_ret
  exact ⟨rfl, (Below.refl _ _).alloc (Nat.le_refl _) _⟩
set_option maxRecDepth 100000 in
theorem idxj_nil (oa : Option Addr) (c : Nat) (f : Value) (w : World) : Calls Tryz.prog 212 #[.slice oa 0 c, f] w fun e w' => e = .returned (.int .i64 (-1)) ∧ Below w.heap.size w w' := by
  go_enter Tryz.func212, Tryz.ntmps212
  go_wp2_with fail
  refine wp_loop_rounds 1 ?_
  rw [rounds_succ]
  go_wp2_with fail
  go_ret
  exact ⟨rfl, Below.refl _ _⟩
set_option maxRecDepth 100000 in
theorem hasj_nil (oa : Option Addr) (c : Nat) (f : Value) (w : World) : Calls Tryz.prog 185 #[.slice oa 0 c, f] w fun e w' => e = .returned (.bool false) ∧ Below w.heap.size w w' := by
  go_enter Tryz.func185, Tryz.ntmps185
  go_wp2_with fail
  refine (idxj_nil oa c _ _).mono ?_
  rintro e w1 ⟨rfl, b1⟩
  go_wp2_with fail
  go_ret
  exact ⟨rfl, b1⟩
theorem hasj_any {w : World} {v : Value} {js : List Jb} (h : Sx jc w v js) (hn : js.length ≤ 16) {b : Nat} {i : Int} (hb : b < w.heap.size) (hc : w.cell? ⟨b, 0, none⟩ = some (.int .i64 i)) :
    Calls Tryz.prog 185 #[v, .func (.func 186) #[] #[.pointer (some ⟨b, 0, none⟩)]] w fun e w' => e = .returned (.bool (js.any fun y => y.id == i)) ∧ Below w.heap.size w w' := by
  obtain ⟨oa, cap, rfl, ha, h⟩ := h
  by_cases hne : js = []
  · subst hne
    exact hasj_nil oa cap _ w
  · obtain ⟨g, rfl, hg, hcap, hr⟩ := h hne
    refine (AnyQ.slices_ContainsFunc Sh.hasJob 4 (fun w => by kernel_rfl) (fun w => by kernel_rfl) jc (fun _ => rfl) (fun y => y.id == i) 186 #[.pointer (some ⟨b, 0, none⟩)] (enters_of Tryz.func186 (by kernel_rfl) rfl) g 0 js.length cap js w (fun W x hB => (jid_pred (Nat.lt_of_lt_of_le hb hB.size) ((World.cell?_of_block (hB.block b hb)).trans hc) x).mono fun e w' h => ⟨h.1, hB.trans (h.2.mono hB.size)⟩) (Nat.le_refl _) (by omega) hg ?_).mono ?_
    · intro j hj i u hu
      have := hr _ _ (chunk_at jc 4 (fun _ => rfl) js j hj i u hu)
      rw [show 0 + j * 4 + i = 0 + (j * 4 + i) from by omega]
      exact this
    · rintro e w' ⟨rfl, hb⟩
      exact ⟨by rw [List.take_of_length_le (Nat.le_refl _)], hb⟩
set_option maxRecDepth 100000 in
theorem has_id {w : World} {x h : Nat} {js : List Jb} (e : Ex w x h js) (hl : js.length ≤ 2) (i : Int) : Calls Tryz.prog 141 #[.pointer (some ⟨x, 0, none⟩), .int .i64 i] w fun e w' => e = .returned (.bool (js.any fun y => y.id == i)) ∧ Below w.heap.size w w' := by
  have bX := (Below.refl w.heap.size w).alloc (Nat.le_refl _) (.cells #[.int .i64 i] 3)
  have HI := Lib.hid (Bx.new w [.int .i64 i] 3)
  have HE := Lib.hid (e.below bX)
  have HB := Lib.hid bX
  clear bX e
  go_enter Tryz.func141, Tryz.ntmps141
  go_wp2_with fail
  generalize w.alloc (.cells #[.int .i64 i] 3) = u0 at *
  refine (pend_any HE.out).mono ?_
  rintro e w1 ⟨v, rfl, ho, b1⟩
  have hI1 := HI.out.below b1
  have HI1 := Lib.hid hI1
  have HX := Lib.hid (Sx.of_own (f := jc) (xs := js) ho rfl)
  have HB1 := Lib.hid (HB.out.trans (b1.mono HB.out.size))
  obtain ⟨oa, cap, rfl⟩ := own_slice ho
  clear ho b1 hI1 HI HE HB
  go_wp2_with fail
  refine (hasj_any HX.out (by omega) HI1.out.lt (HI1.out.cell 0 rfl)).mono ?_
  rintro e w2 ⟨rfl, b2⟩
  have HB2 := Lib.hid (HB1.out.trans (b2.mono HB1.out.size))
  clear b2
  go_wp2_with fail
  go_ret
  exact ⟨rfl, HB2.out⟩
set_option maxRecDepth 100000 in
set_option maxHeartbeats 1000000 in
theorem eadd_any {w : World} {x h : Nat} {js : List Jb} {j : Jb} (e : Ex w x h js) (hl : js.length ≤ 2) (hj : j.ok) (hf : (js.any fun y => y.id == j.id) = false → js.length ≤ 1) :
    Calls Tryz.prog 94 #[.pointer (some ⟨x, 0, none⟩), .agg #[.int .i64 j.id, .int .i64 j.rel, .int .i64 j.due, .int .i64 j.left]] w fun e w' => (∃ v, e = .returned v) ∧ (∃ js', Ex w' x h js' ∧ (((js.any fun y => y.id == j.id) = true ∧ js' = js) ∨ (js.any fun y => y.id == j.id) = false ∧ (js' = js ++ [j] ∨ js' = j :: js))) ∧ Turn (fun i => i = h) w w' := by
  have bX := (Below.refl w.heap.size w).alloc (Nat.le_refl _) (.cells #[.int .i64 j.id, .int .i64 j.rel, .int .i64 j.due, .int .i64 j.left] 137)
  have hJ := Bx.new w [.int .i64 j.id, .int .i64 j.rel, .int .i64 j.due, .int .i64 j.left] 137
  have HJ := Lib.hid hJ
  have HE := Lib.hid (e.below bX)
  have HB := Lib.hid bX
  have HJO := Lib.hid hj
  clear bX e hJ
  go_enter Tryz.func94, Tryz.ntmps94
  go_wp2_with fail
  generalize w.alloc (.cells #[.int .i64 j.id, .int .i64 j.rel, .int .i64 j.due, .int .i64 j.left] 137) = u0 at *
  refine (jmay_any HJO.out _).mono ?_
  rintro e w1 ⟨rfl, b1⟩
  have hJ1 := HJ.out.below b1
  have c0 := hJ1.cell 0 rfl
  have HJ1 := Lib.hid hJ1
  have HE1 := Lib.hid (HE.out.below b1)
  have HB1 := Lib.hid (HB.out.trans (b1.mono HB.out.size))
  clear b1 hJ1 HJ HE HB
  go_wp2_with fail
  refine (has_id HE1.out hl j.id).mono ?_
  rintro e w2 ⟨rfl, b2⟩
  have HE2 := Lib.hid (HE1.out.below b2)
  have HJ2 := Lib.hid (HJ1.out.below b2)
  have HB2 := Lib.hid (HB1.out.trans (b2.mono HB1.out.size))
  clear b2 c0 HJ1 HE1 HB1
  cases ha : js.any (fun y => y.id == j.id)
  · have hl1 := hf ha
    have c0 := HE2.out.1.cell 0 rfl
    go_wp2_with fail
    obtain ⟨top, hx⟩ := HE2.out.2.hx
    have HTOP := Lib.hid hx
    clear hx
    have KC : Hid (∀ z, Hid (Turn (fun i => i = h) w2 z) → (z.cell? ⟨x, 0, none⟩ = some (.pointer (some ⟨h, 0, none⟩)) ∧ z.cell? ⟨w.heap.size, 0, none⟩ = some (.int .i64 j.id) ∧ z.cell? ⟨w.heap.size, 1, none⟩ = some (.int .i64 j.rel) ∧ z.cell? ⟨w.heap.size, 2, none⟩ = some (.int .i64 j.due) ∧ z.cell? ⟨w.heap.size, 3, none⟩ = some (.int .i64 j.left))) := fun z b => ⟨(HE2.out.1.turn b.out (Bx.ne HE2.out.1 HTOP.out (by decide))).cell 0 rfl, (HJ2.out.turn b.out (Bx.ne HJ2.out HTOP.out (by decide))).cell 0 rfl, (HJ2.out.turn b.out (Bx.ne HJ2.out HTOP.out (by decide))).cell 1 rfl, (HJ2.out.turn b.out (Bx.ne HJ2.out HTOP.out (by decide))).cell 2 rfl, (HJ2.out.turn b.out (Bx.ne HJ2.out HTOP.out (by decide))).cell 3 rfl⟩
    have T1 : Hid (Turn (fun i => i = h) w2 w2.drew) := (Turn.refl _ _).drew
    refine wp_region_held_drew (S := fun z => (z.cell? ⟨x, 0, none⟩ = some (.pointer (some ⟨h, 0, none⟩)) ∧ z.cell? ⟨w.heap.size, 0, none⟩ = some (.int .i64 j.id) ∧ z.cell? ⟨w.heap.size, 1, none⟩ = some (.int .i64 j.rel) ∧ z.cell? ⟨w.heap.size, 2, none⟩ = some (.int .i64 j.due) ∧ z.cell? ⟨w.heap.size, 3, none⟩ = some (.int .i64 j.left)) ∧ Hid (Turn (fun i => i = h) w2 z)) (by kernel_rfl) (tkp KC T1) (fun hHeld => ?_)
    refine wtk 0 27 (.pointer (some ⟨x, 0, none⟩)) rfl (by kernel_rfl) (fun _ _ _ h => h) (by rfl) (fun x hSw => by obtain ⟨⟨d0, d1, d2, d3, d4⟩, _⟩ := id hSw; (go_simp) <;> first | decide | exact IntWalk.i64_in _ (by omega)) (by assumption) ?_
    try simp only [Act.put, pw]
    refine wtk 1 28 (.pointer (some ⟨x, 0, none⟩)) rfl (by kernel_rfl) (fun _ _ _ h => h) (by rfl) (fun x hSw => by obtain ⟨⟨d0, d1, d2, d3, d4⟩, _⟩ := id hSw; (go_simp) <;> first | decide | exact IntWalk.i64_in _ (by omega)) (by assumption) ?_
    try simp only [Act.put, pw]
    refine wtk 2 29 (.pointer (some ⟨x, 0, none⟩)) rfl (by kernel_rfl) (fun _ _ _ h => h) (by rfl) (fun x hSw => by obtain ⟨⟨d0, d1, d2, d3, d4⟩, _⟩ := id hSw; (go_simp) <;> first | decide | exact IntWalk.i64_in _ (by omega)) (by assumption) ?_
    try simp only [Act.put, pw]
    refine wtk 3 30 (.pointer (some ⟨h, 0, none⟩)) rfl (by kernel_rfl) (fun _ _ _ h => h) (by rfl) (fun x hSw => by obtain ⟨⟨d0, d1, d2, d3, d4⟩, _⟩ := id hSw; (go_simp) <;> first | decide | exact IntWalk.i64_in _ (by omega)) (by assumption) ?_
    try simp only [Act.put, pw]
    refine wtk 4 31 (.agg #[.int .i64 j.id, .int .i64 j.rel, .int .i64 j.due, .int .i64 j.left]) rfl (by kernel_rfl) (fun _ _ _ h => h) (by rfl) (fun x hSw => by obtain ⟨⟨d0, d1, d2, d3, d4⟩, _⟩ := id hSw; (go_simp) <;> first | decide | exact IntWalk.i64_in _ (by omega)) (by assumption) ?_
    try simp only [Act.put, pw]
    refine wpAnyH_ready (rs := [5]) (by kernel_rfl) (by simp) (AllReadyH.cons rfl (fun K hK => ?_) AllReadyH.nil)
    go_simp
    refine (hput_any (x := j) (HE2.out.2.below (bl_drew (bl0 _)).out) hl1).mono ?_
    rintro e w3 ⟨rfl, hq, t3⟩
    have T3 : Hid (Turn (fun i => i = h) w2 w3) := T1.out.trans t3
    refine hK.out _ _ (tkp KC T3) (fun hHeld => ?_)
    clear hK K
    have HQ := Lib.hid hq
    clear hq t3 T1
    try simp only [Act.put, pw]
    refine wpAnyH_done (by kernel_rfl) ?_ _
    go_wp2_with fail
    go_ret
    obtain ⟨js', h1, h2⟩ := HQ.out
    exact ⟨⟨_, rfl⟩, ⟨js', ⟨HE2.out.1.turn T3.out (Bx.ne HE2.out.1 HTOP.out (by decide)), h1⟩, .inr ⟨ha, h2⟩⟩, (Turn.below HB2.out).trans T3.out⟩
  · go_wp2_with fail
    go_ret
    exact ⟨⟨_, rfl⟩, ⟨js, HE2.out, .inl ⟨ha, rfl⟩⟩, Turn.below HB2.out⟩
end Go.Proofs.YtoichcickcgbgaaGreatDoor
namespace Go.Proofs.YtoichcickcgbgaaGreatDoor
open Go.RowKit
attribute [local go_sem] Oper.semAt_some
attribute [local go_sem] run_store_func
set_option maxRecDepth 100000 in
set_option maxHeartbeats 1000000 in
theorem late_any {w : World} {x h : Nat} {js : List Jb} (e : Ex w x h js) (hl : js.length ≤ 2) (t : Int) :
    Calls Tryz.prog 97 #[.pointer (some ⟨x, 0, none⟩), .int .i64 t] w fun e w' => ∃ oa n cap, e = .returned (.slice oa n cap) ∧ n ≤ 2 ∧ Below w.heap.size w w' := by
  have HE := Lib.hid e
  clear e
  go_enter Tryz.func97, Tryz.ntmps97
  go_wp2_with fail
  go_step3
  go_wp2_with fail
  go_step3
  go_wp2_with fail
  refine (pend_any HE.out).mono ?_
  rintro e w1 ⟨v, rfl, ho, b1⟩
  have HX := Lib.hid (Sx.of_own (f := jc) (xs := js) ho rfl)
  have HB1 := Lib.hid b1
  obtain ⟨oa, cap, rfl⟩ := own_slice ho
  generalize hn : js.length = n at *
  have HN := Lib.hid hn
  clear ho b1 hn
  go_wp2_with fail
  go_loopw [5, 11] (fun s5 s11 wr => ∃ (k m : Nat) (ob : Option Addr) (c : Nat) (xs : List Value), s5 = .slice ob m c ∧ s11 = .int .i64 k ∧ k ≤ n ∧ m ≤ k ∧ Hid (wr.ownsRow w1.heap.size 137 4 (.slice ob m c) m xs) ∧ Hid (Below w1.heap.size w1 wr)) (fun _ s11 _ => n - (intOf s11).toNat)
  case atStart => exact ⟨0, 0, none, 0, [], rfl, rfl, by omega, by omega, own_nil _ _ _ _, bl0 _⟩
  case round =>
    obtain ⟨k, m, ob, c, xs, rfl, rfl, hk, hm, hO, hB⟩ := hrel
    by_cases hlt : k < n
    · have hd : decide ((k : Int) < (n : Int)) = true := by simp; omega
      have hri : (k : Int) < (n : Int) := by omega
      obtain ⟨oa', cap', e1, -, h2⟩ := HX.out
      obtain ⟨g, rfl, hg, -, hr⟩ := h2 (fun e => by have := HN.out; rw [e] at this; simp at this; omega)
      cases e1
      obtain ⟨j, hj⟩ : ∃ j, js[k]! = j := ⟨_, rfl⟩
      have hr2 := rangeAt_block hr (hB.out.block g hg)
      have ck : ∀ i u, (jc j)[i]? = some u → wr.cell? ⟨g, k * 4 + i, none⟩ = some u := fun i u hu => by
        have := hr2 (k * 4 + i) u (chunk_at jc 4 (fun _ => rfl) js k (by have := HN.out; omega) i u (by rw [hj]; exact hu))
        rwa [Nat.zero_add] at this
      have q0 := ck 0 _ rfl
      have q1 := ck 1 _ rfl
      have q2 := ck 2 _ rfl
      have q3 := ck 3 _ rfl
      simp only [Nat.add_zero] at q0
      clear hr hr2 ck h2 hj
      have hBA := Lib.hid (hB.out.alloc hB.out.size (.cells #[.int .i64 j.id, .int .i64 j.rel, .int .i64 j.due, .int .i64 j.left] 137))
      have hsz := hB.out.size
      by_cases hdue : j.due > t
      · have hd1 : decide (j.due > t) = true := by simpa using hdue
        go_wp2_with fail
        go_ret
        exact ⟨_, _, _, rfl, by omega, HB1.out.trans (hBA.out.mono HB1.out.size)⟩
      · have hd1 : decide (j.due > t) = false := by simpa using hdue
        have HN2 := Lib.hid (Bx.new (wr.alloc (.cells #[.int .i64 j.id, .int .i64 j.rel, .int .i64 j.due, .int .i64 j.left] 137)) [.int .i64 j.id, .int .i64 j.rel, .int .i64 j.due, .int .i64 j.left] 137)
        obtain ⟨i0, hi, hz0, hz1, hz2⟩ := info_parts info137
        go_wp2_with (at_builtin; go_loud (refine wpList_append_own _ rfl _ _ 38 rfl w1.heap.size 137 i0 _ 4 32 Tryz.underlying38 hi hz0 hz1 hz2 rfl (by decide) _ m xs rfl ((hO.out.alloc _).alloc _) ⟨wr.heap.size + 1, 0, none⟩ 1 1 (jc j) rfl rfl ?c1 ?c2 ?c3 ?c4 ?c5 ?_))
        case c1 => exact fun _ _ hu => hu
        case c2 => simpa using jc_one [j]
        case c3 => unfold maxLen; omega
        case c4 => omega
        case c5 => omega
        intro v2 w2 ho2 hg2 _
        have hb2 : Below w1.heap.size w1 w2 := (hBA.out.alloc (by simp; omega) _).grown hg2 (by simp; omega) fun j hj => own_fresh hO.out j hj
        obtain ⟨oa2, cap2, rfl⟩ := own_slice ho2
        have HO2 := Lib.hid ho2
        have HB2 := Lib.hid hb2
        clear ho2 hb2 hg2
        go_wp2_with fail
        go_roundw
        case rel => exact ⟨k + 1, m + 1, oa2, cap2, _, rfl, by go_num, by omega, by omega, HO2, HB2⟩
        case measure => simp [intOf]; omega
    · obtain rfl : k = n := by omega
      go_wp2_with fail
      rw [Exit.noGoto_ret]
      go_ret
      exact ⟨_, _, _, rfl, by have := HN.out; omega, HB1.out.trans (hB.out.mono HB1.out.size)⟩
end Go.Proofs.YtoichcickcgbgaaGreatDoor
