/-
  The document's Release; Release and Forget of both by one law.
-/
import Derived.Test.YtlohcidapoicoaaKl
namespace Go.Proofs.Ytlohcidapoicoaa
open Go.RowKit

def relS (m : Int → Option (Int × Int)) (id p now : Int) : Int × (Int → Option (Int × Int)) :=
  if ¬ (1 ≤ p ∧ p ≤ 2147483648 ∧ 0 ≤ now ∧ now ≤ 1099511627776) then (1, m) else if now < nx m id then (19, m) else (0, upd m id (some (now, now + p)))
theorem upd_upd (m : Int → Option (Int × Int)) (id : Int) (a b : Option (Int × Int)) : upd (upd m id a) id b = upd m id b := by
  funext j
  unfold upd
  by_cases h : j = id <;> simp [h]

theorem grown_trans17 {a b c : World} {row : Option Nat} (h : a.grownBy b row) (k : b.grownBy c row) : a.grownBy c row :=
  ⟨k.os.trans h.os, k.tape.trans h.tape, k.output.trans h.output, Nat.le_trans h.size k.size, fun j hj hr => (k.block j (Nat.lt_of_lt_of_le hj h.size) hr).trans (h.block j hj hr)⟩
set_option maxRecDepth 100000 in
set_option maxHeartbeats 2000000 in
theorem rput {w : World} {R : Nat} {ks : List Kn} {m : Int → Option (Int × Int)} (hK : Kg w R ks) (hM : Km ks m) (hn : ks.length ≤ 1000) (id p now : Int) (h1 : 1 ≤ p) (h2 : p ≤ 2147483648) (h3 : 0 ≤ now) (h4 : now ≤ 1099511627776) (hlt : ¬ now < nx m id) :
    Calls Try.prog 16 #[.pointer (some ⟨R, 0, none⟩), .int .i64 id, .int .i64 p, .int .i64 now] w fun r w' => r = .returned (.int .i64 0) ∧ ∃ ks', Kg w' R ks' ∧ Km ks' (upd m id (some (now, now + p))) ∧ ks'.length ≤ ks.length + 1 ∧ w.grownBy w' (some R) := by
  have HN := Lib.hid (nextR hK hM (by omega) id _ rfl)
  have hRl := hK.lt
  obtain ⟨y, hy⟩ : ∃ y, nx m id = y := ⟨_, rfl⟩
  rw [hy] at hlt HN
  clear hy
  go_enter Try.func16, Try.ntmps16
  go_wp2_with fail
  refine HN.out.mono ?_
  rintro e w1 ⟨rfl, rfl⟩
  go_wp2_with fail
  refine (forgetR hK (by omega) id _ rfl).mono ?_
  rintro e w2 ⟨rfl, hK2, hg2⟩
  have hM2 := km_rem hM id
  have hup : upd m id none id = none := by unfold upd; rw [if_pos rfl]
  have hl2 := rem_le id ks
  have huu := upd_upd m id none (some (now, now + p))
  have HU := Lib.hid huu
  clear HN hK huu
  generalize rem id ks = ls at *
  generalize upd m id none = m2 at *
  go_wp2_with fail
  have hX3 : (w2.alloc (Obj.cells #[.int .i64 id, .int .i64 now, .int .i64 (now + p)] 57)).heap[w2.heap.size]? = some (.cells #[.int .i64 id, .int .i64 now, .int .i64 (now + p)] 57 (0, 0)) := heap_alloc_new _ _
  have hK3 := hK2.below ((Below.refl _ _).alloc (Nat.le_refl _) (Obj.cells #[.int .i64 id, .int .i64 now, .int .i64 (now + p)] 57))
  have hg3 : w.grownBy (w2.alloc (Obj.cells #[.int .i64 id, .int .i64 now, .int .i64 (now + p)] 57)) (some R) := grown_trans17 hg2 (World.grownBy_alloc _ _ _)
  have hxl : w2.heap.size < (w2.alloc (Obj.cells #[.int .i64 id, .int .i64 now, .int .i64 (now + p)] 57)).heap.size := by simp
  clear hK2 hg2
  generalize w2.heap.size = xb at *
  generalize w2.alloc (Obj.cells #[.int .i64 id, .int .i64 now, .int .i64 (now + p)] 57) = w3 at *
  have hup3 := hM2.up
  have HK3 := Lib.hid hK3
  obtain ⟨T, v0, hb0, hr0⟩ := hK3
  obtain ⟨a, c, hv⟩ := hr0.len
  have hRl3 : R < w3.heap.size := (Array.getElem?_eq_some_iff.1 hb0).1
  have hc0 : w3.cell? ⟨R, 0, none⟩ = some v0 := by simp [World.cell?, hb0]
  have hf0 : w3.frozen? ⟨R, 0, none⟩ = false := by simp [World.frozen?, hb0]
  have hx0 : w3.cell? ⟨xb, 0, none⟩ = some (.int .i64 id) := by simp [World.cell?, hX3]
  have hx1 : w3.cell? ⟨xb, 1, none⟩ = some (.int .i64 now) := by simp [World.cell?, hX3]
  have hx2 : w3.cell? ⟨xb, 2, none⟩ = some (.int .i64 (now + p)) := by simp [World.cell?, hX3]
  rw [hv] at hc0
  have HV := Lib.hid hv
  have HC := Lib.hid hc0
  have HF := Lib.hid hf0
  have HX0 := Lib.hid hx0
  have HX1 := Lib.hid hx1
  have HX2 := Lib.hid hx2
  have HUP := Lib.hid hup3
  clear hv hb0 hc0 hf0 hx0 hx1 hx2 hX3 hup3
  go_wp2_with fail
  go_loopw [9, 10, 12] (fun v pv i wr => ∃ (k : Nat) (acc : List Kn) (put : Bool), k ≤ ls.length ∧ i = .int .i64 k ∧ pv = .bool put ∧ Kr wr w3.heap.size v acc ∧ Hid (Ins ls (id, now, now + p) k acc put) ∧ Below w3.heap.size w3 wr) (fun _ _ i _ => ls.length - (intOf i).toNat)
  case atStart => exact ⟨0, [], false, by omega, rfl, rfl, World.ownsRow_nil _ _ _ _, ins_start _ _, Below.refl _ _⟩
  case round =>
    obtain ⟨k, acc, put, hk, rfl, rfl, hown, hins, hbr⟩ := hrel
    have hc : wr.cell? ⟨R, 0, none⟩ = some (.slice a ls.length c) := (hbr.cell (p := ⟨R, 0, none⟩) (by simpa using hRl3)).trans HC.out
    have hx0 : wr.cell? ⟨xb, 0, none⟩ = some (.int .i64 id) := (hbr.cell (p := ⟨xb, 0, none⟩) (by simpa using hxl)).trans HX0.out
    have hx1 : wr.cell? ⟨xb, 1, none⟩ = some (.int .i64 now) := (hbr.cell (p := ⟨xb, 1, none⟩) (by simpa using hxl)).trans HX1.out
    have hx2 : wr.cell? ⟨xb, 2, none⟩ = some (.int .i64 (now + p)) := (hbr.cell (p := ⟨xb, 2, none⟩) (by simpa using hxl)).trans HX2.out
    have hrr := hr0.keep (w' := wr) (fun k hk _ => hbr.block k hk)
    have hal := ins_len hins.out hk
    have hsz := hbr.size
    by_cases hlt2 : k < ls.length
    · have hy := List.getElem?_eq_getElem hlt2
      obtain ⟨g, cap, hv2, d0, d1, d2⟩ := hrr.cells hy
      rw [HV.out] at hv2
      cases hv2
      have hne : (ls[k]).1 ≠ id := hM2.none hup _ (List.getElem_mem hlt2)
      obtain ⟨y, hye⟩ : ∃ y, ls[k] = y := ⟨_, rfl⟩
      rw [hye] at d0 d1 d2 hne hy
      obtain ⟨y0, y1, y2⟩ := y
      simp only at d0 d1 d2 hne
      have HY := Lib.hid hy
      clear hye hy
      have hcase : put = true ∨ put = false ∧ id < y0 ∨ put = false ∧ y0 < id := by
        cases put
        · rcases Int.lt_or_lt_of_ne hne with h | h
          · exact .inr (.inr ⟨rfl, h⟩)
          · exact .inr (.inl ⟨rfl, h⟩)
        · exact .inl rfl
      rcases hcase with rfl | ⟨rfl, hlt3⟩ | ⟨rfl, hlt3⟩
      · have hins2 := Lib.hid (ins_go HUP.out HY.out hins.out)
        go_wp2_with (refine wpList_putK rfl (.tmp 68) (.tmp 76) rfl w3.heap.size _ _ rfl (hown.alloc (Obj.cells #[.int .i64 y0, .int .i64 y1, .int .i64 y2] 57)) wr.heap.size (y0, y1, y2) rfl (heap_alloc_new _ _) (by omega) (by simp; omega) ?_)
        intro v' w5 hown2 hg5
        have hbr2 := below_grown (hbr.alloc hbr.size (Obj.cells #[.int .i64 y0, .int .i64 y1, .int .i64 y2] 57)) hg5 (fun g hg => (hown.lt g hg).1) (by simp; omega)
        clear hown hg5 hbr hc hrr d0 d1 d2 hx0 hx1 hx2
        go_wp2_with fail
        go_roundw
        case rel => exact ⟨k + 1, _, true, by omega, by go_num, rfl, hown2, hins2, hbr2⟩
        case measure => simp [intOf]; omega
      · have hins2 : Hid (Ins ls (id, now, now + p) (k + 1) (acc ++ [(id, now, now + p), (y0, y1, y2)]) true) := by
          have h := ins_put HUP.out HY.out hins.out hlt3
          rw [List.append_assoc] at h
          exact h
        go_wp2_with (refine wpList_putK rfl (.tmp 64) (.tmp 66) rfl w3.heap.size _ _ rfl (hown.alloc (Obj.cells #[.int .i64 id, .int .i64 now, .int .i64 (now + p)] 57)) wr.heap.size (id, now, now + p) rfl (heap_alloc_new _ _) (by omega) (by simp; omega) ?_)
        intro v' w5 hown2 hg5
        have hbr2 := below_grown (hbr.alloc hbr.size (Obj.cells #[.int .i64 id, .int .i64 now, .int .i64 (now + p)] 57)) hg5 (fun g hg => (hown.lt g hg).1) (by simp; omega)
        have hc5 : w5.cell? ⟨R, 0, none⟩ = some (.slice (some ⟨g, 0, none⟩) ls.length c) := (hbr2.cell (p := ⟨R, 0, none⟩) (by simpa using hRl3)).trans HC.out
        have hrr5 := hr0.keep (w' := w5) (fun k hk _ => hbr2.block k hk)
        obtain ⟨g', cap', hv5, e0, e1, e2⟩ := hrr5.cells HY.out
        rw [HV.out] at hv5
        cases hv5
        simp only at e0 e1 e2
        have hsz5 := hbr2.size
        clear hown hg5 hbr hc hrr hrr5 d0 d1 d2 hx0 hx1 hx2
        go_wp2_with (refine wpList_putK rfl (.tmp 68) (.tmp 76) rfl w3.heap.size _ _ rfl (hown2.alloc (Obj.cells #[.int .i64 y0, .int .i64 y1, .int .i64 y2] 57)) w5.heap.size (y0, y1, y2) rfl (heap_alloc_new _ _) (by simp; omega) (by simp; omega) ?_)
        intro v6 w6 hown6 hg6
        have hbr6 := below_grown (hbr2.alloc hbr2.size (Obj.cells #[.int .i64 y0, .int .i64 y1, .int .i64 y2] 57)) hg6 (fun g hg => (hown2.lt g hg).1) (by simp; omega)
        clear hown2 hg6 hbr2 hc5 e0 e1 e2
        go_wp2_with fail
        go_roundw
        case rel => exact ⟨k + 1, _, true, by omega, by go_num, rfl, hown6, hins2, hbr6⟩
        case measure => simp [intOf]; omega
      · have hins2 := Lib.hid (ins_wait (x := (id, now, now + p)) HY.out hins.out hlt3)
        go_wp2_with (refine wpList_putK rfl (.tmp 68) (.tmp 76) rfl w3.heap.size _ _ rfl (hown.alloc (Obj.cells #[.int .i64 y0, .int .i64 y1, .int .i64 y2] 57)) wr.heap.size (y0, y1, y2) rfl (heap_alloc_new _ _) (by omega) (by simp; omega) ?_)
        intro v' w5 hown2 hg5
        have hbr2 := below_grown (hbr.alloc hbr.size (Obj.cells #[.int .i64 y0, .int .i64 y1, .int .i64 y2] 57)) hg5 (fun g hg => (hown.lt g hg).1) (by simp; omega)
        clear hown hg5 hbr hc hrr d0 d1 d2 hx0 hx1 hx2
        go_wp2_with fail
        go_roundw
        case rel => exact ⟨k + 1, _, false, by omega, by go_num, rfl, hown2, hins2, hbr2⟩
        case measure => simp [intOf]; omega
    · obtain rfl : k = ls.length := by omega
      have hkm := km_put hM2 id (now, now + p) hup hins.out
      rw [HU.out] at hkm
      cases put
      · go_wp2_with (refine wpList_putK rfl (.tmp 80) (.tmp 82) rfl w3.heap.size _ _ rfl (hown.alloc (Obj.cells #[.int .i64 id, .int .i64 now, .int .i64 (now + p)] 57)) wr.heap.size (id, now, now + p) rfl (heap_alloc_new _ _) (by omega) (by simp; omega) ?_)
        intro v' w5 hown2 hg5
        obtain ⟨a2, c2, hv2⟩ := hown2.len
        subst hv2
        have hbr2 := below_grown (hbr.alloc hbr.size (Obj.cells #[.int .i64 id, .int .i64 now, .int .i64 (now + p)] 57)) hg5 (fun g hg => (hown.lt g hg).1) (by simp; omega)
        have hc5 : w5.cell? ⟨R, 0, none⟩ = some (.slice a ls.length c) := (hbr2.cell (p := ⟨R, 0, none⟩) (by simpa using hRl3)).trans HC.out
        have hf5 : w5.frozen? ⟨R, 0, none⟩ = false := (World.frozen?_of_block (hbr2.block R hRl3)).trans HF.out
        have hfin := kg_set HK3.out hbr2 hown2
        have hgr := grown_trans17 hg3 (grown_below (R := R) hbr2 rfl (v := .slice a2 (acc ++ [(id, now, now + p)]).length c2))
        have hacc : acc.length ≤ ls.length := by rw [(hins.out.1 rfl).1, List.length_take]; omega
        clear hown hown2 hg5 hbr hc hrr hx0 hx1 hx2
        generalize (acc ++ [(id, now, now + p)]).length = q2 at *
        go_wp2_with fail
        go_ret
        exact ⟨rfl, _, hfin, hkm, by simp; omega, hgr⟩
      · obtain ⟨a2, c2, hv2⟩ := hown.len
        subst hv2
        have hf : wr.frozen? ⟨R, 0, none⟩ = false := (World.frozen?_of_block (hbr.block R hRl3)).trans HF.out
        have hfin := kg_set HK3.out hbr hown
        have hgr := grown_trans17 hg3 (grown_below (R := R) hbr rfl (v := .slice a2 acc.length c2))
        clear hrr hx0 hx1 hx2
        go_wp2_with fail
        go_ret
        exact ⟨rfl, _, hfin, hkm, by omega, hgr⟩

theorem rrelU {w : World} {R : Nat} {ks : List Kn} {m : Int → Option (Int × Int)} (hK : Kg w R ks) (hM : Km ks m) (hn : ks.length ≤ 1000) (id p now e : Int) (m' : Int → Option (Int × Int)) (hS : relS m id p now = (e, m')) :
    Calls Try.prog 16 #[.pointer (some ⟨R, 0, none⟩), .int .i64 id, .int .i64 p, .int .i64 now] w fun r w' => r = .returned (.int .i64 e) ∧ ∃ ks', Kg w' R ks' ∧ Km ks' m' ∧ ks'.length ≤ ks.length + 1 ∧ w.grownBy w' (some R) := by
  unfold relS at hS
  split at hS
  · rename_i hm
    obtain ⟨rfl, rfl⟩ := hS
    have h : p < 1 ∨ 1 ≤ p ∧ 2147483648 < p ∨ 1 ≤ p ∧ p ≤ 2147483648 ∧ now < 0 ∨ 1 ≤ p ∧ p ≤ 2147483648 ∧ 0 ≤ now ∧ 1099511627776 < now := by omega
    have hfin : ∃ ks', Kg w R ks' ∧ Km ks' m ∧ ks'.length ≤ ks.length + 1 ∧ w.grownBy w (some R) := ⟨ks, hK, hM, by omega, ⟨rfl, rfl, rfl, Nat.le_refl _, fun _ _ _ => rfl⟩⟩
    have HF := Lib.hid hfin
    clear hm hfin hK hM
    rcases h with h | ⟨h, h1⟩ | ⟨h, h1, h2⟩ | ⟨h, h1, h2, h3⟩
    all_goals
      go_enter Try.func16, Try.ntmps16
      go_wp2
      go_ret
      exact ⟨rfl, HF.out⟩
  · rename_i hm
    obtain ⟨h1, h2, h3, h4⟩ := Decidable.not_not.1 hm
    split at hS
    · rename_i hlt
      obtain ⟨rfl, rfl⟩ := hS
      have HN := Lib.hid (nextR hK hM (by omega) id _ rfl)
      obtain ⟨y, hy⟩ : ∃ y, nx m id = y := ⟨_, rfl⟩
      rw [hy] at hlt HN
      clear hy hm
      go_enter Try.func16, Try.ntmps16
      go_wp2_with fail
      refine HN.out.mono ?_
      rintro e w1 ⟨rfl, rfl⟩
      go_wp2_with fail
      go_ret
      exact ⟨rfl, ks, hK, hM, by omega, ⟨rfl, rfl, rfl, Nat.le_refl _, fun _ _ _ => rfl⟩⟩
    · rename_i hlt
      obtain ⟨rfl, rfl⟩ := hS
      exact rput hK hM hn id p now h1 h2 h3 h4 hlt

theorem relU {g bm n : Nat} {m : Int → Option (Int × Int)} {w : World} (hG : Gv w g bm n m) (hn : n < 1000000) (id p now e : Int) (hk : (Lit.int .i64 id).wf = true) (m' : Int → Option (Int × Int)) (hS : relS m id p now = (e, m')) :
    Calls Try.prog 9 #[.pointer (some ⟨g, 0, none⟩), .int .i64 id, .int .i64 p, .int .i64 now] w fun r w' => r = .returned (.int .i64 e) ∧ (∃ n', n' ≤ n + 1 ∧ Gv w' g bm n' m') ∧ w.grownBy w' (some bm) := by
  unfold relS at hS
  split at hS
  · rename_i hm
    obtain ⟨rfl, rfl⟩ := hS
    have hG' := hG
    obtain ⟨D, hD, hs⟩ := hG
    refine (rel_arg hD id p now hm).mono ?_
    rintro r w' ⟨rfl, rfl⟩
    exact ⟨rfl, ⟨n, by omega, hG'⟩, ⟨rfl, rfl, rfl, Nat.le_refl _, fun _ _ _ => rfl⟩⟩
  · rename_i hm
    have hm' : may p now := by unfold may; exact Decidable.not_not.1 hm
    split at hS
    · rename_i hlt
      obtain ⟨rfl, rfl⟩ := hS
      refine (relE hG id p now hk hm' hlt).mono ?_
      rintro r w' ⟨rfl, hb⟩
      exact ⟨rfl, ⟨n, by omega, hG.below hb⟩, ⟨hb.os, hb.tape, hb.output, hb.size, fun k hk _ => hb.block k hk⟩⟩
    · rename_i hlt
      obtain ⟨rfl, rfl⟩ := hS
      refine (relO hG hn id p now hk hm' hlt).mono ?_
      rintro r w' ⟨rfl, hG2, hg⟩
      exact ⟨rfl, ⟨n + 1, by omega, hG2⟩, hg⟩
theorem forU {g bm n : Nat} {m : Int → Option (Int × Int)} {w : World} (hG : Gv w g bm n m) (id : Int) (hk : (Lit.int .i64 id).wf = true) (b : Bool) (hb : (m id).isSome = b) :
    Calls Try.prog 12 #[.pointer (some ⟨g, 0, none⟩), .int .i64 id] w fun e w' => e = .returned (.bool b) ∧ Gv w' g bm n (upd m id none) ∧ w.grownBy w' (some bm) := by
  cases b
  · have hmn : upd m id none = m := by
      funext j
      unfold upd
      by_cases h : j = id
      · subst h
        rw [if_pos rfl]
        cases hm : m j with
        | none => rfl
        | some p => rw [hm] at hb; cases hb
      · rw [if_neg h]
    rw [hmn]
    refine (forN hG id hk hb).mono ?_
    rintro r w' ⟨rfl, hbe⟩
    exact ⟨rfl, hG.below hbe, ⟨hbe.os, hbe.tape, hbe.output, hbe.size, fun k hk _ => hbe.block k hk⟩⟩
  · exact forY hG id hk hb
end Go.Proofs.Ytlohcidapoicoaa
