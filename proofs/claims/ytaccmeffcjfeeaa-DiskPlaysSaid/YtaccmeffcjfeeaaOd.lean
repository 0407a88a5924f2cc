/-
  The script of a disk, opened.
-/
import Derived.Test.YtaccmeffcjfeeaaSy
namespace Go.Proofs.Ytaccmeffcjfeeaa
open Go.ChangeShapes Go.WideShapes Go.ChangeAt Go.RowKit Go.Deep

/-- The cells of one step. -/
def OpAt (w : World) (b o : Nat) (K A : Int) (B : UInt8) (R F : Bool) (T : ByteArray) (N : Int) (la : Option Addr) (len cap : Nat) : Prop :=
  w.cell? ⟨b, o, none⟩ = some (.int .i64 K) ∧ w.cell? ⟨b, o + 1, none⟩ = some (.int .i64 A) ∧ w.cell? ⟨b, o + 2, none⟩ = some (.int .u8 (B.toNat : Int)) ∧ w.cell? ⟨b, o + 3, none⟩ = some (.bool R) ∧
  w.cell? ⟨b, o + 4, none⟩ = some (.bool F) ∧ w.cell? ⟨b, o + 5, none⟩ = some (.string T) ∧ w.cell? ⟨b, o + 6, none⟩ = some (.int .i64 N) ∧ w.cell? ⟨b, o + 7, none⟩ = some (.slice la len cap)
theorem op_cells {H : Type} {enc : TypeId × Value → H} {W : World} {n : Nat} {cs : List Value} {x : DataW H × List MemPlace} (h : DataW.trod enc Try.prog W 0 (fun _ => true) true n 49 cs = some x) :
    ∃ K A : Int, ∃ B : UInt8, ∃ R F : Bool, ∃ T : ByteArray, ∃ N : Int, ∃ (la : Option Addr) (len cap : Nat), cs = [.int .i64 K, .int .i64 A, .int .u8 (B.toNat : Int), .bool R, .bool F, .string T, .int .i64 N, .slice la len cap] ∧
      (Lit.int .i64 N).wf = true ∧ len ≤ 9223372036854775807 ∧ ∃ G : List (Int × Int), G.length = len ∧ Fates W la G := by
  have hc8 : Try.prog.cellsOf 49 = 8 := by kernel_rfl
  have hc3 : Try.prog.cellsOf 3 = 1 := by kernel_rfl
  have hc5 : Try.prog.cellsOf 5 = 1 := by kernel_rfl
  have hc4 : Try.prog.cellsOf 4 = 1 := by kernel_rfl
  have hc9 : Try.prog.cellsOf 9 = 1 := by kernel_rfl
  have hc26 : Try.prog.cellsOf 26 = 1 := by kernel_rfl
  obtain ⟨xs, m, _, _, hl, hxl, hf⟩ := DataW.trod_struct Try.underlying49 h
  rw [hc8] at hl
  match cs, hl with
  | [v0, v1, v2, v3, v4, v5, v6, v7], _ =>
    match xs, hxl with
    | [y0, y1, y2, y3, y4, y5, y6, y7], _ =>
      have e0 := hf 0 _ rfl
      change DataW.trod enc Try.prog W 0 (fun _ => true) true m 3 (List.take (Try.prog.cellsOf 3) [v0, v1, v2, v3, v4, v5, v6, v7]) = some y0 at e0
      rw [hc3] at e0
      have e1 := hf 1 _ rfl
      change DataW.trod enc Try.prog W 0 (fun _ => true) true m 3 (List.take (Try.prog.cellsOf 3) [v1, v2, v3, v4, v5, v6, v7]) = some y1 at e1
      rw [hc3] at e1
      have e2 := hf 2 _ rfl
      change DataW.trod enc Try.prog W 0 (fun _ => true) true m 5 (List.take (Try.prog.cellsOf 5) [v2, v3, v4, v5, v6, v7]) = some y2 at e2
      rw [hc5] at e2
      have e3 := hf 3 _ rfl
      change DataW.trod enc Try.prog W 0 (fun _ => true) true m 4 (List.take (Try.prog.cellsOf 4) [v3, v4, v5, v6, v7]) = some y3 at e3
      rw [hc4] at e3
      have e4 := hf 4 _ rfl
      change DataW.trod enc Try.prog W 0 (fun _ => true) true m 4 (List.take (Try.prog.cellsOf 4) [v4, v5, v6, v7]) = some y4 at e4
      rw [hc4] at e4
      have e5 := hf 5 _ rfl
      change DataW.trod enc Try.prog W 0 (fun _ => true) true m 9 (List.take (Try.prog.cellsOf 9) [v5, v6, v7]) = some y5 at e5
      rw [hc9] at e5
      have e6 := hf 6 _ rfl
      change DataW.trod enc Try.prog W 0 (fun _ => true) true m 3 (List.take (Try.prog.cellsOf 3) [v6, v7]) = some y6 at e6
      rw [hc3] at e6
      have e7 := hf 7 _ rfl
      change DataW.trod enc Try.prog W 0 (fun _ => true) true m 26 (List.take (Try.prog.cellsOf 26) [v7]) = some y7 at e7
      rw [hc26] at e7
      simp only [List.take_succ_cons, List.take_zero] at e0 e1 e2 e3 e4 e5 e6 e7
      obtain ⟨K, g0, _, _⟩ := DataW.trod_int Try.underlying3 e0
      obtain ⟨A, g1, _, _⟩ := DataW.trod_int Try.underlying3 e1
      obtain ⟨B, g2, _, wb⟩ := DataW.trod_int Try.underlying5 e2
      obtain ⟨R, g3, _⟩ := DataW.trod_bool Try.underlying4 e3
      obtain ⟨F, g4, _⟩ := DataW.trod_bool Try.underlying4 e4
      obtain ⟨T, g5, _⟩ := DataW.trod_string Try.underlying9 e5
      obtain ⟨N, g6, _, wn⟩ := DataW.trod_int Try.underlying3 e6
      obtain ⟨la, len, cap, g7⟩ : ∃ la len cap, v7 = .slice la len cap := by
        rcases open_slice Try.underlying26 e7 with ⟨hcs, _⟩ | ⟨a', len', cap', m', n', D, Pl, hcs, _⟩
        · simp only [List.cons.injEq, and_true] at hcs
          exact ⟨none, 0, 0, hcs⟩
        · simp only [List.cons.injEq, and_true] at hcs
          exact ⟨_, _, _, hcs⟩
      have hfa := open_fates (H := H) (enc := enc) (W := W) (a := la) (len := len) (cap := cap) (d := y7.1) (p := y7.2) ⟨m, by rw [g7] at e7; exact e7⟩
      simp only [List.cons.injEq, and_true] at g0 g1 g2 g3 g4 g5 g6
      have hB : ((UInt8.ofNat B.toNat).toNat : Int) = B := by
        have h1 : IntKind.u8.min = 0 := by decide
        have h2 : IntKind.u8.max = 255 := by decide
        simp [Lit.wf] at wb
        simp
        omega
      exact ⟨K, A, UInt8.ofNat B.toNat, R, F, T, N, la, len, cap, by rw [g0, g1, g2, g3, g4, g5, g6, g7, hB], wn, hfa.1, hfa.2⟩
def SeenO (w : World) (a : Option Addr) (n : Nat) : Prop :=
  ∀ k, k < n → ∃ b off, a = some ⟨b, off, none⟩ ∧ b < w.heap.size ∧ ∃ K A : Int, ∃ B : UInt8, ∃ R F : Bool, ∃ T : ByteArray, ∃ N : Int, ∃ (la : Option Addr) (len cap : Nat), OpAt w b (off + k * 8) K A B R F T N la len cap ∧
    (Lit.int .i64 N).wf = true ∧ len ≤ 9223372036854775807 ∧ ∃ G : List (Int × Int), G.length = len ∧ Fates w la G
theorem open_ops {H : Type} {enc : TypeId × Value → H} {W : World} {a : Option Addr} {len cap : Nat} {d : DataW H} {p : List MemPlace} (h : DataW.Trod enc Try.prog W 0 (fun _ => true) true 45 (.slice a len cap) d p) :
    len ≤ 9223372036854775807 ∧ SeenO W a len := by
  obtain ⟨hl, hr⟩ := open_rows Try.underlying45 (c := 8) (by kernel_rfl) (by omega) h
  refine ⟨hl, fun k hk => ?_⟩
  obtain ⟨b, off, ha, hb, m, cs, x, ht, hcl, hc⟩ := hr k hk
  obtain ⟨K, A, B, R, F, T, N, la, l2, c2, rfl, wn, h2, h3⟩ := op_cells ht
  exact ⟨b, off, ha, hb, K, A, B, R, F, T, N, la, l2, c2, ⟨hc 0 (by omega), hc 1 (by omega), hc 2 (by omega), hc 3 (by omega), hc 4 (by omega), hc 5 (by omega), hc 6 (by omega), hc 7 (by omega)⟩, wn, h2, h3⟩
end Go.Proofs.Ytaccmeffcjfeeaa
