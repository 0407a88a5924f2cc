/-
  What the library gives at this program: strings.Builder, strings.Repeat, slices.IndexFunc, ContainsFunc, Clone, Index, Contains, maps.DeleteFunc, cmp.Compare at this program's own numbers (printed by lay-plain.mjs).
  Rows and tasks, cloned.
  Tasks that may be; the period, the load.
  The period, the load.
-/
import Derived.Shelf.Strings.Builder1
import Derived.Shelf.Small.Utf8
import Derived.Shelf.Small.Strs
import Derived.Shelf.Small.Wraps
import Derived.Shelf.Strconv.Itoa0
import Derived.Shelf.Strings.Search1
import Derived.Shelf.Strings.Repeat
import Derived.Shelf.SlicesG.Cmp
import Derived.Shelf.SlicesQ.IndexFunc
import Derived.Shelf.SlicesQ.Contains
import Derived.Shelf.SlicesE.Clone
import Derived.Shelf.SlMaps.DeleteFunc
import Derived.Test.YtoichcickcgbgaaGreatDoorRows
import Derived.Test.YtoichcickcgbgaaGreatDoorGTb
import Derived.Deep.RegionHeld3
namespace Go.Proofs.YtoichcickcgbgaaGreatDoor.Sh
open Go.Shelf
open Go.RowKit in
def lays122_ren : Go.Shelf.Ren := ⟨fun | 122 => 79 | 215 => 114 | n => n, fun | 3 => 3 | 4 => 4 | n => n, fun | n => n⟩
theorem lays122 : Go.Proofs.Lays.n122 Tryz.prog lays122_ren := {
  mixed := by kernel_rfl
  f122 := Tryz.func79.trans (congrArg some (by kernel_rfl))
  f215 := Tryz.func114.trans (congrArg some (by kernel_rfl))
  t3 := Tryz.underlying3
  a3 := Tryz.isAgg3
  z3 := Tryz.sizeOf3
  v3 := Tryz.zeroValue3
  t4 := Tryz.underlying4
  a4 := Tryz.isAgg4
  z4 := Tryz.sizeOf4
  v4 := Tryz.zeroValue4 }
open Go.RowKit in
theorem cmp_Compare_int (x y : Int) (w : World) :
    Calls Tryz.prog 79 #[.int .i64 x, .int .i64 y] w fun e w' => e = .returned (.int .i64 (Lib.compareInt x y)) ∧ w' = w := Any.cmp_Compare_int lays122 x y w
def lays129_ren : Go.Shelf.Ren := ⟨fun | 129 => 104 | n => n, fun | 53 => 114 | 3 => 3 | 4 => 4 | 46 => 49 | 5 => 5 | 9 => 9 | n => n, fun | n => n⟩
theorem lays129 : Go.Proofs.Lays.n129 Tryz.prog lays129_ren := {
  mixed := by kernel_rfl
  f129 := Tryz.func104.trans (congrArg some (by kernel_rfl))
  t3 := Tryz.underlying3
  a3 := Tryz.isAgg3
  z3 := Tryz.sizeOf3
  v3 := Tryz.zeroValue3
  t4 := Tryz.underlying4
  a4 := Tryz.isAgg4
  z4 := Tryz.sizeOf4
  v4 := Tryz.zeroValue4
  t5 := Tryz.underlying5
  a5 := Tryz.isAgg5
  z5 := Tryz.sizeOf5
  v5 := Tryz.zeroValue5
  t9 := Tryz.underlying9
  a9 := Tryz.isAgg9
  z9 := Tryz.sizeOf9
  v9 := Tryz.zeroValue9
  t46 := Tryz.underlying49
  a46 := Tryz.isAgg49
  z46 := Tryz.sizeOf49
  v46 := Tryz.zeroValue49
  t53 := Tryz.underlying114
  a53 := Tryz.isAgg114
  z53 := Tryz.sizeOf114
  v53 := Tryz.zeroValue114 }
theorem bits_Len64 (x : Int) (w : World) (h0 : 0 ≤ x) (h1 : x ≤ 18446744073709551615) :
    Calls Tryz.prog 104 #[.int .u64 x] w fun e w' => e = .returned (.int .i64 (Lib.bitLen x.toNat)) ∧ w' = w := Any.bits_Len64 lays129 x w h0 h1
def lays105_ren : Go.Shelf.Ren := ⟨fun | 105 => 162 | 212 => 198 | 99 => 199 | 165 => 200 | 166 => 201 | 170 => 202 | 169 => 69 | 263 => 219 | 264 => 220 | 206 => 221 | 240 => 152 | 241 => 222 | 276 => 189 | 277 => 233 | n => n, fun | 9 => 9 | 3 => 3 | 4 => 4 | 20 => 20 | 0 => 0 | 46 => 49 | 109 => 345 | 5 => 5 | 72 => 107 | 76 => 348 | 51 => 276 | 146 => 367 | 53 => 114 | 148 => 369 | 70 => 104 | 37 => 105 | 75 => 218 | 127 => 220 | 164 => 322 | 80 => 116 | n => n, fun | n => n⟩
theorem lays105 : Go.Proofs.Lays.n105 Tryz.prog lays105_ren := {
  mixed := by kernel_rfl
  f99 := Tryz.func199.trans (congrArg some (by kernel_rfl))
  f105 := Tryz.func162.trans (congrArg some (by kernel_rfl))
  f165 := Tryz.func200.trans (congrArg some (by kernel_rfl))
  f166 := Tryz.func201.trans (congrArg some (by kernel_rfl))
  f169 := Tryz.func69.trans (congrArg some (by kernel_rfl))
  f170 := Tryz.func202.trans (congrArg some (by kernel_rfl))
  f206 := Tryz.func221.trans (congrArg some (by kernel_rfl))
  f212 := Tryz.func198.trans (congrArg some (by kernel_rfl))
  f240 := Tryz.func152.trans (congrArg some (by kernel_rfl))
  f241 := Tryz.func222.trans (congrArg some (by kernel_rfl))
  f263 := Tryz.func219.trans (congrArg some (by kernel_rfl))
  f264 := Tryz.func220.trans (congrArg some (by kernel_rfl))
  f276 := Tryz.func189.trans (congrArg some (by kernel_rfl))
  f277 := Tryz.func233.trans (congrArg some (by kernel_rfl))
  t0 := Tryz.underlying0
  a0 := Tryz.isAgg0
  z0 := Tryz.sizeOf0
  v0 := Tryz.zeroValue0
  t3 := Tryz.underlying3
  a3 := Tryz.isAgg3
  z3 := Tryz.sizeOf3
  v3 := Tryz.zeroValue3
  t4 := Tryz.underlying4
  a4 := Tryz.isAgg4
  z4 := Tryz.sizeOf4
  v4 := Tryz.zeroValue4
  t5 := Tryz.underlying5
  a5 := Tryz.isAgg5
  z5 := Tryz.sizeOf5
  v5 := Tryz.zeroValue5
  t9 := Tryz.underlying9
  a9 := Tryz.isAgg9
  z9 := Tryz.sizeOf9
  v9 := Tryz.zeroValue9
  t20 := Tryz.underlying20
  a20 := Tryz.isAgg20
  z20 := Tryz.sizeOf20
  v20 := Tryz.zeroValue20
  t37 := Tryz.underlying105
  a37 := Tryz.isAgg105
  z37 := Tryz.sizeOf105
  v37 := Tryz.zeroValue105
  t46 := Tryz.underlying49
  a46 := Tryz.isAgg49
  z46 := Tryz.sizeOf49
  v46 := Tryz.zeroValue49
  t51 := Tryz.underlying276
  a51 := Tryz.isAgg276
  z51 := Tryz.sizeOf276
  v51 := Tryz.zeroValue276
  t53 := Tryz.underlying114
  a53 := Tryz.isAgg114
  z53 := Tryz.sizeOf114
  v53 := Tryz.zeroValue114
  t70 := Tryz.underlying104
  a70 := Tryz.isAgg104
  z70 := Tryz.sizeOf104
  v70 := Tryz.zeroValue104
  t72 := Tryz.underlying107
  a72 := Tryz.isAgg107
  z72 := Tryz.sizeOf107
  v72 := Tryz.zeroValue107
  t75 := Tryz.underlying218
  a75 := Tryz.isAgg218
  z75 := Tryz.sizeOf218
  v75 := Tryz.zeroValue218
  t76 := Tryz.underlying348
  a76 := Tryz.isAgg348
  z76 := Tryz.sizeOf348
  v76 := Tryz.zeroValue348
  t109 := Tryz.underlying345
  a109 := Tryz.isAgg345
  z109 := Tryz.sizeOf345
  v109 := Tryz.zeroValue345
  t127 := Tryz.underlying220
  a127 := Tryz.isAgg220
  z127 := Tryz.sizeOf220
  v127 := Tryz.zeroValue220
  t146 := Tryz.underlying367
  a146 := Tryz.isAgg367
  z146 := Tryz.sizeOf367
  v146 := Tryz.zeroValue367
  t148 := Tryz.underlying369
  a148 := Tryz.isAgg369
  z148 := Tryz.sizeOf369
  v148 := Tryz.zeroValue369
  t164 := Tryz.underlying322
  a164 := Tryz.isAgg322
  z164 := Tryz.sizeOf322
  v164 := Tryz.zeroValue322 }
theorem Builder_Extra_105 : Builder.Extra Tryz.prog lays105_ren := {
  sizeBuilder := by kernel_rfl
  liesBuilder := by kernel_rfl
  t5 := Tryz.underlying5
  a5 := Tryz.isAgg5
  z5 := Tryz.sizeOf5
  v5 := Tryz.zeroValue5
  infoByte := by kernel_rfl
  cellsByte := by kernel_rfl
  sizeByte := by kernel_rfl
  neB5 := by decide }
open Go.RowKit Go.Lib in
theorem strings_Repeat (s : ByteArray) (c : Nat) (w : World) (hc : c ≤ 9223372036854775807) (hlen : s.size * c ≤ 140737488355328) :
    Calls Tryz.prog 162 #[.string s, .int .i64 c] w fun e w' => e = .returned (.string ⟨(Lib.repeatL s.data.toList c).toArray⟩) ∧ Below w.heap.size w w' := Any.strings_Repeat lays105 Builder_Extra_105 s c w hc hlen
def idxTask_ren : Go.Shelf.Ren := ⟨fun | 6 => 210 | n => n, fun | 22 => 161 | 23 => 32 | 25 => 178 | 3 => 3 | 0 => 0 | 4 => 4 | n => n, fun | n => n⟩
theorem idxTask : Go.Proofs.SlLaysH0.n6 Tryz.prog idxTask_ren := {
  mixed := by kernel_rfl
  f6 := ⟨Tryz.f210.name, by decide, Tryz.func210.trans (congrArg some (by kernel_rfl))⟩
  t0 := Tryz.underlying0
  a0 := Tryz.isAgg0
  z0 := Tryz.sizeOf0
  v0 := Tryz.zeroValue0
  t3 := Tryz.underlying3
  a3 := Tryz.isAgg3
  z3 := Tryz.sizeOf3
  v3 := Tryz.zeroValue3
  t4 := Tryz.underlying4
  a4 := Tryz.isAgg4
  z4 := Tryz.sizeOf4
  v4 := Tryz.zeroValue4
  t22 := Tryz.underlying161
  a22 := Tryz.isAgg161
  z22 := Tryz.sizeOf161
  v22 := Tryz.zeroValue161
  t25 := Tryz.underlying178
  a25 := Tryz.isAgg178
  z25 := Tryz.sizeOf178
  v25 := Tryz.zeroValue178 }
def idxRow_ren : Go.Shelf.Ren := ⟨fun | 6 => 99 | n => n, fun | 22 => 77 | 23 => 37 | 25 => 169 | 3 => 3 | 0 => 0 | 4 => 4 | n => n, fun | n => n⟩
theorem idxRow : Go.Proofs.SlLaysH0.n6 Tryz.prog idxRow_ren := {
  mixed := by kernel_rfl
  f6 := ⟨Tryz.f99.name, by decide, Tryz.func99.trans (congrArg some (by kernel_rfl))⟩
  t0 := Tryz.underlying0
  a0 := Tryz.isAgg0
  z0 := Tryz.sizeOf0
  v0 := Tryz.zeroValue0
  t3 := Tryz.underlying3
  a3 := Tryz.isAgg3
  z3 := Tryz.sizeOf3
  v3 := Tryz.zeroValue3
  t4 := Tryz.underlying4
  a4 := Tryz.isAgg4
  z4 := Tryz.sizeOf4
  v4 := Tryz.zeroValue4
  t22 := Tryz.underlying77
  a22 := Tryz.isAgg77
  z22 := Tryz.sizeOf77
  v22 := Tryz.zeroValue77
  t25 := Tryz.underlying169
  a25 := Tryz.isAgg169
  z25 := Tryz.sizeOf169
  v25 := Tryz.zeroValue169 }
def hasTask_ren : Go.Shelf.Ren := ⟨fun | 8 => 223 | 6 => 210 | n => n, fun | 22 => 161 | 23 => 32 | 25 => 178 | 4 => 4 | 3 => 3 | 0 => 0 | n => n, fun | n => n⟩
theorem hasTask : Go.Proofs.SlLaysH0.n8 Tryz.prog hasTask_ren := {
  mixed := by kernel_rfl
  f6 := ⟨Tryz.f210.name, by decide, Tryz.func210.trans (congrArg some (by kernel_rfl))⟩
  f8 := ⟨Tryz.f223.name, by decide, Tryz.func223.trans (congrArg some (by kernel_rfl))⟩
  t0 := Tryz.underlying0
  a0 := Tryz.isAgg0
  z0 := Tryz.sizeOf0
  v0 := Tryz.zeroValue0
  t3 := Tryz.underlying3
  a3 := Tryz.isAgg3
  z3 := Tryz.sizeOf3
  v3 := Tryz.zeroValue3
  t4 := Tryz.underlying4
  a4 := Tryz.isAgg4
  z4 := Tryz.sizeOf4
  v4 := Tryz.zeroValue4
  t22 := Tryz.underlying161
  a22 := Tryz.isAgg161
  z22 := Tryz.sizeOf161
  v22 := Tryz.zeroValue161
  t25 := Tryz.underlying178
  a25 := Tryz.isAgg178
  z25 := Tryz.sizeOf178
  v25 := Tryz.zeroValue178 }
def hasJob_ren : Go.Shelf.Ren := ⟨fun | 8 => 185 | 6 => 212 | n => n, fun | 22 => 38 | 23 => 137 | 25 => 266 | 4 => 4 | 3 => 3 | 0 => 0 | n => n, fun | n => n⟩
theorem hasJob : Go.Proofs.SlLaysH0.n8 Tryz.prog hasJob_ren := {
  mixed := by kernel_rfl
  f6 := ⟨Tryz.f212.name, by decide, Tryz.func212.trans (congrArg some (by kernel_rfl))⟩
  f8 := ⟨Tryz.f185.name, by decide, Tryz.func185.trans (congrArg some (by kernel_rfl))⟩
  t0 := Tryz.underlying0
  a0 := Tryz.isAgg0
  z0 := Tryz.sizeOf0
  v0 := Tryz.zeroValue0
  t3 := Tryz.underlying3
  a3 := Tryz.isAgg3
  z3 := Tryz.sizeOf3
  v3 := Tryz.zeroValue3
  t4 := Tryz.underlying4
  a4 := Tryz.isAgg4
  z4 := Tryz.sizeOf4
  v4 := Tryz.zeroValue4
  t22 := Tryz.underlying38
  a22 := Tryz.isAgg38
  z22 := Tryz.sizeOf38
  v22 := Tryz.zeroValue38
  t25 := Tryz.underlying266
  a25 := Tryz.isAgg266
  z25 := Tryz.sizeOf266
  v25 := Tryz.zeroValue266 }
def cloneRow_ren : Go.Shelf.Ren := ⟨fun | 41 => 125 | n => n, fun | 22 => 77 | 23 => 37 | 4 => 4 | n => n, fun | n => n⟩
theorem cloneRow : Go.Proofs.SlLaysE0.n41 Tryz.prog cloneRow_ren := {
  mixed := by kernel_rfl
  f41 := ⟨Tryz.f125.name, by decide, Tryz.func125.trans (congrArg some (by kernel_rfl))⟩
  t4 := Tryz.underlying4
  a4 := Tryz.isAgg4
  z4 := Tryz.sizeOf4
  v4 := Tryz.zeroValue4
  t22 := Tryz.underlying77
  a22 := Tryz.isAgg77
  z22 := Tryz.sizeOf77
  v22 := Tryz.zeroValue77 }
def cloneTask_ren : Go.Shelf.Ren := ⟨fun | 41 => 207 | n => n, fun | 22 => 161 | 23 => 32 | 4 => 4 | n => n, fun | n => n⟩
theorem cloneTask : Go.Proofs.SlLaysE0.n41 Tryz.prog cloneTask_ren := {
  mixed := by kernel_rfl
  f41 := ⟨Tryz.f207.name, by decide, Tryz.func207.trans (congrArg some (by kernel_rfl))⟩
  t4 := Tryz.underlying4
  a4 := Tryz.isAgg4
  z4 := Tryz.sizeOf4
  v4 := Tryz.zeroValue4
  t22 := Tryz.underlying161
  a22 := Tryz.isAgg161
  z22 := Tryz.sizeOf161
  v22 := Tryz.zeroValue161 }
def containsTask_ren : Go.Shelf.Ren := ⟨fun | 7 => 133 | 6 => 180 | n => n, fun | 22 => 161 | 24 => 32 | 4 => 4 | 0 => 0 | 3 => 3 | n => n, fun | n => n⟩
theorem containsTask : Go.Proofs.SlLaysQ.n7 Tryz.prog containsTask_ren := {
  mixed := by kernel_rfl
  f6 := ⟨Tryz.f180.name, by decide, Tryz.func180.trans (congrArg some (by kernel_rfl))⟩
  f7 := ⟨Tryz.f133.name, by decide, Tryz.func133.trans (congrArg some (by kernel_rfl))⟩
  t0 := Tryz.underlying0
  a0 := Tryz.isAgg0
  z0 := Tryz.sizeOf0
  v0 := Tryz.zeroValue0
  t3 := Tryz.underlying3
  a3 := Tryz.isAgg3
  z3 := Tryz.sizeOf3
  v3 := Tryz.zeroValue3
  t4 := Tryz.underlying4
  a4 := Tryz.isAgg4
  z4 := Tryz.sizeOf4
  v4 := Tryz.zeroValue4
  t22 := Tryz.underlying161
  a22 := Tryz.isAgg161
  z22 := Tryz.sizeOf161
  v22 := Tryz.zeroValue161 }
def delMarks_ren : Go.Shelf.Ren := ⟨fun | 5 => 148 | n => n, fun | 23 => 63 | 26 => 3 | 24 => 2 | 27 => 270 | 0 => 0 | 4 => 4 | n => n, fun | n => n⟩
theorem delMarks : Go.Proofs.SlLaysDf.n5 Tryz.prog delMarks_ren := {
  mixed := by kernel_rfl
  f5 := ⟨Tryz.f148.name, by decide, Tryz.func148.trans (congrArg some (by kernel_rfl))⟩
  t0 := Tryz.underlying0
  a0 := Tryz.isAgg0
  z0 := Tryz.sizeOf0
  v0 := Tryz.zeroValue0
  t4 := Tryz.underlying4
  a4 := Tryz.isAgg4
  z4 := Tryz.sizeOf4
  v4 := Tryz.zeroValue4
  t23 := Tryz.underlying63
  a23 := Tryz.isAgg63
  z23 := Tryz.sizeOf63
  v23 := Tryz.zeroValue63
  a24 := Tryz.isAgg2
  z24 := Tryz.sizeOf2
  a26 := Tryz.isAgg3
  z26 := Tryz.sizeOf3
  t27 := Tryz.underlying270
  a27 := Tryz.isAgg270
  z27 := Tryz.sizeOf270
  v27 := Tryz.zeroValue270 }
def cmpL_ren : Go.Shelf.Ren := ⟨fun | 5 => 78 | 7 => 113 | n => n, fun | 22 => 2 | 3 => 3 | 4 => 4 | n => n, fun | n => n⟩
theorem cmpL : Go.Proofs.SlLaysC2.n5 Tryz.prog cmpL_ren := {
  mixed := by kernel_rfl
  f5 := ⟨Tryz.f78.name, by decide, Tryz.func78.trans (congrArg some (by kernel_rfl))⟩
  f7 := ⟨Tryz.f113.name, by decide, Tryz.func113.trans (congrArg some (by kernel_rfl))⟩
  t3 := Tryz.underlying3
  a3 := Tryz.isAgg3
  z3 := Tryz.sizeOf3
  v3 := Tryz.zeroValue3
  t4 := Tryz.underlying4
  a4 := Tryz.isAgg4
  z4 := Tryz.sizeOf4
  v4 := Tryz.zeroValue4
  t22 := Tryz.underlying2
  a22 := Tryz.isAgg2
  z22 := Tryz.sizeOf2
  v22 := Tryz.zeroValue2 }
end Go.Proofs.YtoichcickcgbgaaGreatDoor.Sh
namespace Go.Proofs.YtoichcickcgbgaaGreatDoor
open Go.RowKit
attribute [local go_sem] Oper.semAt_some
theorem info37 : (Tryz.prog.info? 37).map (fun i => (i.zero, i.size, i.bytes)) = some (some (.agg #[.int .i64 0, .int .i64 0, .int .i64 0, .int .i64 0, .int .i64 0, .bool false]), 6, 48) := by kernel_rfl
theorem info32 : (Tryz.prog.info? 32).map (fun i => (i.zero, i.size, i.bytes)) = some (some (.agg #[.int .i64 0, .int .i64 0, .int .i64 0, .int .i64 0, .int .i64 0]), 5, 40) := by kernel_rfl
theorem own_fresh {w : World} {B : Nat} {e : TypeId} {size n : Nat} {v : Value} {xs : List Value} (h : w.ownsRow B e size v n xs) : ∀ g, v.ownBlock = some g → B ≤ g := fun g hg => by
  rcases h.2 with ⟨rfl, _⟩ | ⟨g', cap, cur, rfl, hB, _⟩
  · simp [Value.ownBlock] at hg
  · have : g' = g := by simpa [Value.ownBlock] using hg
    exact this ▸ hB
theorem rc_one (rs : List Rk) : ∀ u ∈ rs.flatMap rc, u.oneCell' = true := by
  intro u hu
  obtain ⟨r, _, hr⟩ := List.mem_flatMap.1 hu
  simp only [rc, List.mem_cons, List.not_mem_nil, or_false] at hr
  rcases hr with rfl | rfl | rfl | rfl | rfl | rfl <;> rfl
theorem tc_one (rs : List Tk) : ∀ u ∈ rs.flatMap tc, u.oneCell' = true := by
  intro u hu
  obtain ⟨r, _, hr⟩ := List.mem_flatMap.1 hu
  simp only [tc, List.mem_cons, List.not_mem_nil, or_false] at hr
  rcases hr with rfl | rfl | rfl | rfl | rfl <;> rfl
theorem flat_len {α : Type} (f : α → List Value) (k : Nat) (hf : ∀ x, (f x).length = k) (xs : List α) : (xs.flatMap f).length = xs.length * k := by
  induction xs with
  | nil => simp
  | cons x xs ih => rw [List.flatMap_cons, List.length_append, ih, hf, List.length_cons, Nat.succ_mul, Nat.add_comm]
theorem rclone_any {w : World} {v : Value} {rs : List Rk} (h : Sx rc w v rs) (hn : rs.length ≤ 1000) :
    Calls Tryz.prog 125 #[v] w fun e w' => ∃ v', e = .returned v' ∧ Sx rc w' v' rs ∧ (∀ g, v'.ownBlock = some g → w.heap.size ≤ g) ∧ Below w.heap.size w w' := by
  obtain ⟨i0, hi, hz0, hz1, hz2⟩ := info_parts info37
  obtain ⟨oa, cap, rfl, ha, h⟩ := h
  rcases ha with rfl | ⟨g, rfl⟩
  · have hrs : rs = [] := Classical.byContradiction fun hne => by obtain ⟨g, hg, _⟩ := h hne; cases hg
    subst hrs
    refine (AnyE.slices_Clone_nil Sh.cloneRow 0 cap w).mono ?_
    rintro e w' ⟨rfl, rfl⟩
    exact ⟨_, rfl, Sx.nil, fun g hg => by simp [Value.ownBlock] at hg, Below.refl _ _⟩
  · refine (AnyE.slices_Clone Sh.cloneRow i0 _ 6 48 hi hz0 hz1 hz2 rfl (by decide) (fun w => by kernel_rfl) g 0 rs.length cap (rs.flatMap rc) w (flat_len rc 6 (fun _ => rfl) rs) (by unfold maxLen; omega) (by omega) ?_ (rc_one rs)).mono ?_
    · intro j u hj
      by_cases hne : rs = []
      · subst hne; simp at hj
      · obtain ⟨g', hg, _, _, hr⟩ := h hne
        cases hg
        exact hr j u hj
    · rintro e w' ⟨v', rfl, ho, _, hb⟩
      exact ⟨v', rfl, Sx.of_own ho rfl, own_fresh ho, hb⟩
end Go.Proofs.YtoichcickcgbgaaGreatDoor
namespace Go.Proofs.YtoichcickcgbgaaGreatDoor
open Go.RowKit
attribute [local go_sem] Oper.semAt_some
set_option maxRecDepth 100000 in
theorem bad_any {x : Tk} (h : x.ok) (w : World) :
    Calls Tryz.prog 224 #[tv x] w fun e w' => e = .returned (.bool false) ∧ Below w.heap.size w w' := by
  have hx : tv x = .agg #[.int .i64 x.id, .int .i64 x.c, .int .i64 x.d, .int .i64 x.t, .int .i64 x.m] := rfl
  rw [hx]
  clear hx
  have bb := (Below.refl w.heap.size w).alloc (Nat.le_refl _) (.cells #[.int .i64 x.id, .int .i64 x.c, .int .i64 x.d, .int .i64 x.t, .int .i64 x.m] 32)
  have BB := Lib.hid bb
  have hz := bb.size
  clear bb
  go_enter Tryz.func224, Tryz.ntmps224
  go_wp2_with fail
  refine (chk_any h _).mono ?_
  rintro e w1 ⟨rfl, b1⟩
  have B1 := Lib.hid (BB.out.trans (b1.mono hz))
  clear b1
  go_wp2_with fail
  go_ret
  exact ⟨rfl, B1.out⟩
theorem chunk_at {α : Type} [Inhabited α] (f : α → List Value) (k : Nat) (hf : ∀ x, (f x).length = k) : ∀ (xs : List α) (j : Nat), j < xs.length → ∀ (i : Nat) (v : Value), (f xs[j]!)[i]? = some v → (xs.flatMap f)[j * k + i]? = some v
  | [], j, h, _, _, _ => by simp at h
  | x :: xs, 0, _, i, v, hv => by
    have hi : i < (f x).length := (List.getElem?_eq_some_iff.1 (by simpa using hv)).1
    rw [List.flatMap_cons, List.getElem?_append_left (by simpa using hi)]
    simpa using hv
  | x :: xs, j + 1, h, i, v, hv => by
    have := chunk_at f k hf xs j (by simpa using h) i v (by simpa using hv)
    rw [List.flatMap_cons, List.getElem?_append_right (by rw [hf, Nat.succ_mul]; omega), hf]
    rw [← this]
    congr 1
    rw [Nat.succ_mul]; omega
def okT : {x : Tk // x.ok} := ⟨⟨1, 1, 1, 1, 1⟩, by unfold Tk.ok; decide⟩
instance : Inhabited {x : Tk // x.ok} := ⟨okT⟩
theorem pmap_val (ts : List Tk) (h : ∀ t ∈ ts, t.ok) : (ts.pmap Subtype.mk h).map (·.val) = ts := by
  rw [List.map_pmap]
  simp
set_option maxRecDepth 100000 in
theorem idx_nil (oa : Option Addr) (c : Nat) (w : World) : Calls Tryz.prog 210 #[.slice oa 0 c, .func (.func 224) #[] #[]] w fun e w' => e = .returned (.int .i64 (-1)) ∧ Below w.heap.size w w' := by
  go_enter Tryz.func210, Tryz.ntmps210
  go_wp2_with fail
  refine wp_loop_rounds 1 ?_
  rw [rounds_succ]
  go_wp2_with fail
  go_ret
  exact ⟨rfl, Below.refl _ _⟩
set_option maxRecDepth 100000 in
theorem has_nil (oa : Option Addr) (c : Nat) (w : World) : Calls Tryz.prog 223 #[.slice oa 0 c, .func (.func 224) #[] #[]] w fun e w' => e = .returned (.bool false) ∧ Below w.heap.size w w' := by
  go_enter Tryz.func223, Tryz.ntmps223
  go_wp2_with fail
  refine (idx_nil oa c _).mono ?_
  rintro e w1 ⟨rfl, b1⟩
  go_wp2_with fail
  go_ret
  exact ⟨rfl, b1⟩
theorem enters224 : ∀ (args : Array Value) (w : World), (callFunc 224 args).run Tryz.prog w = .ok (.enter 224 args) w := enters_of Tryz.func224 (by kernel_rfl) rfl
theorem has_any {w : World} {v : Value} {ts : List Tk} (h : Sx tc w v ts) (hn : ts.length ≤ 16) (hok : ∀ t ∈ ts, t.ok) :
    Calls Tryz.prog 223 #[v, .func (.func 224) #[] #[]] w fun e w' => e = .returned (.bool false) ∧ Below w.heap.size w w' := by
  obtain ⟨oa, cap, rfl, ha, h⟩ := h
  rcases ha with rfl | ⟨g, rfl⟩
  · have hrs : ts = [] := Classical.byContradiction fun hne => by obtain ⟨g, hg, _⟩ := h hne; cases hg
    subst hrs
    exact has_nil _ cap w
  · by_cases hne : ts = []
    · subst hne
      exact has_nil _ cap w
    · obtain ⟨g', hg, hlt, hc, hr⟩ := h hne
      cases hg
      have hv := pmap_val ts hok
      have hl : (ts.pmap Subtype.mk hok).length = ts.length := List.length_pmap
      refine (AnyQ.slices_ContainsFunc (α := {x : Tk // x.ok}) Sh.hasTask 5 (fun w => by kernel_rfl) (fun w => by kernel_rfl) (fun x => tc x.val) (fun _ => rfl) (fun _ => false) 224 #[] enters224 g 0 ts.length cap (ts.pmap Subtype.mk hok) w ?_ (by omega) (by omega) hlt ?_).mono ?_
      · intro W x hb
        exact (bad_any x.2 W).mono fun e w' h => ⟨h.1, hb.trans (h.2.mono hb.size)⟩
      · intro j hj i u hu
        have := chunk_at (fun x : {x : Tk // x.ok} => tc x.val) 5 (fun _ => rfl) (ts.pmap Subtype.mk hok) j hj i u hu
        have e : (ts.pmap Subtype.mk hok).flatMap (fun x => tc x.val) = ts.flatMap tc := by
          conv => rhs; rw [← hv]
          rw [List.flatMap_map]
        rw [e] at this
        have := hr _ _ this
        rw [show 0 + j * 5 + i = 0 + (j * 5 + i) from by omega]
        exact this
      · rintro e w' ⟨rfl, hb⟩
        exact ⟨by simp, hb⟩
set_option maxRecDepth 100000 in
theorem row_any {w : World} {v : Value} {ts : List Tk} (h : Sx tc w v ts) (hn : ts.length ≤ 16) (hok : ∀ t ∈ ts, t.ok) :
    Calls Tryz.prog 205 #[v] w fun e w' => e = .returned (.bool true) ∧ Below w.heap.size w w' := by
  have H := has_any h hn hok
  obtain ⟨oa, cap, rfl, _⟩ := h
  have hle : decide ((ts.length : Int) ≤ 16) = true := by simp; omega
  have HH := Lib.hid H
  clear H
  go_enter Tryz.func205, Tryz.ntmps205
  go_wp2_with fail
  refine HH.out.mono ?_
  rintro e w1 ⟨rfl, b1⟩
  go_wp2_with fail
  go_ret
  exact ⟨rfl, b1⟩
set_option maxRecDepth 100000 in
/-- The greatest number that divides both. -/
theorem gcd_any (a b : Nat) (ha : 0 < a) (ha2 : a ≤ 1048576) (hb : b ≤ 1048576) (w : World) :
    Calls Tryz.prog 279 #[.int .i64 a, .int .i64 b] w fun e w' => e = .returned (.int .i64 (Nat.gcd a b)) ∧ Below w.heap.size w w' := by
  go_enter Tryz.func279, Tryz.ntmps279
  go_wp2_with fail
  go_loopw [0, 1] (fun u v wr => ∃ x y : Nat, u = .int .i64 x ∧ v = .int .i64 y ∧ 0 < x ∧ x ≤ 1048576 ∧ y ≤ 1048576 ∧ Nat.gcd x y = Nat.gcd a b ∧ Hid (Below w.heap.size w wr)) (fun _ v _ => (intOf v).toNat)
  case atStart => exact ⟨a, b, rfl, rfl, ha, ha2, hb, rfl, bl0 w⟩
  case round =>
    obtain ⟨x, y, rfl, rfl, hx, hx2, hy, hg, hB⟩ := hrel
    by_cases h0 : y = 0
    · subst h0
      have hm : max (x : Int) (-(x : Int)) = x := by omega
      go_wp2_with fail
      go_ret
      rw [Nat.gcd_zero_right] at hg
      exact ⟨by rw [← hg]; rfl, hB.out⟩
    · have h1 : ((y : Int) != 0) = true := by simp; omega
      have h2 : ¬ ((y : Int) = 0) := by omega
      have h3 : (x : Int).tmod (y : Int) = ((x % y : Nat) : Int) := by rw [Int.tmod_eq_emod_of_nonneg (by omega)]; rfl
      have hy0 : ((y : Int) == 0) = false := by simp; omega
      go_wp2_with fail
      go_region
      go_wp2_with fail
      go_roundw
      case rel => exact ⟨y, x % y, rfl, rfl, by omega, hy, by have := Nat.mod_lt x (show 0 < y by omega); omega, by rw [← hg, Nat.gcd_comm x y, Nat.gcd_rec y x, Nat.gcd_comm], bl_drew hB⟩
      case measure => have := Nat.mod_lt x (show 0 < y by omega); simp [intOf]; omega
/-- One more period. -/
def lcm1 (m n : Nat) : Nat := m * (n / Nat.gcd m n)
end Go.Proofs.YtoichcickcgbgaaGreatDoor
namespace Go.Proofs.YtoichcickcgbgaaGreatDoor
open Go.RowKit
attribute [local go_sem] Oper.semAt_some
theorem tdiv_nat (a b : Nat) : (a : Int).tdiv (b : Int) = ((a / b : Nat) : Int) := by rw [Int.tdiv_eq_ediv_of_nonneg (by omega)]; rfl
set_option linter.unusedSimpArgs false in
set_option maxRecDepth 100000 in
theorem times_any {w : World} {c m n : Nat} (h : Bx w c 2 [.int .i64 m]) (hm : 0 < m) (hm2 : m ≤ 1048576) (hn : 0 < n) (hn2 : n ≤ 1048576) :
    Calls Tryz.prog 278 #[.int .i64 n, .pointer (some ⟨c, 0, none⟩)] w fun e w' => e = .returned (.bool (decide (lcm1 m n ≤ 1048576))) ∧ Bx w' c 2 [.int .i64 (lcm1 m n)] ∧ Turn (fun k => k = c) w w' := by
  have HC := Lib.hid h
  clear h
  have hg : 0 < Nat.gcd m n := Nat.gcd_pos_of_pos_left _ hm
  have hl : lcm1 m n = m * (n / Nat.gcd m n) := rfl
  have hqn : n / Nat.gcd m n ≤ n := Nat.div_le_self _ _
  generalize hG : Nat.gcd m n = G at *
  generalize hq : n / G = q at *
  generalize lcm1 m n = l at *
  have hqt : (n : Int).tdiv (G : Int) = (q : Int) := by rw [tdiv_nat, hq]
  have hgz : ¬ ((G : Int) = 0) := by omega
  have hgb : ((G : Int) == 0) = false := by simp; omega
  have hml : (m : Int) * (q : Int) = (l : Int) := by rw [hl]; push_cast; rfl
  have hll : l ≤ 1048576 * 1048576 := by rw [hl]; exact Nat.mul_le_mul hm2 (by omega)
  have hwq : IntKind.i64.wrap (q : Int) = (q : Int) := IntWalk.i64_in _ (by omega)
  have hwl : IntKind.i64.wrap ((m : Int) * (q : Int)) = (l : Int) := by rw [hml]; exact IntWalk.i64_in _ (by omega)
  clear hl hq hqn
  go_enter Tryz.func278, Tryz.ntmps278
  go_wp2_with fail
  have c0 := HC.out.cell 0 rfl
  refine wp_region_any (by kernel_rfl) ?_
  change wpAny _ _ _ _ _ _ _ w.drew
  refine wpAny_take (i := 1) (v := .int .i64 n) rfl (by kernel_rfl) (by kernel_rfl) (by kernel_rfl) (fun _ _ _ h => h) (Or.inl ⟨by rfl, fun x => by (go_simp) <;> first | decide | (rw [if_neg (by omega), IntWalk.i64_in _ (by omega)]) | exact IntWalk.i64_in _ (by omega)⟩) ?_
  try simp only [Act.put, pw]
  refine wpAny_take (i := 3) (v := .int .i64 n) rfl (by kernel_rfl) (by kernel_rfl) (by kernel_rfl) (fun _ _ _ h => h) (Or.inl ⟨by rfl, fun x => by (go_simp) <;> first | decide | (rw [if_neg (by omega), IntWalk.i64_in _ (by omega)]) | exact IntWalk.i64_in _ (by omega)⟩) ?_
  try simp only [Act.put, pw]
  refine wpAny_ready (rs := [0, 2]) (by kernel_rfl) (by simp) (AllReady.cons rfl (fun K hK => ?_) (AllReady.cons rfl (fun K hK => ?_) AllReady.nil))
  · go_simp
    refine hK _ _ ?_
    clear hK K
    try simp only [Act.put, pw]
    refine wpAny_ready (rs := [2]) (by kernel_rfl) (by simp) (AllReady.cons rfl (fun K hK => ?_) AllReady.nil)
    go_simp
    refine hK _ _ ?_
    clear hK K
    try simp only [Act.put, pw]
    refine wpAny_ready (rs := [4]) (by kernel_rfl) (by simp) (AllReady.cons rfl (fun K hK => ?_) AllReady.nil)
    go_simp
    refine (gcd_any m n hm hm2 hn2 _).mono ?_
    rw [hG]
    rintro e w1 ⟨rfl, b1⟩
    have HB1 : Hid (Below w.heap.size w w1) := (Below.refl _ _).drew.trans b1
    have z0 := (HC.out.bl HB1).cell 0 rfl
    have fz0 := (HC.out.bl HB1).free 0
    clear b1
    refine hK _ _ ?_
    clear hK K
    try simp only [Act.put, pw]
    refine wpAny_ready (rs := [5]) (by kernel_rfl) (by simp) (AllReady.cons rfl (fun K hK => ?_) AllReady.nil)
    go_simp
    (try rw [if_neg (by omega)])
    (try rw [IntWalk.i64_in _ (by omega)])
    refine hK _ _ ?_
    clear hK K
    try simp only [Act.put, pw]
    refine wpAny_ready (rs := [6]) (by kernel_rfl) (by simp) (AllReady.cons rfl (fun K hK => ?_) AllReady.nil)
    go_simp
    (try rw [if_neg (by omega)])
    (try rw [IntWalk.i64_in _ (by omega)])
    refine hK _ _ ?_
    clear hK K
    try simp only [Act.put, pw]
    refine wpAny_ready (rs := [7]) (by kernel_rfl) (by simp) (AllReady.cons rfl (fun K hK => ?_) AllReady.nil)
    go_simp
    refine hK _ _ ?_
    clear hK K
    try simp only [Act.put, pw]
    refine wpAny_done (by kernel_rfl) ?_ _
    have HC1 := HC.out.bl HB1
    have HC2 := HC1.set 0 (.int .i64 l) [.int .i64 l] rfl
    have y0 := HC2.cell 0 rfl
    have HT1 : Hid (Turn (fun k => k = c) w (w1.setCell ⟨c, 0, none⟩ (.int .i64 l))) := (Turn.below HB1.out).trans (Turn.set (S := fun k => k = c) w1 c 0 _ rfl)
    have HC3 := Lib.hid HC2
    clear HC1 HC2 z0 fz0
    go_wp2_with fail
    go_ret
    have hdl : decide ((l : Int) ≤ 1048576) = decide (l ≤ 1048576) := by rw [decide_eq_decide]; omega
    exact ⟨by rw [← hdl]; rfl, HC3.out, HT1.out⟩
  · go_simp
    refine hK _ _ ?_
    clear hK K
    try simp only [Act.put, pw]
    refine wpAny_ready (rs := [0, 4]) (by kernel_rfl) (by simp) (AllReady.cons rfl (fun K hK => ?_) (AllReady.cons rfl (fun K hK => ?_) AllReady.nil))
    · go_simp
      refine hK _ _ ?_
      clear hK K
      try simp only [Act.put, pw]
      refine wpAny_ready (rs := [4]) (by kernel_rfl) (by simp) (AllReady.cons rfl (fun K hK => ?_) AllReady.nil)
      go_simp
      refine (gcd_any m n hm hm2 hn2 _).mono ?_
      rw [hG]
      rintro e w1 ⟨rfl, b1⟩
      have HB1 : Hid (Below w.heap.size w w1) := (Below.refl _ _).drew.trans b1
      have z0 := (HC.out.bl HB1).cell 0 rfl
      have fz0 := (HC.out.bl HB1).free 0
      clear b1
      refine hK _ _ ?_
      clear hK K
      try simp only [Act.put, pw]
      refine wpAny_ready (rs := [5]) (by kernel_rfl) (by simp) (AllReady.cons rfl (fun K hK => ?_) AllReady.nil)
      go_simp
      (try rw [if_neg (by omega)])
      (try rw [IntWalk.i64_in _ (by omega)])
      refine hK _ _ ?_
      clear hK K
      try simp only [Act.put, pw]
      refine wpAny_ready (rs := [6]) (by kernel_rfl) (by simp) (AllReady.cons rfl (fun K hK => ?_) AllReady.nil)
      go_simp
      (try rw [if_neg (by omega)])
      (try rw [IntWalk.i64_in _ (by omega)])
      refine hK _ _ ?_
      clear hK K
      try simp only [Act.put, pw]
      refine wpAny_ready (rs := [7]) (by kernel_rfl) (by simp) (AllReady.cons rfl (fun K hK => ?_) AllReady.nil)
      go_simp
      refine hK _ _ ?_
      clear hK K
      try simp only [Act.put, pw]
      refine wpAny_done (by kernel_rfl) ?_ _
      have HC1 := HC.out.bl HB1
      have HC2 := HC1.set 0 (.int .i64 l) [.int .i64 l] rfl
      have y0 := HC2.cell 0 rfl
      have HT1 : Hid (Turn (fun k => k = c) w (w1.setCell ⟨c, 0, none⟩ (.int .i64 l))) := (Turn.below HB1.out).trans (Turn.set (S := fun k => k = c) w1 c 0 _ rfl)
      have HC3 := Lib.hid HC2
      clear HC1 HC2 z0 fz0
      go_wp2_with fail
      go_ret
      have hdl : decide ((l : Int) ≤ 1048576) = decide (l ≤ 1048576) := by rw [decide_eq_decide]; omega
      exact ⟨by rw [← hdl]; rfl, HC3.out, HT1.out⟩
    · go_simp
      refine (gcd_any m n hm hm2 hn2 _).mono ?_
      rw [hG]
      rintro e w1 ⟨rfl, b1⟩
      have HB1 : Hid (Below w.heap.size w w1) := (Below.refl _ _).drew.trans b1
      have z0 := (HC.out.bl HB1).cell 0 rfl
      have fz0 := (HC.out.bl HB1).free 0
      clear b1
      refine hK _ _ ?_
      clear hK K
      try simp only [Act.put, pw]
      refine wpAny_ready (rs := [0, 5]) (by kernel_rfl) (by simp) (AllReady.cons rfl (fun K hK => ?_) (AllReady.cons rfl (fun K hK => ?_) AllReady.nil))
      · go_simp
        refine hK _ _ ?_
        clear hK K
        try simp only [Act.put, pw]
        refine wpAny_ready (rs := [5]) (by kernel_rfl) (by simp) (AllReady.cons rfl (fun K hK => ?_) AllReady.nil)
        go_simp
        (try rw [if_neg (by omega)])
        (try rw [IntWalk.i64_in _ (by omega)])
        refine hK _ _ ?_
        clear hK K
        try simp only [Act.put, pw]
        refine wpAny_ready (rs := [6]) (by kernel_rfl) (by simp) (AllReady.cons rfl (fun K hK => ?_) AllReady.nil)
        go_simp
        (try rw [if_neg (by omega)])
        (try rw [IntWalk.i64_in _ (by omega)])
        refine hK _ _ ?_
        clear hK K
        try simp only [Act.put, pw]
        refine wpAny_ready (rs := [7]) (by kernel_rfl) (by simp) (AllReady.cons rfl (fun K hK => ?_) AllReady.nil)
        go_simp
        refine hK _ _ ?_
        clear hK K
        try simp only [Act.put, pw]
        refine wpAny_done (by kernel_rfl) ?_ _
        have HC1 := HC.out.bl HB1
        have HC2 := HC1.set 0 (.int .i64 l) [.int .i64 l] rfl
        have y0 := HC2.cell 0 rfl
        have HT1 : Hid (Turn (fun k => k = c) w (w1.setCell ⟨c, 0, none⟩ (.int .i64 l))) := (Turn.below HB1.out).trans (Turn.set (S := fun k => k = c) w1 c 0 _ rfl)
        have HC3 := Lib.hid HC2
        clear HC1 HC2 z0 fz0
        go_wp2_with fail
        go_ret
        have hdl : decide ((l : Int) ≤ 1048576) = decide (l ≤ 1048576) := by rw [decide_eq_decide]; omega
        exact ⟨by rw [← hdl]; rfl, HC3.out, HT1.out⟩
      · go_simp
        (try rw [if_neg (by omega)])
        (try rw [IntWalk.i64_in _ (by omega)])
        refine hK _ _ ?_
        clear hK K
        try simp only [Act.put, pw]
        refine wpAny_ready (rs := [0]) (by kernel_rfl) (by simp) (AllReady.cons rfl (fun K hK => ?_) AllReady.nil)
        go_simp
        refine hK _ _ ?_
        clear hK K
        try simp only [Act.put, pw]
        refine wpAny_ready (rs := [6]) (by kernel_rfl) (by simp) (AllReady.cons rfl (fun K hK => ?_) AllReady.nil)
        go_simp
        (try rw [if_neg (by omega)])
        (try rw [IntWalk.i64_in _ (by omega)])
        refine hK _ _ ?_
        clear hK K
        try simp only [Act.put, pw]
        refine wpAny_ready (rs := [7]) (by kernel_rfl) (by simp) (AllReady.cons rfl (fun K hK => ?_) AllReady.nil)
        go_simp
        refine hK _ _ ?_
        clear hK K
        try simp only [Act.put, pw]
        refine wpAny_done (by kernel_rfl) ?_ _
        have HC1 := HC.out.bl HB1
        have HC2 := HC1.set 0 (.int .i64 l) [.int .i64 l] rfl
        have y0 := HC2.cell 0 rfl
        have HT1 : Hid (Turn (fun k => k = c) w (w1.setCell ⟨c, 0, none⟩ (.int .i64 l))) := (Turn.below HB1.out).trans (Turn.set (S := fun k => k = c) w1 c 0 _ rfl)
        have HC3 := Lib.hid HC2
        clear HC1 HC2 z0 fz0
        go_wp2_with fail
        go_ret
        have hdl : decide ((l : Int) ≤ 1048576) = decide (l ≤ 1048576) := by rw [decide_eq_decide]; omega
        exact ⟨by rw [← hdl]; rfl, HC3.out, HT1.out⟩
end Go.Proofs.YtoichcickcgbgaaGreatDoor
