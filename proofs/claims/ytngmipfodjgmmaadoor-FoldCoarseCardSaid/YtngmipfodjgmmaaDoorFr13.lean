/- Walks and plain laws of this claim, a part. -/
import Derived.Test.YtngmipfodjgmmaaDoorProg
import Derived.Below
import Derived.Deep.Draws
import Derived.WalkKit
import Derived.Shelf.Strings.Search1
import Derived.Shelf.Strings.Search2
import Derived.Shelf.Strings.Search3
import Derived.Shelf.Strings.Count
import Derived.Shelf.LaysM
import Derived.Shelf.Strings.Shaped
import Derived.Shelf.Bits.Mul64
section
namespace Go.Proofs.YtngmipfodjgmmaaDoor.P
open Go Go.RowKit
def shapesL : List Int := [0, 1, 1, 1, 2, 2, 2, 2, 3, 3, 3, 3, 4, 4, 4, 4, 5, 5, 5, 5, 6, 6, 7, 7, 8, 8, 9, 10, 10, 11, 11, 12, 9, 9, 13, 13, 13, 14, 15, 16]
def basesL : List Int := [0, 3531603968, 2457862144, 4068474880, 2432696320, 3506438144, 2969567232, 4043309056, 2449473536, 2986344448, 3523215360, 4060086272, 2332033024, 3405774848, 2868903936, 3942645760, 2315255808, 2852126720, 3388997632, 3925868544, 2600468480, 2600501248, 4181721088, 4177526784, 960495616, 956301312, 1476395008, 268435456, 2415919104, 335544320, 2483027968, 1409286144, 3019898880, 3036676096, 3592355840, 3594452992, 3596550144, 3556769793, 3573751839, 2592079872]
def fieldsL : List Int := [0, 8388607, 8388607, 8388607, 14680063, 14680063, 2064383, 4194303, 4194303, 16777215, 1627389951, 67108863, 16777199, 992, 2097120, 0, 2094079]
def fittingL : List Int := [0, 0, 0, 0, 29, 30, 31, 33, 26, 26, 27, 27, 28, 28, 4, 4, 22, 23, 24, 25]
/-- The four tables, cell by cell; their blocks are old ones. -/
structure Glob (w : World) : Prop where
 shapes : ∀ i, i < 40 → w.cell? ⟨4, i, none⟩ = some (.int .i64 (shapesL.getD i 0))
 bases : ∀ i, i < 40 → w.cell? ⟨3, i, none⟩ = some (.int .u32 (basesL.getD i 0))
 fields : ∀ i, i < 17 → w.cell? ⟨2, i, none⟩ = some (.int .u32 (fieldsL.getD i 0))
 fitting : ∀ i, i < 20 → w.cell? ⟨0, i, none⟩ = some (.int .i64 (fittingL.getD i 0))
 size : 4 < w.heap.size ∧ 3 < w.heap.size ∧ 2 < w.heap.size ∧ 0 < w.heap.size
theorem Glob.below {w w1 : World} (h : Glob w) (hb : Below w.heap.size w w1) : Glob w1 := by
 obtain ⟨h1, h2, h3, h4, z1, z2, z3, z4⟩ := h
 have hs := hb.size
 exact ⟨fun i hi => (hb.cell (p := ⟨_, i, none⟩) z1).trans (h1 i hi), fun i hi => (hb.cell (p := ⟨_, i, none⟩) z2).trans (h2 i hi),
  fun i hi => (hb.cell (p := ⟨_, i, none⟩) z3).trans (h3 i hi), fun i hi => (hb.cell (p := ⟨_, i, none⟩) z4).trans (h4 i hi),
  by omega, by omega, by omega, by omega⟩
theorem Glob.drewN {w : World} {n : Nat} (h : Glob w) : Glob (w.drewN n) := ⟨h.shapes, h.bases, h.fields, h.fitting, h.size⟩
theorem Glob.drew {w : World} (h : Glob w) : Glob w.drew := ⟨h.shapes, h.bases, h.fields, h.fitting, h.size⟩
end Go.Proofs.YtngmipfodjgmmaaDoor.P
end
section
namespace Go.Proofs
open Go.Shelf
def Tryd.lays138_ren : Go.Shelf.Ren := ⟨fun | 138 => 59 | 195 => 65 | 218 => 66 | 143 => 67 | 219 => 74 | 217 => 79 | 225 => 80 | 224 => 81 | 267 => 82 | 266 => 99 | 314 => 100 | n => n, fun | 9 => 9 | 3 => 3 | 4 => 4 | 5 => 5 | 0 => 0 | 46 => 140 | 146 => 159 | 51 => 113 | n => n, fun | 1 => 1 | n => n⟩
theorem Tryd.lays138 : Go.Proofs.Lays.n138 Tryd.prog Tryd.lays138_ren := {
 mixed := by kernel_rfl
 f138 := Tryd.func59.trans (congrArg some (by kernel_rfl))
 f143 := Tryd.func67.trans (congrArg some (by kernel_rfl))
 f195 := Tryd.func65.trans (congrArg some (by kernel_rfl))
 f217 := Tryd.func79.trans (congrArg some (by kernel_rfl))
 f218 := Tryd.func66.trans (congrArg some (by kernel_rfl))
 f219 := Tryd.func74.trans (congrArg some (by kernel_rfl))
 f224 := Tryd.func81.trans (congrArg some (by kernel_rfl))
 f225 := Tryd.func80.trans (congrArg some (by kernel_rfl))
 f266 := Tryd.func99.trans (congrArg some (by kernel_rfl))
 f267 := Tryd.func82.trans (congrArg some (by kernel_rfl))
 f314 := Tryd.func100.trans (congrArg some (by kernel_rfl))
 t0 := Tryd.underlying0
 a0 := Tryd.isAgg0
 z0 := Tryd.sizeOf0
 v0 := Tryd.zeroValue0
 t3 := Tryd.underlying3
 a3 := Tryd.isAgg3
 z3 := Tryd.sizeOf3
 v3 := Tryd.zeroValue3
 t4 := Tryd.underlying4
 a4 := Tryd.isAgg4
 z4 := Tryd.sizeOf4
 v4 := Tryd.zeroValue4
 t5 := Tryd.underlying5
 a5 := Tryd.isAgg5
 z5 := Tryd.sizeOf5
 v5 := Tryd.zeroValue5
 t9 := Tryd.underlying9
 a9 := Tryd.isAgg9
 z9 := Tryd.sizeOf9
 v9 := Tryd.zeroValue9
 t46 := Tryd.underlying140
 a46 := Tryd.isAgg140
 z46 := Tryd.sizeOf140
 v46 := Tryd.zeroValue140
 t51 := Tryd.underlying113
 a51 := Tryd.isAgg113
 z51 := Tryd.sizeOf113
 v51 := Tryd.zeroValue113
 t146 := Tryd.underlying159
 a146 := Tryd.isAgg159
 z146 := Tryd.sizeOf159
 v146 := Tryd.zeroValue159
 g1 := by kernel_rfl }
open Go.RowKit Go.Lib in
/-- strings.Count AT A substr OF ONE BYTE ('hp'): "Count counts the number of non-overlapping instances of substr in s.": IT RETURNS 'Lib.countByte s (that byte)'; the world is as it was. ✋ NO CONTRACT HERE YET at an empty substr (utf8.RuneCountInString) or at a longer one (a loop over strings.Index). (LAID: no walk: one application.) -/
theorem Tryd.strings_Count_one (s : ByteArray) (c : UInt8) (w : World) :
 Calls Tryd.prog 59 #[.string s, .string ⟨#[c]⟩] w fun e w' => e = .returned (.int .i64 (Lib.countByte s.data.toList c)) ∧ w' = w := Any.strings_Count_one Tryd.lays138 s c w
open Go.RowKit Go.Lib in
/-- strings.Count AT A substr OF TWO BYTES OR MORE: "Count counts the number of non-overlapping instances of substr in s.": IT RETURNS 'Lib.count s substr'; the world is as it was. (LAID: no walk: one application.) -/
theorem Tryd.strings_Count (s sub : ByteArray) (m : Int) (w : World) (hs : s.size < 4294967281) (hm : w.cell? ⟨1, 0, none⟩ = some (.int .i64 m)) (h2 : 2 ≤ sub.size) :
 Calls Tryd.prog 59 #[.string s, .string sub] w fun e w' => e = .returned (.int .i64 (Lib.countB s sub)) ∧ w' = w := Any.strings_Count Tryd.lays138 s sub m w hs hm h2
def Tryd.lays264_ren : Go.Shelf.Ren := ⟨fun | 264 => 71 | n => n, fun | 53 => 115 | 46 => 140 | n => n, fun | n => n⟩
theorem Tryd.lays264 : Go.Proofs.Lays.n264 Tryd.prog Tryd.lays264_ren := {
 mixed := by kernel_rfl
 f264 := Tryd.func71.trans (congrArg some (by kernel_rfl))
 t46 := Tryd.underlying140
 a46 := Tryd.isAgg140
 z46 := Tryd.sizeOf140
 v46 := Tryd.zeroValue140
 t53 := Tryd.underlying115
 a53 := Tryd.isAgg115
 z53 := Tryd.sizeOf115
 v53 := Tryd.zeroValue115 }
open Go.RowKit Go.Lib in
theorem Tryd.bits_Mul64 (x y : Nat) (hx : x < 18446744073709551616) (hy : y < 18446744073709551616) (w : World) :
 Calls Tryd.prog 71 #[.int .u64 x, .int .u64 y] w fun e w' => e = .returned (.tuple #[.int .u64 ((x * y / 18446744073709551616 : Nat) : Int), .int .u64 ((x * y % 18446744073709551616 : Nat) : Int)]) ∧ w' = w := Any.bits_Mul64 Tryd.lays264 x y hx hy w
end Go.Proofs
end
