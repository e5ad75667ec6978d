/-
  DERIVED: THE SHELF's CONTRACTS AT THIS DUMP, IN PLAIN WORDS (tools/lay-plain.mjs out of 'YtpcdebakiccecaaGreatDoorShelf.lean', which tools/lay-shelf.mjs wrote): THE SAME DECLARATIONS UNDER THE SAME NAMES: 'import', 'namespace', 'open', 'def', 'theorem' AND NOTHING ELSE: no command of the shelf's: FOR A HAND-IN. Each laying: the table of numbers ('.._ren') and one theorem, a field a fact of the dump's own or the kernel's comparison; each contract: ONE APPLICATION.
-/
import Derived.Test.YtpcdebakiccecaaGreatDoorProg
import Derived.Shelf.Strings.Builder1
import Derived.Shelf.Strings.Builder2
import Derived.Shelf.Strings.BuilderF
import Derived.Shelf.Strings.BuilderK
import Derived.Shelf.Utf8.RuneCount
import Derived.Shelf.Strings.Builder2Cap
import Derived.Shelf.Strconv.Itoa0
import Derived.Shelf.Strconv.Itoa1
import Derived.Shelf.LaysM
import Derived.Shelf.Strconv.Itoa2
import Derived.Shelf.Strings.Search1
import Derived.Shelf.Strings.Search2
import Derived.Shelf.Strings.Search3
import Derived.Shelf.Strings.Count
import Derived.Shelf.Strings.Shaped
import Derived.Shelf.Strings.Prefix
import Derived.Shelf.Strings.Split
import Derived.Shelf.Strings.RuneCount
import Derived.Shelf.Bits.Mul64
import Derived.Shelf.Strings.Repeat
namespace Go.Proofs
open Go.Shelf
def Tryz.lays169_ren : Go.Shelf.Ren := ⟨fun | 169 => 39 | n => n, fun | 70 => 73 | 9 => 9 | 0 => 0 | 72 => 76 | 37 => 74 | 127 => 115 | 3 => 3 | 5 => 5 | n => n, fun | n => n⟩
theorem Tryz.lays169 : Go.Proofs.Lays.n169 Tryz.prog Tryz.lays169_ren := {
 mixed := by kernel_rfl
 f169 := Tryz.func39.trans (congrArg some (by kernel_rfl))
 t0 := Tryz.underlying0
 a0 := Tryz.isAgg0
 z0 := Tryz.sizeOf0
 v0 := Tryz.zeroValue0
 t3 := Tryz.underlying3
 a3 := Tryz.isAgg3
 z3 := Tryz.sizeOf3
 v3 := Tryz.zeroValue3
 t9 := Tryz.underlying9
 a9 := Tryz.isAgg9
 z9 := Tryz.sizeOf9
 v9 := Tryz.zeroValue9
 t37 := Tryz.underlying74
 a37 := Tryz.isAgg74
 z37 := Tryz.sizeOf74
 v37 := Tryz.zeroValue74
 t70 := Tryz.underlying73
 a70 := Tryz.isAgg73
 z70 := Tryz.sizeOf73
 v70 := Tryz.zeroValue73
 t72 := Tryz.underlying76
 a72 := Tryz.isAgg76
 z72 := Tryz.sizeOf76
 v72 := Tryz.zeroValue76
 t127 := Tryz.underlying115
 a127 := Tryz.isAgg115
 z127 := Tryz.sizeOf115
 v127 := Tryz.zeroValue115 }
theorem Tryz.Builder_Extra_169 : Builder.Extra Tryz.prog Tryz.lays169_ren := {
 sizeBuilder := by kernel_rfl
 liesBuilder := by kernel_rfl
 t5 := Tryz.underlying5
 a5 := Tryz.isAgg5
 z5 := Tryz.sizeOf5
 v5 := Tryz.zeroValue5
 infoByte := by kernel_rfl
 cellsByte := by kernel_rfl
 sizeByte := by kernel_rfl
 neB5 := by decide }
open Go.RowKit in
/-- (*strings.Builder).String: "String returns the accumulated string.": WHATEVER THE BUILDER HOLDS. (LAID: no walk: one application.) -/
theorem Tryz.Builder_String_any (B b : Nat) (l : List UInt8) (w : World) (h : Lib.IsBuilder 76 5 B b (Lib.byteCells l) w) (hBw : B ≤ w.heap.size) :
 Calls Tryz.prog 39 #[.pointer (some ⟨b, 0, none⟩)] w fun e w' => e = .returned (.string ⟨l.toArray⟩) ∧ Below B w w' := Any.Builder_String_any Tryz.lays169 Tryz.Builder_Extra_169 B b l w h hBw
def Tryz.lays138_ren : Go.Shelf.Ren := ⟨fun | 138 => 27 | 195 => 56 | 218 => 57 | 143 => 58 | 219 => 82 | 217 => 94 | 225 => 95 | 224 => 96 | 267 => 97 | 266 => 107 | 314 => 108 | n => n, fun | 9 => 9 | 3 => 3 | 4 => 4 | 5 => 5 | 0 => 0 | 46 => 69 | 146 => 113 | 51 => 35 | n => n, fun | 1 => 3 | n => n⟩
theorem Tryz.lays138 : Go.Proofs.Lays.n138 Tryz.prog Tryz.lays138_ren := {
 mixed := by kernel_rfl
 f138 := Tryz.func27.trans (congrArg some (by kernel_rfl))
 f143 := Tryz.func58.trans (congrArg some (by kernel_rfl))
 f195 := Tryz.func56.trans (congrArg some (by kernel_rfl))
 f217 := Tryz.func94.trans (congrArg some (by kernel_rfl))
 f218 := Tryz.func57.trans (congrArg some (by kernel_rfl))
 f219 := Tryz.func82.trans (congrArg some (by kernel_rfl))
 f224 := Tryz.func96.trans (congrArg some (by kernel_rfl))
 f225 := Tryz.func95.trans (congrArg some (by kernel_rfl))
 f266 := Tryz.func107.trans (congrArg some (by kernel_rfl))
 f267 := Tryz.func97.trans (congrArg some (by kernel_rfl))
 f314 := Tryz.func108.trans (congrArg some (by kernel_rfl))
 t0 := Tryz.underlying0
 a0 := Tryz.isAgg0
 z0 := Tryz.sizeOf0
 v0 := Tryz.zeroValue0
 t3 := Tryz.underlying3
 a3 := Tryz.isAgg3
 z3 := Tryz.sizeOf3
 v3 := Tryz.zeroValue3
 t4 := Tryz.underlying4
 a4 := Tryz.isAgg4
 z4 := Tryz.sizeOf4
 v4 := Tryz.zeroValue4
 t5 := Tryz.underlying5
 a5 := Tryz.isAgg5
 z5 := Tryz.sizeOf5
 v5 := Tryz.zeroValue5
 t9 := Tryz.underlying9
 a9 := Tryz.isAgg9
 z9 := Tryz.sizeOf9
 v9 := Tryz.zeroValue9
 t46 := Tryz.underlying69
 a46 := Tryz.isAgg69
 z46 := Tryz.sizeOf69
 v46 := Tryz.zeroValue69
 t51 := Tryz.underlying35
 a51 := Tryz.isAgg35
 z51 := Tryz.sizeOf35
 v51 := Tryz.zeroValue35
 t146 := Tryz.underlying113
 a146 := Tryz.isAgg113
 z146 := Tryz.sizeOf113
 v146 := Tryz.zeroValue113
 g1 := by kernel_rfl }
open Go.RowKit Go.Lib in
/-- strings.Count AT A substr OF ONE BYTE ('hp'): "Count counts the number of non-overlapping instances of substr in s.": IT RETURNS 'Lib.countByte s (that byte)'; the world is as it was. ✋ NO CONTRACT HERE YET at an empty substr (utf8.RuneCountInString) or at a longer one (a loop over strings.Index). (LAID: no walk: one application.) -/
theorem Tryz.strings_Count_one (s : ByteArray) (c : UInt8) (w : World) :
 Calls Tryz.prog 27 #[.string s, .string ⟨#[c]⟩] w fun e w' => e = .returned (.int .i64 (Lib.countByte s.data.toList c)) ∧ w' = w := Any.strings_Count_one Tryz.lays138 s c w
open Go.RowKit Go.Lib in
/-- strings.Count AT A substr OF TWO BYTES OR MORE: "Count counts the number of non-overlapping instances of substr in s.": IT RETURNS 'Lib.count s substr'; the world is as it was. (LAID: no walk: one application.) -/
theorem Tryz.strings_Count (s sub : ByteArray) (m : Int) (w : World) (hs : s.size < 4294967281) (hm : w.cell? ⟨3, 0, none⟩ = some (.int .i64 m)) (h2 : 2 ≤ sub.size) :
 Calls Tryz.prog 27 #[.string s, .string sub] w fun e w' => e = .returned (.int .i64 (Lib.countB s sub)) ∧ w' = w := Any.strings_Count Tryz.lays138 s sub m w hs hm h2
def Tryz.lays264_ren : Go.Shelf.Ren := ⟨fun | 264 => 61 | n => n, fun | 53 => 38 | 46 => 69 | n => n, fun | n => n⟩
theorem Tryz.lays264 : Go.Proofs.Lays.n264 Tryz.prog Tryz.lays264_ren := {
 mixed := by kernel_rfl
 f264 := Tryz.func61.trans (congrArg some (by kernel_rfl))
 t46 := Tryz.underlying69
 a46 := Tryz.isAgg69
 z46 := Tryz.sizeOf69
 v46 := Tryz.zeroValue69
 t53 := Tryz.underlying38
 a53 := Tryz.isAgg38
 z53 := Tryz.sizeOf38
 v53 := Tryz.zeroValue38 }
open Go.RowKit Go.Lib in
theorem Tryz.bits_Mul64 (x y : Nat) (hx : x < 18446744073709551616) (hy : y < 18446744073709551616) (w : World) :
 Calls Tryz.prog 61 #[.int .u64 x, .int .u64 y] w fun e w' => e = .returned (.tuple #[.int .u64 ((x * y / 18446744073709551616 : Nat) : Int), .int .u64 ((x * y % 18446744073709551616 : Nat) : Int)]) ∧ w' = w := Any.bits_Mul64 Tryz.lays264 x y hx hy w
def Tryz.lays105_ren : Go.Shelf.Ren := ⟨fun | 105 => 22 | 212 => 34 | 99 => 35 | 165 => 36 | 166 => 37 | 170 => 38 | 169 => 39 | 263 => 68 | 264 => 61 | 206 => 69 | 240 => 70 | 241 => 71 | 276 => 87 | 277 => 88 | n => n, fun | 9 => 9 | 3 => 3 | 4 => 4 | 20 => 20 | 0 => 0 | 46 => 69 | 109 => 70 | 5 => 5 | 72 => 76 | 76 => 80 | 51 => 35 | 146 => 113 | 53 => 38 | 148 => 108 | 70 => 73 | 37 => 74 | 75 => 79 | 127 => 115 | 164 => 133 | 80 => 83 | n => n, fun | n => n⟩
theorem Tryz.lays105 : Go.Proofs.Lays.n105 Tryz.prog Tryz.lays105_ren := {
 mixed := by kernel_rfl
 f99 := Tryz.func35.trans (congrArg some (by kernel_rfl))
 f105 := Tryz.func22.trans (congrArg some (by kernel_rfl))
 f165 := Tryz.func36.trans (congrArg some (by kernel_rfl))
 f166 := Tryz.func37.trans (congrArg some (by kernel_rfl))
 f169 := Tryz.func39.trans (congrArg some (by kernel_rfl))
 f170 := Tryz.func38.trans (congrArg some (by kernel_rfl))
 f206 := Tryz.func69.trans (congrArg some (by kernel_rfl))
 f212 := Tryz.func34.trans (congrArg some (by kernel_rfl))
 f240 := Tryz.func70.trans (congrArg some (by kernel_rfl))
 f241 := Tryz.func71.trans (congrArg some (by kernel_rfl))
 f263 := Tryz.func68.trans (congrArg some (by kernel_rfl))
 f264 := Tryz.func61.trans (congrArg some (by kernel_rfl))
 f276 := Tryz.func87.trans (congrArg some (by kernel_rfl))
 f277 := Tryz.func88.trans (congrArg some (by kernel_rfl))
 t0 := Tryz.underlying0
 a0 := Tryz.isAgg0
 z0 := Tryz.sizeOf0
 v0 := Tryz.zeroValue0
 t3 := Tryz.underlying3
 a3 := Tryz.isAgg3
 z3 := Tryz.sizeOf3
 v3 := Tryz.zeroValue3
 t4 := Tryz.underlying4
 a4 := Tryz.isAgg4
 z4 := Tryz.sizeOf4
 v4 := Tryz.zeroValue4
 t5 := Tryz.underlying5
 a5 := Tryz.isAgg5
 z5 := Tryz.sizeOf5
 v5 := Tryz.zeroValue5
 t9 := Tryz.underlying9
 a9 := Tryz.isAgg9
 z9 := Tryz.sizeOf9
 v9 := Tryz.zeroValue9
 t20 := Tryz.underlying20
 a20 := Tryz.isAgg20
 z20 := Tryz.sizeOf20
 v20 := Tryz.zeroValue20
 t37 := Tryz.underlying74
 a37 := Tryz.isAgg74
 z37 := Tryz.sizeOf74
 v37 := Tryz.zeroValue74
 t46 := Tryz.underlying69
 a46 := Tryz.isAgg69
 z46 := Tryz.sizeOf69
 v46 := Tryz.zeroValue69
 t51 := Tryz.underlying35
 a51 := Tryz.isAgg35
 z51 := Tryz.sizeOf35
 v51 := Tryz.zeroValue35
 t53 := Tryz.underlying38
 a53 := Tryz.isAgg38
 z53 := Tryz.sizeOf38
 v53 := Tryz.zeroValue38
 t70 := Tryz.underlying73
 a70 := Tryz.isAgg73
 z70 := Tryz.sizeOf73
 v70 := Tryz.zeroValue73
 t72 := Tryz.underlying76
 a72 := Tryz.isAgg76
 z72 := Tryz.sizeOf76
 v72 := Tryz.zeroValue76
 t75 := Tryz.underlying79
 a75 := Tryz.isAgg79
 z75 := Tryz.sizeOf79
 v75 := Tryz.zeroValue79
 t76 := Tryz.underlying80
 a76 := Tryz.isAgg80
 z76 := Tryz.sizeOf80
 v76 := Tryz.zeroValue80
 t109 := Tryz.underlying70
 a109 := Tryz.isAgg70
 z109 := Tryz.sizeOf70
 v109 := Tryz.zeroValue70
 t127 := Tryz.underlying115
 a127 := Tryz.isAgg115
 z127 := Tryz.sizeOf115
 v127 := Tryz.zeroValue115
 t146 := Tryz.underlying113
 a146 := Tryz.isAgg113
 z146 := Tryz.sizeOf113
 v146 := Tryz.zeroValue113
 t148 := Tryz.underlying108
 a148 := Tryz.isAgg108
 z148 := Tryz.sizeOf108
 v148 := Tryz.zeroValue108
 t164 := Tryz.underlying133
 a164 := Tryz.isAgg133
 z164 := Tryz.sizeOf133
 v164 := Tryz.zeroValue133 }
theorem Tryz.Builder_Extra_105 : Builder.Extra Tryz.prog Tryz.lays105_ren := {
 sizeBuilder := by kernel_rfl
 liesBuilder := by kernel_rfl
 t5 := Tryz.underlying5
 a5 := Tryz.isAgg5
 z5 := Tryz.sizeOf5
 v5 := Tryz.zeroValue5
 infoByte := by kernel_rfl
 cellsByte := by kernel_rfl
 sizeByte := by kernel_rfl
 neB5 := by decide }
open Go.RowKit Go.Lib in
/-- **strings.Repeat: count ≥ 0, the result within one allocation: count copies of s.** (LAID: no walk: one application.) -/
theorem Tryz.strings_Repeat (s : ByteArray) (c : Nat) (w : World) (hc : c ≤ 9223372036854775807) (hlen : s.size * c ≤ 140737488355328) :
 Calls Tryz.prog 22 #[.string s, .int .i64 c] w fun e w' => e = .returned (.string ⟨(Lib.repeatL s.data.toList c).toArray⟩) ∧ Below w.heap.size w w' := Any.strings_Repeat Tryz.lays105 Tryz.Builder_Extra_105 s c w hc hlen
def Tryz.lays167_ren : Go.Shelf.Ren := ⟨fun | 167 => 53 | 240 => 70 | 276 => 87 | n => n, fun | 9 => 9 | 3 => 3 | 4 => 4 | 20 => 20 | 0 => 0 | 46 => 69 | 109 => 70 | 5 => 5 | 72 => 76 | 76 => 80 | 51 => 35 | 146 => 113 | 53 => 38 | 148 => 108 | 70 => 73 | 37 => 74 | 75 => 79 | 127 => 115 | 164 => 133 | 80 => 83 | n => n, fun | n => n⟩
theorem Tryz.lays167 : Go.Proofs.Lays.n167 Tryz.prog Tryz.lays167_ren := {
 mixed := by kernel_rfl
 f167 := Tryz.func53.trans (congrArg some (by kernel_rfl))
 f240 := Tryz.func70.trans (congrArg some (by kernel_rfl))
 f276 := Tryz.func87.trans (congrArg some (by kernel_rfl))
 t0 := Tryz.underlying0
 a0 := Tryz.isAgg0
 z0 := Tryz.sizeOf0
 v0 := Tryz.zeroValue0
 t4 := Tryz.underlying4
 a4 := Tryz.isAgg4
 z4 := Tryz.sizeOf4
 v4 := Tryz.zeroValue4
 t5 := Tryz.underlying5
 a5 := Tryz.isAgg5
 z5 := Tryz.sizeOf5
 v5 := Tryz.zeroValue5
 t9 := Tryz.underlying9
 a9 := Tryz.isAgg9
 z9 := Tryz.sizeOf9
 v9 := Tryz.zeroValue9
 t20 := Tryz.underlying20
 a20 := Tryz.isAgg20
 z20 := Tryz.sizeOf20
 v20 := Tryz.zeroValue20
 t37 := Tryz.underlying74
 a37 := Tryz.isAgg74
 z37 := Tryz.sizeOf74
 v37 := Tryz.zeroValue74
 t70 := Tryz.underlying73
 a70 := Tryz.isAgg73
 z70 := Tryz.sizeOf73
 v70 := Tryz.zeroValue73
 t72 := Tryz.underlying76
 a72 := Tryz.isAgg76
 z72 := Tryz.sizeOf76
 v72 := Tryz.zeroValue76
 t75 := Tryz.underlying79
 a75 := Tryz.isAgg79
 z75 := Tryz.sizeOf79
 v75 := Tryz.zeroValue79
 t164 := Tryz.underlying133
 a164 := Tryz.isAgg133
 z164 := Tryz.sizeOf133
 v164 := Tryz.zeroValue133
}
theorem Tryz.Builder_Extra_167 : Builder.Extra Tryz.prog Tryz.lays167_ren := {
 sizeBuilder := by kernel_rfl
 liesBuilder := by kernel_rfl
 t5 := Tryz.underlying5
 a5 := Tryz.isAgg5
 z5 := Tryz.sizeOf5
 v5 := Tryz.zeroValue5
 infoByte := by kernel_rfl
 cellsByte := by kernel_rfl
 sizeByte := by kernel_rfl
 neB5 := by decide
}
open Go.RowKit in
theorem Tryz.Builder_WriteByte (B b : Nat) (bs : List Value) (c : Int) (w : World) (h : Lib.IsBuilder 76 5 B b bs w) (hlen : bs.length + 1 ≤ 140737488355328) (hBw : B ≤ w.heap.size) :
 Calls Tryz.prog 53 #[.pointer (some ⟨b, 0, none⟩), .int .u8 c] w fun e w' => e = .returned .nilIface ∧ (Lib.BuilderAt 76 5 B b (.pointer (some ⟨b, 0, none⟩)) (bs ++ [.int .u8 c]) w' ∧ Below B w w') := Any.Builder_WriteByte Tryz.lays167 Tryz.Builder_Extra_167 B b bs c w h hlen hBw
end Go.Proofs
