/- Walks and plain laws of this claim, a part. -/
import Derived.Test.YtiadfdehplkojaaGreatDoorProg
import Derived.Test.YtiadfdehplkojaaGreatDoorRs0
import Derived.Test.YtiadfdehplkojaaGreatDoorRs1
import Derived.Test.YtiadfdehplkojaaGreatDoorRs16
import Derived.Test.YtiadfdehplkojaaGreatDoorRs17
import Derived.Test.YtiadfdehplkojaaGreatDoorRs18
import Derived.Test.YtiadfdehplkojaaGreatDoorRs20
import Derived.Test.YtiadfdehplkojaaGreatDoorRs22
import Derived.Below
import Derived.Deep.Draws
import Derived.Deep.AppendLies
import Derived.Maps.AppendAt
import Derived.OwnWalk
import Derived.Laws.BytesArg
import Derived.Laws.MakeOwn
import Derived.Laws.OwnMore
import Derived.Deep.OwnRows
import Derived.Tactics
import Derived.Lib.ConvBytes
import Derived.Laws.Slices
import Derived.WalkKit
import Derived.KernelRfl
import Derived.RowKit3
import Derived.Deep.LoopGhost
import Derived.Deep.QuietTactic
import Derived.BigQuiet
import Derived.WideLaws
import Derived.Deep.DeepCutAuto
import Derived.Deep.CutBlock
import Derived.Deep.RegionHeld3
import Derived.Laws.Rows
import Derived.Lib.AppendStr
import Derived.ArgAppend
import Derived.Laws.IdiomCopy
import Derived.OrdersHeld
import Derived.Laws.BitsLemmas
import Derived.RowKit
import Derived.Laws.EntriesVeiled
import Derived.Deep.WholeRow
import Derived.WalkLawsBesides
import Derived.Recover
import Derived.Defers
import Derived.Laws.RangeAny
import Derived.Lib.Strings
import Derived.Laws.Externs
import Derived.WalkMore
namespace Go.Proofs.YtiadfdehplkojaaGreatDoor.P
open Go.RowKit Go.Proofs.YtiadfdehplkojaaGreatDoorW.PrintWords Go.Proofs.YtiadfdehplkojaaGreatDoorW.PrintLast Go.Proofs.YtiadfdehplkojaaGreatDoorW.PrintMore
attribute [local go_sem] max2_int min2_int max_two min_two max_three min_three max_four min_four   -- for this text's walks alone
set_option linter.unusedVariables false
set_option linter.unusedSimpArgs false
def errW : Option Int → Value
 | none => .nilIface
 | some c => .iface 0 (.int .i64 c)
theorem eNN : errW none = .nilIface := rfl
theorem eSS (c : Int) : errW (some c) = .iface 0 (.int .i64 c) := rfl
structure S61 where
 f0 : Int
 f1 : Int
 f2 : Int
 f3 : Int
def z61 : S61 := ⟨(0 : Int), (0 : Int), (0 : Int), (0 : Int)⟩
def k61 : Kd S61 := Kd.iso (Kd.pair (Kd.int .i64) (Kd.pair (Kd.int .i64) (Kd.pair (Kd.int .i64) (Kd.int .i64)))) (fun x : S61 => (x.f0, x.f1, x.f2, x.f3))
theorem k61_open {w : World} {x : S61} {cs : List Value} (h : k61.K w x cs) : cs = [.int .i64 x.f0, .int .i64 x.f1, .int .i64 x.f2, .int .i64 x.f3] := by
 obtain ⟨_, _, rfl, rfl, ⟨_, _, rfl, rfl, ⟨_, _, rfl, rfl, rfl⟩⟩⟩ := h
 exact rfl
theorem k61_mkM (w : World) (base : Nat) (ok : Nat → Prop) (x : S61)  : k61.M w base ok x [.int .i64 x.f0, .int .i64 x.f1, .int .i64 x.f2, .int .i64 x.f3] := ⟨[.int .i64 x.f0], [.int .i64 x.f1, .int .i64 x.f2, .int .i64 x.f3], rfl, rfl, ⟨[.int .i64 x.f1], [.int .i64 x.f2, .int .i64 x.f3], rfl, rfl, ⟨[.int .i64 x.f2], [.int .i64 x.f3], rfl, rfl, rfl⟩⟩⟩
def rd_T61 (xs : List S61) (i : Int) : S61 := xs.getD i.toNat z61
theorem at_T61 {w : World} {A : Option Addr} {n : Nat} {xs : List S61} (h : Kd.C k61 w A n xs) (i : Int) (h0 : 0 ≤ i) (h1 : i < n) : ∃ ad , A = some ad ∧ w.cell? (ad.add (i.toNat * 4)) = some (.int .i64 (rd_T61 xs i).f0) ∧ w.cell? ⟨(ad.add (i.toNat * 4)).block, (ad.add (i.toNat * 4)).off + 1, none⟩ = some (.int .i64 (rd_T61 xs i).f1) ∧ w.cell? ⟨(ad.add (i.toNat * 4)).block, (ad.add (i.toNat * 4)).off + 2, none⟩ = some (.int .i64 (rd_T61 xs i).f2) ∧ w.cell? ⟨(ad.add (i.toNat * 4)).block, (ad.add (i.toNat * 4)).off + 3, none⟩ = some (.int .i64 (rd_T61 xs i).f3) := by
 obtain ⟨ad, c, e, _, hK, hc0⟩ := Kd.C_get h z61 i h0 h1
 have hc : ∀ j u, c[j]? = some u → w.cell? (ad.add (i.toNat * 4 + j)) = some u := hc0
 obtain rfl := k61_open hK
 exact ⟨ad, e, hc 0 _ rfl, by rw [← add_field _ _ 1 (by omega)]; exact hc 1 _ rfl, by rw [← add_field _ _ 2 (by omega)]; exact hc 2 _ rfl, by rw [← add_field _ _ 3 (by omega)]; exact hc 3 _ rfl⟩
structure S183 where
 f0 : Int
 f1 : Int
 f2 : Int
structure S57 where
 f0 : Int
 f1 : Int
 f2 : Int
 f3 : Int
 f4 : Int
 f5 : Int
 f6 : Int
 f7 : Int
 f8 : Int
 f9 : Int
structure S44 where
 f0 : ByteArray
 f1 : Int
 f2 : Bool
 f3 : Int
 f4 : ByteArray
 f5 : (List S61)
structure S166 where
 f0 : Int
 f1 : Int
 f2 : Int
def z166 : S166 := ⟨(0 : Int), (0 : Int), (0 : Int)⟩
def k166 : Kd S166 := Kd.iso (Kd.pair (Kd.int .i64) (Kd.pair (Kd.int .i64) (Kd.int .u32))) (fun x : S166 => (x.f0, x.f1, x.f2))
theorem k166_open {w : World} {x : S166} {cs : List Value} (h : k166.K w x cs) : cs = [.int .i64 x.f0, .int .i64 x.f1, .int .u32 x.f2] := by
 obtain ⟨_, _, rfl, rfl, ⟨_, _, rfl, rfl, rfl⟩⟩ := h
 exact rfl
theorem k166_mk (w : World) (x : S166)  : k166.K w x [.int .i64 x.f0, .int .i64 x.f1, .int .u32 x.f2] := ⟨[.int .i64 x.f0], [.int .i64 x.f1, .int .u32 x.f2], rfl, rfl, ⟨[.int .i64 x.f1], [.int .u32 x.f2], rfl, rfl, rfl⟩⟩
def rd_T166 (xs : List S166) (i : Int) : S166 := xs.getD i.toNat z166
theorem at_T166 {w : World} {A : Option Addr} {n : Nat} {xs : List S166} (h : Kd.C k166 w A n xs) (i : Int) (h0 : 0 ≤ i) (h1 : i < n) : ∃ ad , A = some ad ∧ w.cell? (ad.add (i.toNat * 3)) = some (.int .i64 (rd_T166 xs i).f0) ∧ w.cell? ⟨(ad.add (i.toNat * 3)).block, (ad.add (i.toNat * 3)).off + 1, none⟩ = some (.int .i64 (rd_T166 xs i).f1) ∧ w.cell? ⟨(ad.add (i.toNat * 3)).block, (ad.add (i.toNat * 3)).off + 2, none⟩ = some (.int .u32 (rd_T166 xs i).f2) := by
 obtain ⟨ad, c, e, _, hK, hc0⟩ := Kd.C_get h z166 i h0 h1
 have hc : ∀ j u, c[j]? = some u → w.cell? (ad.add (i.toNat * 3 + j)) = some u := hc0
 obtain rfl := k166_open hK
 exact ⟨ad, e, hc 0 _ rfl, by rw [← add_field _ _ 1 (by omega)]; exact hc 1 _ rfl, by rw [← add_field _ _ 2 (by omega)]; exact hc 2 _ rfl⟩
end Go.Proofs.YtiadfdehplkojaaGreatDoor.P
