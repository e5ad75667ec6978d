/- What the package-level tables of the program hold ('Glob'), told as lists of numbers, and how it stays through what a call does: draws, new blocks, writes to blocks of the call's own. -/
import Derived.Test.YtpcdebakiccecaaGreatDoorProg
import Derived.Below
import Derived.Deep.Draws
import Derived.WalkKit
namespace Go.Proofs.YtpcdebakiccecaaGreatDoor.P
open Go Go.RowKit
def shapesL : List Int := [0, 1, 1, 1, 2, 2, 2, 2, 3, 3, 3, 3, 4, 4, 4, 4, 5, 5, 5, 5, 6, 6, 7, 7, 8, 8, 9, 10, 10, 11, 11, 12, 9, 9, 13, 13, 13, 14, 15, 16]
def basesL : List Int := [0, 3531603968, 2457862144, 4068474880, 2432696320, 3506438144, 2969567232, 4043309056, 2449473536, 2986344448, 3523215360, 4060086272, 2332033024, 3405774848, 2868903936, 3942645760, 2315255808, 2852126720, 3388997632, 3925868544, 2600468480, 2600501248, 4181721088, 4177526784, 960495616, 956301312, 1476395008, 268435456, 2415919104, 335544320, 2483027968, 1409286144, 3019898880, 3036676096, 3592355840, 3594452992, 3596550144, 3556769793, 3573751839, 2592079872]
def fieldsL : List Int := [0, 8388607, 8388607, 8388607, 14680063, 14680063, 2064383, 4194303, 4194303, 16777215, 1627389951, 67108863, 16777199, 992, 2097120, 0, 2094079]
def fittingL : List Int := [0, 0, 0, 0, 29, 30, 31, 33, 26, 26, 27, 27, 28, 28, 4, 4, 22, 23, 24, 25]
/-- The four tables, cell by cell; their blocks are old ones. -/
structure Glob (w : World) : Prop where
 shapes : ∀ i, i < 40 → w.cell? ⟨2, i, none⟩ = some (.int .i64 (shapesL.getD i 0))
 bases : ∀ i, i < 40 → w.cell? ⟨0, i, none⟩ = some (.int .u32 (basesL.getD i 0))
 fields : ∀ i, i < 17 → w.cell? ⟨4, i, none⟩ = some (.int .u32 (fieldsL.getD i 0))
 fitting : ∀ i, i < 20 → w.cell? ⟨1, i, none⟩ = some (.int .i64 (fittingL.getD i 0))
 size : 2 < w.heap.size ∧ 0 < w.heap.size ∧ 4 < w.heap.size ∧ 1 < w.heap.size
theorem Glob.below {w w1 : World} (h : Glob w) (hb : Below w.heap.size w w1) : Glob w1 := by
 obtain ⟨h1, h2, h3, h4, z1, z2, z3, z4⟩ := h
 have hs := hb.size
 exact ⟨fun i hi => (hb.cell (p := ⟨_, i, none⟩) z1).trans (h1 i hi), fun i hi => (hb.cell (p := ⟨_, i, none⟩) z2).trans (h2 i hi),
  fun i hi => (hb.cell (p := ⟨_, i, none⟩) z3).trans (h3 i hi), fun i hi => (hb.cell (p := ⟨_, i, none⟩) z4).trans (h4 i hi),
  by omega, by omega, by omega, by omega⟩
theorem Glob.drewN {w : World} {n : Nat} (h : Glob w) : Glob (w.drewN n) := ⟨h.shapes, h.bases, h.fields, h.fitting, h.size⟩
theorem Glob.drew {w : World} (h : Glob w) : Glob w.drew := ⟨h.shapes, h.bases, h.fields, h.fitting, h.size⟩
end Go.Proofs.YtpcdebakiccecaaGreatDoor.P
