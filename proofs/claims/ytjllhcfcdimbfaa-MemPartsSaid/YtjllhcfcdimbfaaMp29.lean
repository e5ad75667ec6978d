/- A machine's memory, as the heap holds it ('MemS'): the regions' row, and each region's bytes; what 'find', 'has' answer. -/
import Derived.Test.YtjllhcfcdimbfaaMp28
import Derived.Shelf.SlSorted.Search
import Derived.Shelf.GgSortFunc.RowK
namespace Go.Proofs.Ytjllhcfcdimbfaa.P
open Go Go.RowKit Go.Sort Go.Lib Go.Shelf Go.Proofs.YtjllhcfcdimbfaaW.PrintWords Go.Proofs.YtjllhcfcdimbfaaW.PrintLast Go.Proofs.YtjllhcfcdimbfaaW.PrintMore
set_option linter.unusedVariables false
set_option linter.unusedSimpArgs false
/-- A region as the row holds it: its place, its kind, the text that it was given, its bytes' block, its bytes. -/
structure Pt where
  at_ : Int
  kind : Int
  data : ByteArray
  bv : Value
deriving Inhabited
def encPt (p : Pt) : List Value := [.int .u64 p.at_, .int .i64 p.kind, .string p.data, p.bv]
/-- .. with its bytes. -/
structure Rg where
  at_ : Int
  kind : Int
  blk : Nat
  bytes : List Nat
deriving Inhabited
def Rg.pt (r : Rg) : Pt := ⟨r.at_, r.kind, ⟨#[]⟩, .slice (some ⟨r.blk, 0, none⟩) r.bytes.length r.bytes.length⟩
structure MemS (B : Nat) (w : World) (pm bp : Nat) (d : Array Rg) : Prop where
  head : w.cell? ⟨pm, 0, none⟩ = some (.slice (some ⟨bp, 0, none⟩) d.size d.size)
  row : HoldsK encPt 4 w bp 0 (d.map Rg.pt)
  bytes : ∀ i, i < d.size → ∀ j, j < d[i]!.bytes.length → w.cell? ⟨d[i]!.blk, j, none⟩ = some (.int .u8 (d[i]!.bytes.getD j 0 : Nat)) ∧ w.frozen? ⟨d[i]!.blk, j, none⟩ = false
  lt : pm < w.heap.size ∧ bp < w.heap.size ∧ ∀ i, i < d.size → B ≤ d[i]!.blk ∧ d[i]!.blk < w.heap.size
  apart : ∀ i, i < d.size → d[i]!.blk ≠ pm ∧ d[i]!.blk ≠ bp ∧ ∀ j, j < d.size → d[j]!.blk = d[i]!.blk → j = i
theorem MemS.below {B : Nat} {w w1 : World} {pm bp : Nat} {d : Array Rg} (h : MemS B w pm bp d) (hb : Below w.heap.size w w1) : MemS B w1 pm bp d := by
  have hs := hb.size
  obtain ⟨l1, l2, l3⟩ := h.lt
  refine ⟨(hb.cell (p := ⟨pm, 0, none⟩) l1).trans h.head, fun t ht => ?_, fun i hi j hj => ?_, ⟨by omega, by omega, fun i hi => ⟨(l3 i hi).1, by have := (l3 i hi).2; omega⟩⟩, h.apart⟩
  · have := h.row t ht
    exact ⟨(hb.cell (p := ⟨bp, 0 + t, none⟩) l2).trans this.1, (hb.frozen (p := ⟨bp, 0 + t, none⟩) l2).trans this.2⟩
  · have := h.bytes i hi j hj
    exact ⟨(hb.cell (p := ⟨d[i]!.blk, j, none⟩) (l3 i hi).2).trans this.1, (hb.frozen (p := ⟨d[i]!.blk, j, none⟩) (l3 i hi).2).trans this.2⟩
theorem map_pt (d : Array Rg) (i : Nat) (hi : i < d.size) : (d.map Rg.pt)[i]! = d[i]!.pt := by
  rw [getElem!_pos _ i (by simpa using hi), getElem!_pos d i hi, Array.getElem_map]
/-- A region's four cells. -/
theorem MemS.cells {B : Nat} {w : World} {pm bp : Nat} {d : Array Rg} (h : MemS B w pm bp d) (i : Nat) (hi : i < d.size) :
    w.cell? ⟨bp, i * 4, none⟩ = some (.int .u64 d[i]!.at_) ∧ w.cell? ⟨bp, i * 4 + 1, none⟩ = some (.int .i64 d[i]!.kind) ∧
    w.cell? ⟨bp, i * 4 + 3, none⟩ = some (.slice (some ⟨d[i]!.blk, 0, none⟩) d[i]!.bytes.length d[i]!.bytes.length) := by
  have hs : (d.map Rg.pt).size = d.size := Array.size_map ..
  have k := fun c (hc : c < 4) => (h.row.cell (i := i) (c := c) (by omega) hc).1
  rw [map_pt d i hi] at k
  have k0 := k 0 (by decide); have k1 := k 1 (by decide); have k3 := k 3 (by decide)
  simp only [Nat.zero_add, Nat.add_zero] at k0 k1 k3
  exact ⟨k0, k1, k3⟩
set_option maxHeartbeats 1000000 in
theorem find1_any (w : World) (b0 b1 pm bp n : Nat) (at_ z : Int) (i : Nat) (h0 : w.cell? ⟨b0, 0, none⟩ = some (.pointer (some ⟨pm, 0, none⟩))) (h1 : w.cell? ⟨b1, 0, none⟩ = some (.int .u64 at_))
    (h2 : w.cell? ⟨pm, 0, none⟩ = some (.slice (some ⟨bp, 0, none⟩) n n)) (hi : i < n) (hn : n ≤ 100000) (h3 : w.cell? ⟨bp, i * 4, none⟩ = some (.int .u64 z)) :
    Calls Try.prog 25 #[.int .i64 i, .pointer (some ⟨b0, 0, none⟩), .pointer (some ⟨b1, 0, none⟩)] w fun e w' => e = .returned (.bool (decide (at_ < z))) ∧ ∃ q, w' = w.drewN q := by
  go_enter Try.func25, Try.ntmps25
  go_wp2
  go_quiet (fail)
  go_wp2
  go_ret
  exact ⟨rfl, _, rfl⟩
end Go.Proofs.Ytjllhcfcdimbfaa.P
