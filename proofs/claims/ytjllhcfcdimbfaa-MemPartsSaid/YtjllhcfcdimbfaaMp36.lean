/- What 'New' lays: the regions' row, empty, filled, and each region with bytes of its own. -/
import Derived.Test.YtjllhcfcdimbfaaMp35
namespace Go.Proofs.Ytjllhcfcdimbfaa.P
open Go Go.RowKit Go.Lib Go.Shelf Go.Proofs.YtjllhcfcdimbfaaW.PrintWords Go.Proofs.YtjllhcfcdimbfaaW.PrintLast Go.Proofs.YtjllhcfcdimbfaaW.PrintMore
set_option linter.unusedVariables false
set_option linter.unusedSimpArgs false
def zeroP : Array Value := #[.int .u64 0, .int .i64 0, .string ⟨#[]⟩, .slice none 0 0]
theorem infoP : (Try.prog.info? 47).map (fun i => (i.zero.map Value.cells, i.size, i.bytes)) = some (some zeroP, 4, 56) := by kernel_rfl
theorem make_parts (n : Nat) (hn : n ≤ 100000) (W : World) : (Instr.makeSlice 44 (.int .i64 (n : Int)) (.int .i64 (n : Int))).run Try.prog W = .ok (.slice (some ⟨W.heap.size, 0, none⟩) n n) (W.alloc (.cells (madeCells zeroP (n * 4)) 47)) := by
  obtain ⟨i, hi, hzz⟩ := Option.map_eq_some_iff.1 infoP
  simp only [Prod.mk.injEq] at hzz
  obtain ⟨hz, hs, hb⟩ := hzz
  obtain ⟨z, hz1, hz2⟩ := Option.map_eq_some_iff.1 hz
  have := run_makeSlice (P := Try.prog) W 44 47 i z Try.underlying44 hi hz1 .i64 .i64 n n (by omega) (by omega) (by rw [hs]; simp; omega) (by rw [hb]; omega) (by omega)
  rw [hs, hz2] at this
  simpa using this
/-- Filled up to i. -/
def fill (l : List S37) (i : Nat) : Array S37 := ((List.range l.length).map fun j => if j < i then l.getD j z37 else z37).toArray
theorem fill_size (l : List S37) (i : Nat) : (fill l i).size = l.length := by simp [fill]
theorem fill_get (l : List S37) (i j : Nat) (hj : j < l.length) : (fill l i)[j]! = if j < i then l.getD j z37 else z37 := by
  rw [getElem!_pos _ j (by rw [fill_size]; exact hj)]
  simp [fill]
theorem fill_all (l : List S37) : (fill l l.length).toList = l := by
  refine List.ext_getElem (by simp [fill]) fun j h1 h2 => ?_
  simp [fill, h2]
theorem holds_zero (l : List S37) (W : World) : Sort.HoldsK encR 4 (W.alloc (.cells (madeCells zeroP (l.length * 4)) 47)) W.heap.size 0 (fill l 0) := by
  intro t ht
  rw [Sort.size_flatK, fill_size] at ht
  rw [Sort.get_flatK _ _ _ _ (by rw [fill_size]; exact ht), fill_get l 0 _ (by omega), if_neg (by omega)]
  have hb := blk_new W (.cells (madeCells zeroP (l.length * 4)) 47)
  refine ⟨?_, ?_⟩
  · rw [Nat.zero_add, blk_cell hb t]
    have hm : t % 4 = 0 ∨ t % 4 = 1 ∨ t % 4 = 2 ∨ t % 4 = 3 := by omega
    simp only [madeCells, Array.getElem?_map, Array.getElem?_range, if_pos ht, Option.map_some, zeroP, encR, z37]
    rcases hm with h | h | h | h <;> simp [h, ht]
  · exact blk_frozen hb _
/-- Another block's cells don't turn by a store. -/
theorem far_set (w : World) (b o : Nat) (v : Value) (b' o' : Nat) (h : b' ≠ b) : (w.setCell ⟨b, o, none⟩ v).cell? ⟨b', o', none⟩ = w.cell? ⟨b', o', none⟩ := by
  have e := Below.heap_setCell w ⟨b, o, none⟩ v b' h
  unfold World.cell?
  rw [e]
theorem near_set (w : World) (b o : Nat) (v : Value) (o' : Nat) (h : (w.cell? ⟨b, o', none⟩).isSome = true) : (w.setCell ⟨b, o, none⟩ v).cell? ⟨b, o', none⟩ = if o' = o then some v else w.cell? ⟨b, o', none⟩ := by
  split
  · rename_i e
    subst e
    exact World.cell?_setCell_same' _ _ _ h
  · rename_i e
    exact World.cell?_setCell_other _ _ _ _ (by intro x; injection x with _ x; exact e x.symm)
/-- Three cells of a region stored. -/
theorem holds_fill (l : List S37) (i : Nat) (hi : i < l.length) (w : World) (bp : Nat) (h : Sort.HoldsK encR 4 w bp 0 (fill l i)) (r : S37) (hr : l[i] = r) :
    Sort.HoldsK encR 4 (((w.setCell ⟨bp, i * 4, none⟩ (.int .u64 r.f0)).setCell ⟨bp, i * 4 + 1, none⟩ (.int .i64 r.f1)).setCell ⟨bp, i * 4 + 2, none⟩ (.string r.f2)) bp 0 (fill l (i + 1)) := by
  intro t ht
  rw [Sort.size_flatK, fill_size] at ht
  have h0 := h t (by rw [Sort.size_flatK, fill_size]; exact ht)
  rw [Sort.get_flatK _ _ _ _ (by rw [fill_size]; exact ht), fill_get l _ _ (by omega), Nat.zero_add] at h0 ⊢
  refine ⟨?_, by rw [World.frozen?_setCell, World.frozen?_setCell, World.frozen?_setCell]; exact h0.2⟩
  have s0 : (w.cell? ⟨bp, t, none⟩).isSome = true := by rw [h0.1]; rfl
  have s1 : ((w.setCell ⟨bp, i * 4, none⟩ (.int .u64 r.f0)).cell? ⟨bp, t, none⟩).isSome = true := by
    rw [near_set _ _ _ _ _ s0]
    split
    · rfl
    · exact s0
  have s2 : (((w.setCell ⟨bp, i * 4, none⟩ (.int .u64 r.f0)).setCell ⟨bp, i * 4 + 1, none⟩ (.int .i64 r.f1)).cell? ⟨bp, t, none⟩).isSome = true := by
    rw [near_set _ _ _ _ _ s1]
    split
    · rfl
    · exact s1
  rw [near_set _ _ _ _ _ s2, near_set _ _ _ _ _ s1, near_set _ _ _ _ _ s0, h0.1]
  have hg : l.getD i z37 = r := by rw [← hr]; simp [hi]
  by_cases e : t / 4 = i
  · rw [if_pos (show t / 4 < i + 1 by omega), if_neg (show ¬ t / 4 < i by omega), e, hg]
    have hm : t % 4 = 0 ∨ t % 4 = 1 ∨ t % 4 = 2 ∨ t % 4 = 3 := by omega
    rcases hm with h | h | h | h
    · rw [if_neg (by omega), if_neg (by omega), if_pos (by omega), h]; rfl
    · rw [if_neg (by omega), if_pos (by omega), h]; rfl
    · rw [if_pos (by omega), h]; rfl
    · rw [if_neg (by omega), if_neg (by omega), if_neg (by omega), h]; rfl
  · rw [if_neg (by omega), if_neg (by omega), if_neg (by omega)]
    by_cases e2 : t / 4 < i
    · rw [if_pos e2, if_pos (show t / 4 < i + 1 by omega)]
    · rw [if_neg e2, if_neg (show ¬ t / 4 < i + 1 by omega)]
theorem holds_alloc {w : World} {bp : Nat} {D : Array S37} (h : Sort.HoldsK encR 4 w bp 0 D) (hb : bp < w.heap.size) {w1 : World} (hw : ∀ k, k < w.heap.size → w1.heap[k]? = w.heap[k]?) : Sort.HoldsK encR 4 w1 bp 0 D := by
  intro t ht
  have := h t ht
  unfold World.cell? World.frozen? at this ⊢
  rw [show w1.heap[(⟨bp, 0 + t, none⟩ : Addr).block]? = w.heap[(⟨bp, 0 + t, none⟩ : Addr).block]? from hw bp hb]
  exact this
theorem fill_cells {l : List S37} {i : Nat} {w : World} {bp : Nat} (h : Sort.HoldsK encR 4 w bp 0 (fill l i)) (j : Nat) (hj : j < l.length) : ∃ v0 v1 v2, w.cell? ⟨bp, j * 4, none⟩ = some v0 ∧ w.cell? ⟨bp, j * 4 + 1, none⟩ = some v1 ∧ w.cell? ⟨bp, j * 4 + 2, none⟩ = some v2 ∧ w.frozen? ⟨bp, j * 4, none⟩ = false ∧ w.frozen? ⟨bp, j * 4 + 1, none⟩ = false ∧ w.frozen? ⟨bp, j * 4 + 2, none⟩ = false := by
  have k := fun c (hc : c < 4) => h.cell (i := j) (c := c) (by rw [fill_size]; exact hj) hc
  have k0 := k 0 (by decide); have k1 := k 1 (by decide); have k2 := k 2 (by decide)
  simp only [Nat.zero_add, Nat.add_zero] at k0 k1 k2
  exact ⟨_, _, _, k0.1, k1.1, k2.1, k0.2, k1.2, k2.2⟩
theorem infoB : (Try.prog.info? 5).map (fun i => (i.zero, i.size, i.bytes)) = some (some (.int .u8 0), 1, 1) := by kernel_rfl
theorem make_bytes (n : Nat) (hn : n ≤ 65536) (W : World) : (Instr.makeSlice 45 (.int .i64 (n : Int)) (.int .i64 (n : Int))).run Try.prog W = .ok (.slice (some ⟨W.heap.size, 0, none⟩) n n) (W.alloc (.cells (madeCells #[.int .u8 0] n) 5)) := by
  obtain ⟨i, hi, hzz⟩ := Option.map_eq_some_iff.1 infoB
  simp only [Prod.mk.injEq] at hzz
  obtain ⟨hz, hs, hb⟩ := hzz
  exact run_make_row (P := Try.prog) 45 5 i (.int .u8 0) Try.underlying45 hi hz hs rfl .i64 .i64 n (by rw [hb]; omega) (by omega) W
def bytesN (s : ByteArray) : List Nat := s.data.toList.map UInt8.toNat
theorem bytesN_length (s : ByteArray) : (bytesN s).length = s.size := by
  unfold bytesN
  rw [List.length_map, ← Lib.size_eq]
def halfPt (D : Array S37) (bl : Nat → Nat) (i j : Nat) : Pt := if j < i then ⟨D[j]!.f0, D[j]!.f1, ⟨#[]⟩, .slice (some ⟨bl j, 0, none⟩) D[j]!.f2.size D[j]!.f2.size⟩ else ⟨D[j]!.f0, D[j]!.f1, D[j]!.f2, .slice none 0 0⟩
def half (D : Array S37) (bl : Nat → Nat) (i : Nat) : Array Pt := ((List.range D.size).map (halfPt D bl i)).toArray
theorem half_size (D : Array S37) (bl : Nat → Nat) (i : Nat) : (half D bl i).size = D.size := by simp [half]
theorem half_get (D : Array S37) (bl : Nat → Nat) (i j : Nat) (hj : j < D.size) : (half D bl i)[j]! = halfPt D bl i j := by
  rw [getElem!_pos _ j (by rw [half_size]; exact hj)]
  simp [half]
structure Half (B : Nat) (w : World) (pb bp : Nat) (D : Array S37) (bl : Nat → Nat) (i : Nat) : Prop where
  box : w.cell? ⟨pb, 0, none⟩ = some (.slice (some ⟨bp, 0, none⟩) D.size D.size)
  row : Sort.HoldsK encPt 4 w bp 0 (half D bl i)
  bytes : ∀ j, j < i → ∀ t, t < D[j]!.f2.size → w.cell? ⟨bl j, t, none⟩ = some (.int .u8 ((bytesN D[j]!.f2).getD t 0 : Nat)) ∧ w.frozen? ⟨bl j, t, none⟩ = false
  lt : pb < w.heap.size ∧ bp < w.heap.size ∧ pb ≠ bp ∧ ∀ j, j < i → B ≤ bl j ∧ bl j < w.heap.size
  apart : ∀ j, j < i → bl j ≠ pb ∧ bl j ≠ bp ∧ ∀ q, q < i → bl q = bl j → q = j
theorem half_start {B : Nat} {w : World} {pb bp : Nat} {D : Array S37} (h1 : w.cell? ⟨pb, 0, none⟩ = some (.slice (some ⟨bp, 0, none⟩) D.size D.size)) (h2 : Sort.HoldsK encR 4 w bp 0 D) (l1 : pb < w.heap.size) (l2 : bp < w.heap.size) (ne : pb ≠ bp) : Half B w pb bp D (fun _ => 0) 0 := by
  refine ⟨h1, fun t ht => ?_, fun j h => absurd h (Nat.not_lt_zero _), ⟨l1, l2, ne, fun j h => absurd h (Nat.not_lt_zero _)⟩, fun j h => absurd h (Nat.not_lt_zero _)⟩
  rw [Sort.size_flatK, half_size] at ht
  have := h2 t (by rw [Sort.size_flatK]; exact ht)
  rw [Sort.get_flatK _ _ _ _ ht] at this
  rw [Sort.get_flatK _ _ _ _ (by rw [half_size]; exact ht), half_get _ _ _ _ (by omega)]
  unfold halfPt
  rw [if_neg (Nat.not_lt_zero _)]
  exact this
/-- The cells of region i, not yet turned. -/
theorem Half.cells {B : Nat} {w : World} {pb bp : Nat} {D : Array S37} {bl : Nat → Nat} {i : Nat} (h : Half B w pb bp D bl i) (hi : i < D.size) :
    w.cell? ⟨bp, i * 4 + 2, none⟩ = some (.string D[i]!.f2) ∧ w.cell? ⟨bp, i * 4 + 3, none⟩ = some (.slice none 0 0) ∧ w.frozen? ⟨bp, i * 4 + 2, none⟩ = false ∧ w.frozen? ⟨bp, i * 4 + 3, none⟩ = false := by
  have k := fun c (hc : c < 4) => h.row.cell (i := i) (c := c) (by rw [half_size]; exact hi) hc
  have k2 := k 2 (by decide); have k3 := k 3 (by decide)
  rw [half_get _ _ _ _ hi] at k2 k3
  unfold halfPt at k2 k3
  rw [if_neg (Nat.lt_irrefl _)] at k2 k3
  simp only [Nat.zero_add] at k2 k3
  exact ⟨k2.1, k3.1, k2.2, k3.2⟩
/-- The world behind a round. -/
def roundW (w : World) (bp i : Nat) (s : ByteArray) (n : Nat) : World :=
  (((((w.alloc (.cells (madeCells #[.int .u8 0] s.size) 5)).setCell ⟨bp, i * 4 + 3, none⟩ (.slice (some ⟨w.heap.size, 0, none⟩) s.size s.size)).drewN n).setCells w.heap.size 0 (s.data.toList.map fun x => Value.int .u8 (x.toNat : Int))).setCell ⟨bp, i * 4 + 2, none⟩ (.string ⟨#[]⟩))
theorem cells_far (b : Nat) (vs : List Value) (w : World) (b' o : Nat) (h : b' ≠ b) : (w.setCells b 0 vs).cell? ⟨b', o, none⟩ = w.cell? ⟨b', o, none⟩ :=
  World.cell?_setCells_out b vs 0 w _ (fun e => absurd e h)
theorem alloc_far (w : World) (o : Obj) (b off : Nat) (h : b < w.heap.size) : (w.alloc o).cell? ⟨b, off, none⟩ = w.cell? ⟨b, off, none⟩ ∧ (w.alloc o).frozen? ⟨b, off, none⟩ = w.frozen? ⟨b, off, none⟩ := by
  unfold World.cell? World.frozen? World.alloc
  rw [Array.getElem?_push, if_neg (show ¬ (⟨b, off, none⟩ : Addr).block = w.heap.size from Nat.ne_of_lt h)]
  exact ⟨rfl, rfl⟩
theorem roundW_far (w : World) (bp i : Nat) (s : ByteArray) (n b o : Nat) (hb : b < w.heap.size) (h : b ≠ bp) : (roundW w bp i s n).cell? ⟨b, o, none⟩ = w.cell? ⟨b, o, none⟩ := by
  unfold roundW
  rw [far_set _ _ _ _ _ _ h, cells_far _ _ _ _ _ (Nat.ne_of_lt hb)]
  show (((w.alloc (.cells (madeCells #[.int .u8 0] s.size) 5)).setCell ⟨bp, i * 4 + 3, none⟩ (.slice (some ⟨w.heap.size, 0, none⟩) s.size s.size))).cell? ⟨b, o, none⟩ = _
  rw [far_set _ _ _ _ _ _ h, (alloc_far _ _ _ _ hb).1]
theorem roundW_frozen (w : World) (bp i : Nat) (s : ByteArray) (n b o : Nat) (hb : b < w.heap.size) : (roundW w bp i s n).frozen? ⟨b, o, none⟩ = w.frozen? ⟨b, o, none⟩ := by
  unfold roundW
  rw [World.frozen?_setCell, World.frozen?_setCells]
  show (((w.alloc (.cells (madeCells #[.int .u8 0] s.size) 5)).setCell ⟨bp, i * 4 + 3, none⟩ (.slice (some ⟨w.heap.size, 0, none⟩) s.size s.size))).frozen? ⟨b, o, none⟩ = _
  rw [World.frozen?_setCell, (alloc_far _ _ _ _ hb).2]
theorem roundW_size (w : World) (bp i : Nat) (s : ByteArray) (n : Nat) : (roundW w bp i s n).heap.size = w.heap.size + 1 := by
  have h : ∀ (vs : List Value) (o : Nat) (W : World), (W.setCells w.heap.size o vs).heap.size = W.heap.size := by
    intro vs
    induction vs with
    | nil => intro o W; rfl
    | cons v r ih => intro o W; rw [World.setCells, ih]; simp
  unfold roundW
  have h1 : ∀ (W : World) (a : Addr) (v : Value), (W.setCell a v).heap.size = W.heap.size := fun W a v => by simp
  rw [h1, h]
  show (((w.alloc (.cells (madeCells #[.int .u8 0] s.size) 5)).setCell ⟨bp, i * 4 + 3, none⟩ (.slice (some ⟨w.heap.size, 0, none⟩) s.size s.size))).heap.size = _
  rw [h1]
  simp
theorem roundW_new (w : World) (bp i : Nat) (s : ByteArray) (n t : Nat) (hbp : bp < w.heap.size) (ht : t < s.size) : (roundW w bp i s n).cell? ⟨w.heap.size, t, none⟩ = some (.int .u8 ((bytesN s).getD t 0 : Nat)) ∧ (roundW w bp i s n).frozen? ⟨w.heap.size, t, none⟩ = false := by
  have hb := blk_new w (.cells (madeCells #[.int .u8 0] s.size) 5)
  have hl : (s.data.toList.map fun x => Value.int .u8 (x.toNat : Int)).length = s.size := by rw [List.length_map, ← Lib.size_eq]
  refine ⟨?_, ?_⟩
  · unfold roundW
    rw [far_set _ _ _ _ _ _ (Nat.ne_of_gt hbp)]
    have := World.cell?_setCells_in w.heap.size (s.data.toList.map fun x => Value.int .u8 (x.toNat : Int)) 0 (((w.alloc (.cells (madeCells #[.int .u8 0] s.size) 5)).setCell ⟨bp, i * 4 + 3, none⟩ (.slice (some ⟨w.heap.size, 0, none⟩) s.size s.size)).drewN n) (fun j hj => by
      show ((((w.alloc (.cells (madeCells #[.int .u8 0] s.size) 5)).setCell ⟨bp, i * 4 + 3, none⟩ (.slice (some ⟨w.heap.size, 0, none⟩) s.size s.size))).cell? ⟨w.heap.size, 0 + j, none⟩).isSome = true
      rw [far_set _ _ _ _ _ _ (Nat.ne_of_gt hbp), blk_cell hb]
      rw [hl] at hj
      simp [madeCells, hj]) t (by rw [hl]; exact ht)
    rw [Nat.zero_add] at this
    rw [this]
    simp [bytesN, ht]
  · unfold roundW
    rw [World.frozen?_setCell, World.frozen?_setCells]
    show (((w.alloc (.cells (madeCells #[.int .u8 0] s.size) 5)).setCell ⟨bp, i * 4 + 3, none⟩ (.slice (some ⟨w.heap.size, 0, none⟩) s.size s.size))).frozen? ⟨w.heap.size, t, none⟩ = _
    rw [World.frozen?_setCell]
    exact blk_frozen hb _
theorem roundW_row (w : World) (bp i : Nat) (s : ByteArray) (n t : Nat) (hbp : bp < w.heap.size) (ht : (w.cell? ⟨bp, t, none⟩).isSome = true) : (roundW w bp i s n).cell? ⟨bp, t, none⟩ = if t = i * 4 + 2 then some (.string ⟨#[]⟩) else if t = i * 4 + 3 then some (.slice (some ⟨w.heap.size, 0, none⟩) s.size s.size) else w.cell? ⟨bp, t, none⟩ := by
  have e1 : (((w.alloc (.cells (madeCells #[.int .u8 0] s.size) 5)).setCell ⟨bp, i * 4 + 3, none⟩ (.slice (some ⟨w.heap.size, 0, none⟩) s.size s.size))).cell? ⟨bp, t, none⟩ = if t = i * 4 + 3 then some (.slice (some ⟨w.heap.size, 0, none⟩) s.size s.size) else w.cell? ⟨bp, t, none⟩ := by
    rw [near_set _ _ _ _ _ (by rw [(alloc_far _ _ _ _ hbp).1]; exact ht), (alloc_far _ _ _ _ hbp).1]
  have e2 : ((((w.alloc (.cells (madeCells #[.int .u8 0] s.size) 5)).setCell ⟨bp, i * 4 + 3, none⟩ (.slice (some ⟨w.heap.size, 0, none⟩) s.size s.size)).drewN n).setCells w.heap.size 0 (s.data.toList.map fun x => Value.int .u8 (x.toNat : Int))).cell? ⟨bp, t, none⟩ = if t = i * 4 + 3 then some (.slice (some ⟨w.heap.size, 0, none⟩) s.size s.size) else w.cell? ⟨bp, t, none⟩ := by
    rw [cells_far _ _ _ _ _ (Nat.ne_of_lt hbp)]
    exact e1
  have e3 : (((((w.alloc (.cells (madeCells #[.int .u8 0] s.size) 5)).setCell ⟨bp, i * 4 + 3, none⟩ (.slice (some ⟨w.heap.size, 0, none⟩) s.size s.size)).drewN n).setCells w.heap.size 0 (s.data.toList.map fun x => Value.int .u8 (x.toNat : Int))).cell? ⟨bp, t, none⟩).isSome = true := by
    rw [e2]
    split
    · rfl
    · exact ht
  unfold roundW
  rw [near_set _ _ _ _ _ e3, e2]
theorem roundW_below {B : Nat} {w0 w : World} (h : RowKit.Below B w0 w) (bp i : Nat) (s : ByteArray) (n : Nat) (hb : B ≤ bp) (hw : B ≤ w.heap.size) : RowKit.Below B w0 (roundW w bp i s n) := by
  have hs : ∀ (vs : List Value) (o : Nat) (W : World), RowKit.Below B w0 W → RowKit.Below B w0 (W.setCells w.heap.size o vs) := by
    intro vs
    induction vs with
    | nil => intro o W h; exact h
    | cons v r ih => intro o W h; exact ih _ _ (h.setCell (p := ⟨w.heap.size, o, none⟩) hw v)
  unfold roundW
  exact (hs _ _ _ (pw_below_drewN ((h.alloc hw _).setCell (p := ⟨bp, i * 4 + 3, none⟩) hb _) n)).setCell (p := ⟨bp, i * 4 + 2, none⟩) hb _
theorem half_round {B : Nat} {w : World} {pb bp : Nat} {D : Array S37} {bl : Nat → Nat} {i : Nat} (h : Half B w pb bp D bl i) (hi : i < D.size) (hB : B ≤ w.heap.size) (n : Nat) :
    Half B (roundW w bp i D[i]!.f2 n) pb bp D (fun j => if j = i then w.heap.size else bl j) (i + 1) := by
  obtain ⟨l1, l2, l3, l4⟩ := h.lt
  refine ⟨?_, fun t ht => ?_, fun j hj t ht => ?_, ⟨by rw [roundW_size]; omega, by rw [roundW_size]; omega, l3, fun j hj => ?_⟩, fun j hj => ?_⟩
  · rw [roundW_far _ _ _ _ _ _ _ l1 l3]
    exact h.box
  · rw [Sort.size_flatK, half_size] at ht
    have h0 := h.row t (by rw [Sort.size_flatK, half_size]; exact ht)
    rw [Sort.get_flatK _ _ _ _ (by rw [half_size]; exact ht), half_get _ _ _ _ (by omega), Nat.zero_add] at h0 ⊢
    refine ⟨?_, by rw [roundW_frozen _ _ _ _ _ _ _ l2]; exact h0.2⟩
    rw [roundW_row _ _ _ _ _ _ l2 (by rw [h0.1]; rfl), h0.1]
    unfold halfPt
    dsimp only
    by_cases e : t / 4 = i
    · rw [if_pos (show t / 4 < i + 1 by omega), if_neg (show ¬ t / 4 < i by omega), if_pos e, e]
      have hm : t % 4 = 0 ∨ t % 4 = 1 ∨ t % 4 = 2 ∨ t % 4 = 3 := by omega
      rcases hm with h | h | h | h
      · rw [if_neg (by omega), if_neg (by omega), h]; rfl
      · rw [if_neg (by omega), if_neg (by omega), h]; rfl
      · rw [if_pos (by omega), h]; rfl
      · rw [if_neg (by omega), if_pos (by omega), h]; rfl
    · rw [if_neg (by omega), if_neg (by omega), if_neg e]
      by_cases e2 : t / 4 < i
      · rw [if_pos e2, if_pos (show t / 4 < i + 1 by omega)]
      · rw [if_neg e2, if_neg (show ¬ t / 4 < i + 1 by omega)]
  · by_cases e : j = i
    · subst e
      rw [if_pos rfl]
      exact roundW_new w bp j _ n t l2 ht
    · rw [if_neg e]
      have hb := h.bytes j (by omega) t ht
      have hl := l4 j (by omega)
      rw [roundW_far _ _ _ _ _ _ _ hl.2 (h.apart j (by omega)).2.1, roundW_frozen _ _ _ _ _ _ _ hl.2]
      exact hb
  · rw [roundW_size]
    split
    · omega
    · have := l4 j (by omega)
      omega
  · by_cases e : j = i
    · subst e
      rw [if_pos rfl]
      refine ⟨by omega, by omega, fun q hq e' => ?_⟩
      split at e'
      · assumption
      · have := l4 q (by omega)
        omega
    · rw [if_neg e]
      obtain ⟨a1, a2, a3⟩ := h.apart j (by omega)
      refine ⟨a1, a2, fun q hq e' => ?_⟩
      split at e'
      · have := l4 j (by omega)
        omega
      · exact a3 q (by omega) e'
end Go.Proofs.Ytjllhcfcdimbfaa.P
