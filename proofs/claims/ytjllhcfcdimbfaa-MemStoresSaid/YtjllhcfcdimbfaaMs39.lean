/- What is stored is loaded, and a place beside it stays: of the rows of regions, no program in sight. -/
import Derived.Test.YtjllhcfcdimbfaaMs38
namespace Go.Proofs.Ytjllhcfcdimbfaa.P
open Go Go.RowKit Go.Lib Go.Shelf Go.Proofs.YtjllhcfcdimbfaaW.PrintWords Go.Proofs.YtjllhcfcdimbfaaW.PrintLast Go.Proofs.YtjllhcfcdimbfaaW.PrintMore
set_option linter.unusedVariables false
set_option linter.unusedSimpArgs false
theorem sto_same (d : Array Rg) (k f v n i : Nat) (hi : i < d.size) : (sto d k f v n)[i]!.at_ = d[i]!.at_ ∧ (sto d k f v n)[i]!.kind = d[i]!.kind ∧ (sto d k f v n)[i]!.bytes.length = d[i]!.bytes.length := by
  rw [get_sto d k f v n i hi]
  split
  · obtain ⟨s1, s2, s3, s4⟩ := stb_same d[i]! f v n
    exact ⟨s1, s2, s4⟩
  · exact ⟨rfl, rfl, rfl⟩
theorem cnt_sto (d : Array Rg) (k f v n : Nat) (a : Int) : cnt (sto d k f v n) a = cnt d a := by
  unfold cnt
  rw [sto_size]
  refine List.countP_congr fun i hi => ?_
  rw [(sto_same d k f v n i (List.mem_range.1 hi)).1]
theorem hit_sto (d : Array Rg) (k f v n : Nat) (a : Int) (m : Nat) : hit (sto d k f v n) a m = hit d a m := by
  unfold hit
  rw [cnt_sto]
  by_cases c : cnt d a = 0
  · rw [if_pos c, if_pos c]
  · have := cnt_le d a
    obtain ⟨e1, _, e3⟩ := sto_same d k f v n (cnt d a - 1) (by omega)
    rw [if_neg c, if_neg c, e1, e3]
/-- A byte of what was stored. -/
theorem stb_get (r : Rg) (f v : Nat) : ∀ (n j : Nat), f + n ≤ r.bytes.length → (stb r f v n).bytes.getD j 0 = if f ≤ j ∧ j < f + n then v / 2 ^ (8 * (j - f)) % 256 else r.bytes.getD j 0
  | 0, j, _ => by
    rw [if_neg (by omega)]
    rfl
  | n + 1, j, h => by
    have ih := stb_get r f v n j (by omega)
    have hl := (stb_same r f v n).2.2.2
    simp only [stb]
    rw [List.getD_eq_getElem?_getD, List.getElem?_set]
    by_cases e : f + n = j
    · subst e
      rw [if_pos rfl, if_pos (by omega), if_pos (by omega), Nat.add_sub_cancel_left]
      rfl
    · rw [if_neg e, ← List.getD_eq_getElem?_getD, ih]
      by_cases c : f ≤ j ∧ j < f + n
      · rw [if_pos c, if_pos (by omega)]
      · rw [if_neg c, if_neg (by omega)]
theorem numv_bytes (v : Nat) : ∀ (n : Nat) (l : List Nat), l.length = n → (∀ j, j < n → l.getD j 0 = v / 2 ^ (8 * j) % 256) → numv l = v % 2 ^ (8 * n)
  | 0, l, hl, _ => by
    obtain rfl := List.eq_nil_of_length_eq_zero hl
    simp [numv, Nat.mod_one]
  | n + 1, l, hl, h => by
    have hne : l ≠ [] := by rintro rfl; simp at hl
    have e : l = l.take n ++ [l.getD n 0] := by
      have h1 : l.getD n 0 = l[n]'(by omega) := by simp [List.getD_eq_getElem?_getD, List.getElem?_eq_getElem (show n < l.length by omega)]
      rw [h1, ← List.take_succ_eq_append_getElem, List.take_of_length_le (by omega)]
    have ih := numv_bytes v n (l.take n) (by simp; omega) (fun j hj => by
      rw [← h j (by omega), List.getD_eq_getElem?_getD, List.getD_eq_getElem?_getD, List.getElem?_take, if_pos hj])
    rw [e, numv_snoc, ih, List.length_take, Nat.min_eq_left (by omega), h n (by omega), Nat.mul_add 8, Nat.pow_add]
    have := Nat.mod_mul (x := v) (a := 2 ^ (8 * n)) (b := 2 ^ (8 * 1))
    rw [this]
/-- What is stored is loaded. -/
theorem ld_sto {d : Array Rg} (hg : Good d) {a : Int} {n k f : Nat} (v : Nat) (h : hit d a n = some (k, f)) : ld (sto d k f v n) a n = (((v % 2 ^ (8 * n) : Nat) : Int), 0) := by
  obtain ⟨hk, _, hf⟩ := hit_some hg h
  unfold ld
  rw [hit_sto, h]
  dsimp only
  have e : (sto d k f v n)[k]! = stb d[k]! f v n := by rw [get_sto d k f v n k hk, if_pos rfl]
  have hl : f + n ≤ (stb d[k]! f v n).bytes.length := by rw [(stb_same d[k]! f v n).2.2.2]; exact hf
  rw [e, numv_bytes v n _ (cut_length _ _ _ hl) (fun j hj => by
    rw [cut_get _ _ _ _ hl hj, stb_get _ _ _ _ _ hf, if_pos (by omega), Nat.add_sub_cancel_left])]
/-- A place beside what is stored stays. -/
theorem ld_far {d : Array Rg} (hg : Good d) {a o : Int} {n k f : Nat} (v : Nat) (h : hit d a n = some (k, f)) (ho : o < a ∨ a + n ≤ o) : ld (sto d k f v n) o 1 = ld d o 1 := by
  obtain ⟨hk, ha, hf⟩ := hit_some hg h
  unfold ld
  rw [hit_sto]
  cases hh : hit d o 1 with
  | none => rfl
  | some t =>
    obtain ⟨q, g⟩ := t
    dsimp only
    obtain ⟨hq, hb, hgq⟩ := hit_some hg hh
    have e : cut (sto d k f v n)[q]! g 1 = cut d[q]! g 1 := by
      rw [get_sto d k f v n q hq]
      by_cases e : k = q
      · subst e
        rw [if_pos rfl]
        have hl := (stb_same d[k]! f v n).2.2.2
        refine List.ext_getElem (by rw [cut_length _ _ _ (by omega), cut_length _ _ _ hgq]) fun j h1 h2 => ?_
        rw [cut_length _ _ _ (by omega)] at h1
        have e1 := cut_get (stb d[k]! f v n) g 1 j (by omega) h1
        have e2 := cut_get d[k]! g 1 j hgq h1
        rw [stb_get _ _ _ _ _ hf, if_neg (by omega), ← e2] at e1
        rw [List.getD_eq_getElem?_getD, List.getD_eq_getElem?_getD, List.getElem?_eq_getElem (by assumption), List.getElem?_eq_getElem (by assumption)] at e1
        exact e1
      · rw [if_neg e]
    rw [e]
theorem big_ends (l : List S37) : ∃ k r, cleatref07_Big.f k l = some r ∧ (r = false → l.length ≤ 20) := by
  by_cases h : (l.length : Int) ≤ 20
  · have go : ∀ (j i : Nat), i + j = l.length → ∃ k r, cleatref07_Big.l0 k l i = some r ∧ (r = false → l.length ≤ 20) := by
      intro j
      induction j with
      | zero =>
        intro i hi
        refine ⟨2, (decide ((l.length : Int) > 20)), ?_, fun _ => by omega⟩
        rw [cleatref07_Big.l0, if_neg (by omega), cleatref07_Big.j1, if_neg (by decide)]
      | succ j ih =>
        intro i hi
        obtain ⟨k, r, hk, hr⟩ := ih (i + 1) (by omega)
        have e1 : wrap64 ((i : Int) + 1) = ((i + 1 : Nat) : Int) := by unfold wrap64; omega
        by_cases c1 : (((rd_T37 l i).f2).size : Int) > 600
        · by_cases c2 : (((rd_T37 l i).f2).size : Int) ≤ 65536
          · exact ⟨2, true, by rw [cleatref07_Big.l0, if_pos (by omega), cleatref07_Big.j1, decide_eq_true h, if_pos rfl, if_pos (by omega), if_pos (by omega), if_pos c1, if_pos c2], fun h => by cases h⟩
          · by_cases c3 : (((rd_T37 l i).f2).size : Int) > 70000
            · exact ⟨2, true, by rw [cleatref07_Big.l0, if_pos (by omega), cleatref07_Big.j1, decide_eq_true h, if_pos rfl, if_pos (by omega), if_pos (by omega), if_pos c1, if_neg c2, if_pos c3], fun h => by cases h⟩
            · exact ⟨k + 2, r, by rw [cleatref07_Big.l0, if_pos (by omega), cleatref07_Big.j1, decide_eq_true h, if_pos rfl, if_pos (by omega), if_pos (by omega), if_pos c1, if_neg c2, if_neg c3, e1]; exact hk, hr⟩
        · by_cases c3 : (((rd_T37 l i).f2).size : Int) > 70000
          · exact ⟨2, true, by rw [cleatref07_Big.l0, if_pos (by omega), cleatref07_Big.j1, decide_eq_true h, if_pos rfl, if_pos (by omega), if_pos (by omega), if_neg c1, if_pos c3], fun h => by cases h⟩
          · exact ⟨k + 2, r, by rw [cleatref07_Big.l0, if_pos (by omega), cleatref07_Big.j1, decide_eq_true h, if_pos rfl, if_pos (by omega), if_pos (by omega), if_neg c1, if_neg c3, e1]; exact hk, hr⟩
    obtain ⟨k, r, hk, hr⟩ := go l.length 0 (by omega)
    exact ⟨k, r, hk, hr⟩
  · refine ⟨2, true, ?_, fun h => by cases h⟩
    show cleatref07_Big.l0 2 l 0 = some true
    rw [cleatref07_Big.l0, if_pos (by omega), cleatref07_Big.j1, decide_eq_false h, if_neg (by decide)]
    rw [decide_eq_true (by omega)]
end Go.Proofs.Ytjllhcfcdimbfaa.P
