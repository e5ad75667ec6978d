/- Symbols of objects, told plainly. -/
import Derived.Test.YtngmipfodjgmmaaDoorSm26
namespace Go.Proofs.YtngmipfodjgmmaaDoor.Pure
open Go Go.RowKit Go.Proofs.YtngmipfodjgmmaaDoorW.PrintWords Go.Proofs.YtngmipfodjgmmaaDoorW.PrintLast Go.Proofs.YtngmipfodjgmmaaDoorW.PrintMore
set_option linter.unusedVariables false
set_option linter.unusedSimpArgs false
abbrev Sy := P.S50
abbrev Ob := P.S48
abbrev Tg := Nat × Nat × Sy
abbrev Pl := P.S56
def obN (os : List Ob) (o : Nat) : Ob := P.rd_T48 os o
def syN (os : List Ob) (o k : Nat) : Sy := P.rd_T50 (obN os o).f1 k
def nsy (os : List Ob) (o : Nat) : Nat := (obN os o).f1.length
def rowS (os : List Ob) (o k : Nat) : List Tg := (List.range k).map fun j => (o, j, syN os o j)
def flatS (os : List Ob) : Nat → List Tg
  | 0 => []
  | o + 1 => flatS os o ++ rowS os o (nsy os o)
/-- The symbols ahead of symbol k of object o. -/
def preS (os : List Ob) (o k : Nat) : List Tg := flatS os o ++ rowS os o k
theorem preS_succ (os : List Ob) (o k : Nat) : preS os o (k + 1) = preS os o k ++ [(o, k, syN os o k)] := by
  unfold preS rowS
  rw [List.range_succ, List.map_append, List.append_assoc]
  rfl
theorem preS_next (os : List Ob) (o : Nat) : preS os (o + 1) 0 = preS os o (nsy os o) := by
  unfold preS
  simp [rowS, flatS]
def strongQ (s : Sy) : Bool := decide (s.f1 = 2 ∧ 0 ≤ s.f2)
def weakQ (s : Sy) : Bool := decide (s.f1 = 3 ∧ 0 ≤ s.f2)
def plOf (t : Tg) : Pl := ⟨t.1, t.2.2.f2, t.2.2.f3⟩
def hit (q : Sy → Bool) (n : ByteArray) (t : Tg) : Bool := q t.2.2 && decide (t.2.2.f0 = n)
/-- The first symbol of a name and a kind. -/
def firstS (q : Sy → Bool) (L : List Tg) (n : ByteArray) : Option Tg := L.find? (hit q n)
theorem firstS_snoc (q : Sy → Bool) (L : List Tg) (t : Tg) (n : ByteArray) : firstS q (L ++ [t]) n = (firstS q L n).or (if hit q n t then some t else none) := by
  unfold firstS
  rw [List.find?_append]
  congr 1
  cases h : hit q n t <;> simp [List.find?, h]
theorem firstS_snoc_no {q : Sy → Bool} {L : List Tg} {t : Tg} (h : q t.2.2 = false) (n : ByteArray) : firstS q (L ++ [t]) n = firstS q L n := by
  rw [firstS_snoc]
  simp [hit, h]
theorem firstS_snoc_old {q : Sy → Bool} {L : List Tg} {t u : Tg} {n : ByteArray} (h : firstS q L n = some u) : firstS q (L ++ [t]) n = some u := by
  rw [firstS_snoc, h]
  rfl
theorem firstS_snoc_other {q : Sy → Bool} {L : List Tg} {t : Tg} {n : ByteArray} (h : t.2.2.f0 ≠ n) : firstS q (L ++ [t]) n = firstS q L n := by
  rw [firstS_snoc]
  simp [hit, h]
theorem firstS_snoc_new {q : Sy → Bool} {L : List Tg} {t : Tg} (h : firstS q L t.2.2.f0 = none) (hq : q t.2.2 = true) : firstS q (L ++ [t]) t.2.2.f0 = some t := by
  rw [firstS_snoc, h]
  simp [hit, hq]
theorem firstS_some {q : Sy → Bool} {L : List Tg} {n : ByteArray} {t : Tg} (h : firstS q L n = some t) : t ∈ L ∧ q t.2.2 = true ∧ t.2.2.f0 = n := by
  have h1 := List.mem_of_find?_eq_some h
  have h2 := List.find?_some h
  unfold hit at h2
  rw [Bool.and_eq_true, decide_eq_true_iff] at h2
  exact ⟨h1, h2⟩
/-- All symbols. -/
def allS (os : List Ob) : List Tg := flatS os os.length
theorem allS_pre (os : List Ob) : allS os = preS os os.length 0 := by simp [allS, preS, rowS]
theorem mem_row {os : List Ob} {o k : Nat} {t : Tg} : t ∈ rowS os o k ↔ ∃ j, j < k ∧ t = (o, j, syN os o j) := by
  unfold rowS
  rw [List.mem_map]
  constructor
  · rintro ⟨j, hj, rfl⟩
    exact ⟨j, List.mem_range.1 hj, rfl⟩
  · rintro ⟨j, hj, rfl⟩
    exact ⟨j, List.mem_range.2 hj, rfl⟩
theorem mem_flat {os : List Ob} {o : Nat} {t : Tg} : t ∈ flatS os o ↔ ∃ i j, i < o ∧ j < nsy os i ∧ t = (i, j, syN os i j) := by
  induction o with
  | zero => exact ⟨fun h => (by cases h), fun ⟨i, j, h, _⟩ => absurd h (Nat.not_lt_zero _)⟩
  | succ o ih =>
    show t ∈ flatS os o ++ rowS os o (nsy os o) ↔ _
    rw [List.mem_append, ih, mem_row]
    constructor
    · rintro (⟨i, j, h1, h2, h3⟩ | ⟨j, h1, h2⟩)
      · exact ⟨i, j, by omega, h2, h3⟩
      · exact ⟨o, j, by omega, h1, h2⟩
    · rintro ⟨i, j, h1, h2, h3⟩
      by_cases c : i < o
      · exact .inl ⟨i, j, c, h2, h3⟩
      · obtain rfl : i = o := by omega
        exact .inr ⟨j, h2, h3⟩
theorem mem_all {os : List Ob} {t : Tg} : t ∈ allS os ↔ ∃ i j, i < os.length ∧ j < nsy os i ∧ t = (i, j, syN os i j) := mem_flat
theorem preS_len {os : List Ob} {m : Nat} (h : ∀ i, i < os.length → nsy os i ≤ m) : ∀ i, i ≤ os.length → (flatS os i).length ≤ i * m
  | 0, _ => by simp [flatS]
  | i + 1, hi => by
    have := preS_len h i (by omega)
    show (flatS os i ++ rowS os i (nsy os i)).length ≤ _
    rw [List.length_append, Nat.succ_mul]
    have h2 : (rowS os i (nsy os i)).length = nsy os i := by simp [rowS]
    have := h i (by omega)
    omega
/-- The place of a name: of the first strong one, or else of the first weak one. -/
def placeT (os : List Ob) (n : ByteArray) : Option Tg := (firstS strongQ (allS os) n).or (firstS weakQ (allS os) n)
def placeS (os : List Ob) (n : ByteArray) : Option Pl := (placeT os n).map plOf
/-- A strong name that is there already. -/
def Tw (A : List Tg) (s : Sy) : Prop := strongQ s = true ∧ ∃ u, firstS strongQ A s.f0 = some u
/-- A name that is nowhere. -/
def Lost (os : List Ob) (s : Sy) : Prop := s.f1 ≠ 1 ∧ placeT os s.f0 = none
def LexLt (i j o k : Nat) : Prop := i < o ∨ (i = o ∧ j < k)
theorem LexLt.tri (i j o k : Nat) : LexLt i j o k ∨ (i = o ∧ j = k) ∨ LexLt o k i j := by unfold LexLt; omega
def NoTw (os : List Ob) (o k : Nat) : Prop := ∀ i j, LexLt i j o k → j < nsy os i → ¬ Tw (preS os i j) (syN os i j)
def NoLost (os : List Ob) (o k : Nat) : Prop := ∀ i j, LexLt i j o k → j < nsy os i → ¬ Lost os (syN os i j)
theorem lex_succ {p : Nat → Nat → Prop} {n : Nat → Nat} {o k : Nat} (h : ∀ i j, LexLt i j o k → j < n i → p i j) (hk : p o k) : ∀ i j, LexLt i j o (k + 1) → j < n i → p i j := by
  intro i j hl hj
  rcases hl with hl | ⟨rfl, hl⟩
  · exact h i j (.inl hl) hj
  · rcases Nat.lt_or_ge j k with c | c
    · exact h i j (.inr ⟨rfl, c⟩) hj
    · obtain rfl : j = k := by omega
      exact hk
theorem lex_next {p : Nat → Nat → Prop} {n : Nat → Nat} {o : Nat} (h : ∀ i j, LexLt i j o (n o) → j < n i → p i j) : ∀ i j, LexLt i j (o + 1) 0 → j < n i → p i j := by
  intro i j hl hj
  rcases hl with hl | ⟨rfl, hl⟩
  · by_cases c : i < o
    · exact h i j (.inl c) hj
    · obtain rfl : i = o := by omega
      exact h i j (.inr ⟨rfl, hj⟩) hj
  · omega
theorem lex_zero {p : Nat → Nat → Prop} {n : Nat → Nat} : ∀ i j, LexLt i j 0 0 → j < n i → p i j := fun i j h => absurd h (by unfold LexLt; omega)
/-- The first fault of a kind. -/
def AtTw (os : List Ob) (o k : Nat) : Prop := o < os.length ∧ k < nsy os o ∧ Tw (preS os o k) (syN os o k) ∧ NoTw os o k
def AtLost (os : List Ob) (o k : Nat) : Prop := o < os.length ∧ k < nsy os o ∧ Lost os (syN os o k) ∧ NoLost os o k
theorem AtTw.one {os : List Ob} {o k i j : Nat} (h : AtTw os o k) (g : AtTw os i j) : o = i ∧ k = j := by
  rcases LexLt.tri o k i j with c | ⟨a, b⟩ | c
  · exact absurd h.2.2.1 (g.2.2.2 o k c h.2.1)
  · exact ⟨a, b⟩
  · exact absurd g.2.2.1 (h.2.2.2 i j c g.2.1)
theorem AtLost.one {os : List Ob} {o k i j : Nat} (h : AtLost os o k) (g : AtLost os i j) : o = i ∧ k = j := by
  rcases LexLt.tri o k i j with c | ⟨a, b⟩ | c
  · exact absurd h.2.2.1 (g.2.2.2 o k c h.2.1)
  · exact ⟨a, b⟩
  · exact absurd g.2.2.1 (h.2.2.2 i j c g.2.1)
/-- The place of a symbol. -/
def plS (os : List Ob) (o k : Nat) : Pl := if (syN os o k).f1 = 1 then ⟨o, (syN os o k).f2, (syN os o k).f3⟩ else (placeS os (syN os o k).f0).getD ⟨0, 0, 0⟩
def plRow (os : List Ob) (o k : Nat) : List Pl := (List.range k).map (plS os o)
theorem plRow_succ (os : List Ob) (o k : Nat) : plRow os o (k + 1) = plRow os o k ++ [plS os o k] := by
  unfold plRow
  rw [List.range_succ, List.map_append]
  rfl
theorem plRow_length (os : List Ob) (o k : Nat) : (plRow os o k).length = k := by simp [plRow]
end Go.Proofs.YtngmipfodjgmmaaDoor.Pure
