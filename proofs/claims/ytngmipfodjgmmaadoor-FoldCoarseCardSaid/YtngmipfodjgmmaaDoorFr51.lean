/- Units folded: the plain law of parting and parting again. No program in sight. -/
import Derived.WalkKit
namespace Go.Proofs.YtngmipfodjgmmaaDoor.Folds
set_option linter.unusedVariables false
section
variable (n : Nat) (inn : Nat → Bool) (al : Nat → Nat → Bool) (rf : Nat → List Nat)
def gt (p : List Nat) (i : Nat) : Nat := p.getD i 0
def first (p : List Nat) (i : Nat) : Nat := ((List.range i).find? fun j => inn j && gt p j == j && al i j).getD i
def beginF : Nat → List Nat
 | 0 => []
 | m + 1 => beginF m ++ [if inn m then first inn al (beginF m) m else m]
def sig (p : List Nat) (i : Nat) : Nat × List Nat := (gt p i, (rf i).map (gt p))
def nx (p : List Nat) (i : Nat) : Nat := ((List.range n).find? fun k => sig rf p k == sig rf p i).getD i
def refineF (p : List Nat) : List Nat := (List.range n).map (nx n rf p)
structure Part (p : List Nat) : Prop where
 len : p.length = n
 le : ∀ i, i < n → gt p i ≤ i
 idem : ∀ i, i < n → gt p (gt p i) = gt p i
 out : ∀ i, i < n → inn i = false → gt p i = i
 same : ∀ i k, i < n → k < n → i ≠ k → gt p i = gt p k → inn i = true ∧ inn k = true ∧ al i k = true
end
variable {n : Nat} {inn : Nat → Bool} {al : Nat → Nat → Bool} {rf : Nat → List Nat}
theorem find_range (q : Nat → Bool) (m : Nat) : (∃ j, (List.range m).find? q = some j ∧ j < m ∧ q j = true ∧ ∀ k, k < j → q k = false) ∨ ((List.range m).find? q = none ∧ ∀ k, k < m → q k = false) := by
 cases h : (List.range m).find? q with
 | none => exact .inr ⟨rfl, fun k hk => by have := List.find?_eq_none.1 h k (List.mem_range.2 hk); simpa using this⟩
 | some j =>
  refine .inl ⟨j, rfl, ?_⟩
  rw [List.find?_range_eq_some] at h
  exact ⟨List.mem_range.1 h.2.1, h.1, fun k hk => by have := h.2.2 k hk; simpa using this⟩
theorem beginF_length (m : Nat) : (beginF inn al m).length = m := by
 induction m with
 | zero => rfl
 | succ m ih => simp [beginF, ih]
def bg (inn : Nat → Bool) (al : Nat → Nat → Bool) (i : Nat) : Nat := if inn i then first inn al (beginF inn al i) i else i
theorem begin_get (m i : Nat) (h : i < m) : gt (beginF inn al m) i = bg inn al i := by
 induction m with
 | zero => omega
 | succ m ih =>
  have hl := beginF_length (inn := inn) (al := al) m
  unfold gt beginF
  rw [List.getD_eq_getElem?_getD]
  by_cases c : i < m
  ·rw [List.getElem?_append_left (by omega)]
   have := ih c
   unfold gt at this
   rw [List.getD_eq_getElem?_getD] at this
   exact this
  ·obtain rfl : i = m := by omega
   rw [List.getElem?_append_right (by omega), hl, Nat.sub_self]
   rfl
theorem bg_cases (i : Nat) : (inn i = false ∧ bg inn al i = i) ∨ (inn i = true ∧ bg inn al i = i ∧ ∀ k, k < i → ¬ (inn k = true ∧ bg inn al k = k ∧ al i k = true)) ∨
 (inn i = true ∧ ∃ j, bg inn al i = j ∧ j < i ∧ inn j = true ∧ bg inn al j = j ∧ al i j = true ∧ ∀ k, k < j → ¬ (inn k = true ∧ bg inn al k = k ∧ al i k = true)) := by
 cases hi : inn i with
 | false => exact .inl ⟨rfl, by unfold bg; rw [hi]; rfl⟩
 | true =>
  right
  have e : bg inn al i = ((List.range i).find? fun j => inn j && gt (beginF inn al i) j == j && al i j).getD i := by
   unfold bg first
   rw [hi]
   rfl
  have q : ∀ k, k < i → ((inn k && gt (beginF inn al i) k == k && al i k) = true ↔ inn k = true ∧ bg inn al k = k ∧ al i k = true) := by
   intro k hk
   rw [begin_get i k hk]
   simp [and_assoc]
  rcases find_range (fun j => inn j && gt (beginF inn al i) j == j && al i j) i with ⟨j, h1, h2, h3, h4⟩ | ⟨h1, h2⟩
  ·right
   rw [h1] at e
   obtain ⟨a, b, c⟩ := (q j h2).1 h3
   exact ⟨rfl, j, e, h2, a, b, c, fun k hk hc => by have := h4 k hk; have := (q k (by omega)).2 hc; simp_all⟩
  ·left
   rw [h1] at e
   exact ⟨rfl, e, fun k hk hc => by have := h2 k hk; have := (q k hk).2 hc; simp_all⟩
theorem begin_part (hs : ∀ i k, al i k = true → al k i = true) (ht : ∀ i j k, al i j = true → al j k = true → al i k = true) : Part n inn al (beginF inn al n) := by
 have g := fun i (h : i < n) => begin_get (inn := inn) (al := al) n i h
 have le : ∀ i, bg inn al i ≤ i := by
  intro i
  rcases bg_cases (inn := inn) (al := al) i with ⟨_, h⟩ | ⟨_, h, _⟩ | ⟨_, j, h, h1, _⟩ <;> omega
 refine ⟨beginF_length n, fun i hi => by rw [g i hi]; exact le i, fun i hi => ?_, fun i hi h => ?_, fun i k hi hk hne he => ?_⟩
 ·rw [g i hi, g _ (by have := le i; omega)]
  rcases bg_cases (inn := inn) (al := al) i with ⟨_, h⟩ | ⟨_, h, _⟩ | ⟨_, j, h, h1, h2, h3, _⟩
  ·rw [h, h]
  ·rw [h, h]
  ·rw [h, h3]
 ·rw [g i hi]
  unfold bg
  rw [h]
  rfl
 ·rw [g i hi, g k hk] at he
  rcases bg_cases (inn := inn) (al := al) i with ⟨a, h⟩ | ⟨a, h, _⟩ | ⟨a, j, h, h1, h2, h3, h4, _⟩ <;>
  rcases bg_cases (inn := inn) (al := al) k with ⟨b, g⟩ | ⟨b, g, _⟩ | ⟨b, j', g, g1, g2, g3, g4, _⟩
  ·omega
  ·omega
  ·exfalso
   have : j' = i := by omega
   subst this
   rw [a] at g2
   cases g2
  ·omega
  ·omega
  ·have : j' = i := by omega
   subst this
   exact ⟨a, b, hs _ _ g4⟩
  ·exfalso
   have : j = k := by omega
   subst this
   rw [b] at h2
   cases h2
  ·have : j = k := by omega
   subst this
   exact ⟨a, b, h4⟩
  ·have : j' = j := by omega
   subst this
   exact ⟨a, b, ht _ _ _ h4 (hs _ _ g4)⟩
theorem nx_spec (p : List Nat) (i : Nat) (hi : i < n) : nx n rf p i ≤ i ∧ sig rf p (nx n rf p i) = sig rf p i ∧ ∀ k, k < n → sig rf p k = sig rf p i → nx n rf p i ≤ k := by
 unfold nx
 rcases find_range (fun k => sig rf p k == sig rf p i) n with ⟨j, h1, h2, h3, h4⟩ | ⟨h1, h2⟩
 ·rw [h1]
  have l : ∀ k, k < n → sig rf p k = sig rf p i → j ≤ k := by
   intro k hk e
   by_cases c : k < j
   ·have := h4 k c
    simp [e] at this
   ·omega
  exact ⟨l i hi rfl, by simpa using h3, l⟩
 ·have := h2 i hi
  simp at this
theorem refine_get (p : List Nat) (i : Nat) (hi : i < n) : gt (refineF n rf p) i = nx n rf p i := by
 unfold gt refineF
 rw [List.getD_eq_getElem?_getD, List.getElem?_map, List.getElem?_range hi]
 rfl
theorem refine_part {p : List Nat} (h : Part n inn al p) : Part n inn al (refineF n rf p) := by
 have g := fun i (h : i < n) => refine_get (rf := rf) p i h
 have s := fun i (h : i < n) => nx_spec (rf := rf) p i h
 have pe : ∀ i k, sig rf p i = sig rf p k → gt p i = gt p k := fun i k e => congrArg Prod.fst e
 refine ⟨by simp [refineF], fun i hi => by rw [g i hi]; exact (s i hi).1, fun i hi => ?_, fun i hi ho => ?_, fun i k hi hk hne he => ?_⟩
 ·obtain ⟨a, b, c⟩ := s i hi
  rw [g i hi, g _ (by omega)]
  obtain ⟨a', b', c'⟩ := s (nx n rf p i) (by omega)
  have := c (nx n rf p (nx n rf p i)) (by omega) (b'.trans b)
  omega
 ·obtain ⟨a, b, c⟩ := s i hi
  rw [g i hi]
  by_cases e : nx n rf p i = i
  ·exact e
  ·have := (h.same (nx n rf p i) i (by omega) hi e (pe _ _ b)).2.1
   rw [ho] at this
   cases this
 ·rw [g i hi, g k hk] at he
  obtain ⟨_, b, _⟩ := s i hi
  obtain ⟨_, b', _⟩ := s k hk
  exact h.same i k hi hk hne (pe _ _ (b.symm.trans ((congrArg (sig rf p) he).trans b')))
/-- Parted again, each part's least is no less. -/
theorem refine_up {p : List Nat} (h : Part n inn al p) (i : Nat) (hi : i < n) : gt p i ≤ gt (refineF n rf p) i := by
 obtain ⟨a, b, c⟩ := nx_spec (rf := rf) p i hi
 rw [refine_get p i hi]
 have e : gt p (nx n rf p i) = gt p i := congrArg Prod.fst b
 have := h.le (nx n rf p i) (by omega)
 omega
def much (n : Nat) (p : List Nat) : Nat := ((List.range n).map fun i => i - gt p i).sum
theorem sum_lt (f g : Nat → Nat) : ∀ m : Nat, (∀ i, i < m → f i ≤ g i) → ((List.range m).map f).sum ≤ ((List.range m).map g).sum ∧ ((∃ i, i < m ∧ f i < g i) → ((List.range m).map f).sum < ((List.range m).map g).sum) := by
 intro m
 induction m with
 | zero => intro _; exact ⟨Nat.le_refl _, fun ⟨i, h, _⟩ => by omega⟩
 | succ m ih =>
  intro h
  obtain ⟨a, b⟩ := ih (fun i hi => h i (by omega))
  have := h m (by omega)
  rw [List.range_succ, List.map_append, List.map_append, List.sum_append, List.sum_append]
  simp only [List.map_cons, List.map_nil, List.sum_cons, List.sum_nil]
  refine ⟨by omega, ?_⟩
  rintro ⟨i, hi, hlt⟩
  by_cases c : i = m
  ·subst c; omega
  ·have := b ⟨i, by omega, hlt⟩
   omega
theorem gt_ext {p q : List Nat} (hl : p.length = q.length) (h : ∀ i, i < p.length → gt p i = gt q i) : p = q := by
 refine List.ext_getElem hl fun i h1 h2 => ?_
 have := h i h1
 unfold gt at this
 rw [List.getD_eq_getElem?_getD, List.getD_eq_getElem?_getD, List.getElem?_eq_getElem h1, List.getElem?_eq_getElem h2] at this
 exact this
theorem refine_less {p : List Nat} (h : Part n inn al p) (hne : refineF n rf p ≠ p) : much n (refineF n rf p) < much n p := by
 have hr := refine_part (rf := rf) h
 obtain ⟨_, b⟩ := sum_lt (fun i => i - gt (refineF n rf p) i) (fun i => i - gt p i) n (fun i hi => by have := refine_up (rf := rf) h i hi; omega)
 refine b ?_
 by_cases c : ∃ i, i < n ∧ gt (refineF n rf p) i ≠ gt p i
 ·obtain ⟨i, hi, hc⟩ := c
  have h1 := refine_up (rf := rf) h i hi
  have h2 := hr.le i hi
  exact ⟨i, hi, by show i - _ < i - _; omega⟩
 ·exact absurd (gt_ext (by rw [hr.len, h.len]) fun i hi => Classical.byContradiction fun e => c ⟨i, by rw [hr.len] at hi; exact hi, e⟩) hne
def foldN (n : Nat) (rf : Nat → List Nat) : Nat → List Nat → List Nat
 | 0, p => p
 | k + 1, p => if refineF n rf p = p then p else foldN n rf k (refineF n rf p)
/-- A good partition, told by numbers. -/
def GoodQ (n : Nat) (inn : Nat → Bool) (al : Nat → Nat → Bool) (rf : Nat → List Nat) (q : Nat → Int) : Prop :=
 ∀ i k, i < n → k < i → inn i = true → inn k = true → q i = q k → al i k = true ∧ (rf i).length = (rf k).length ∧ ∀ j, j < (rf i).length → (rf i).getD j 0 = (rf k).getD j 0 ∨ (inn ((rf i).getD j 0) = true ∧ inn ((rf k).getD j 0) = true ∧ q ((rf i).getD j 0) = q ((rf k).getD j 0))
def Finer (n : Nat) (inn : Nat → Bool) (q : Nat → Int) (p : List Nat) : Prop := ∀ i k, i < n → k < i → inn i = true → inn k = true → q i = q k → gt p i = gt p k
theorem begin_coarse (hs : ∀ i k, al i k = true → al k i = true) (ht : ∀ i j k, al i j = true → al j k = true → al i k = true) {q : Nat → Int} (hq : GoodQ n inn al rf q) : Finer n inn q (beginF inn al n) := by
 intro i k hi hk ii ik e
 have ha := (hq i k hi hk ii ik e).1
 rw [begin_get n i hi, begin_get n k (by omega)]
 -- the part's least of k
 obtain ⟨j0, hj0, hle, hin, hb, haj⟩ : ∃ j0, bg inn al k = j0 ∧ j0 ≤ k ∧ inn j0 = true ∧ bg inn al j0 = j0 ∧ al i j0 = true := by
  rcases bg_cases (inn := inn) (al := al) k with ⟨a, h⟩ | ⟨a, h, _⟩ | ⟨a, j, h, h1, h2, h3, h4, _⟩
  ·rw [ik] at a; cases a
  ·exact ⟨k, h, Nat.le_refl _, ik, h, ha⟩
  ·exact ⟨j, h, by omega, h2, h3, ht _ _ _ ha h4⟩
 rw [hj0]
 rcases bg_cases (inn := inn) (al := al) i with ⟨a, h⟩ | ⟨a, h, h2⟩ | ⟨a, j, h, h1, h2, h3, h4, h5⟩
 ·rw [ii] at a; cases a
 ·exact absurd ⟨hin, hb, haj⟩ (h2 j0 (by omega))
 ·rw [h]
  rcases Nat.lt_trichotomy j j0 with c | c | c
  ·exfalso
   rcases bg_cases (inn := inn) (al := al) j0 with ⟨a, g⟩ | ⟨a, g, g2⟩ | ⟨a, j', g, g1, _⟩
   ·rw [hin] at a; cases a
   ·exact g2 j c ⟨h2, h3, ht _ _ _ (hs _ _ haj) h4⟩
   ·omega
  ·exact c
  ·exact absurd ⟨hin, hb, haj⟩ (h5 j0 c)
theorem refine_coarse {q : Nat → Int} (hq : GoodQ n inn al rf q) (hrf : ∀ i, i < n → ∀ j ∈ rf i, j < n) {p : List Nat} (h : Finer n inn q p) : Finer n inn q (refineF n rf p) := by
 intro i k hi hk ii ik e
 rw [refine_get p i hi, refine_get p k (by omega)]
 obtain ⟨_, hl, hj⟩ := hq i k hi hk ii ik e
 have hm : (rf i).map (gt p) = (rf k).map (gt p) := by
  refine List.ext_getElem (by simp [hl]) fun j h1 h2 => ?_
  have hj1 : j < (rf i).length := by simpa using h1
  have hj2 : j < (rf k).length := by simpa using h2
  rw [List.getElem_map, List.getElem_map]
  have e1 : (rf i).getD j 0 = (rf i)[j] := by rw [List.getD_eq_getElem?_getD, List.getElem?_eq_getElem hj1]; rfl
  have e2 : (rf k).getD j 0 = (rf k)[j] := by rw [List.getD_eq_getElem?_getD, List.getElem?_eq_getElem hj2]; rfl
  have l1 := hrf i hi _ (List.getElem_mem hj1)
  have l2 := hrf k (by omega) _ (List.getElem_mem hj2)
  rcases hj j hj1 with c | ⟨c1, c2, c3⟩
  ·rw [e1, e2] at c
   rw [c]
  ·rw [e1] at c1 c3
   rw [e2] at c2 c3
   rcases Nat.lt_trichotomy ((rf i)[j]) ((rf k)[j]) with d | d | d
   ·exact (h _ _ l2 d c2 c1 c3.symm).symm
   ·rw [d]
   ·exact h _ _ l1 d c1 c2 c3
 have hs : sig rf p i = sig rf p k := by
  unfold sig
  rw [hm, h i k hi hk ii ik e]
 obtain ⟨a, b, c⟩ := nx_spec (rf := rf) p i hi
 obtain ⟨a', b', c'⟩ := nx_spec (n := n) (rf := rf) p k (by omega)
 have l1 := c (nx n rf p k) (by omega) (b'.trans hs.symm)
 have l2 := c' (nx n rf p i) (by omega) (b.trans hs)
 omega
theorem foldN_coarse {q : Nat → Int} (hq : GoodQ n inn al rf q) (hrf : ∀ i, i < n → ∀ j ∈ rf i, j < n) : ∀ (k : Nat) (p : List Nat), Finer n inn q p → Finer n inn q (foldN n rf k p)
 | 0, _, h => h
 | k + 1, p, h => by
  unfold foldN
  split
  ·exact h
  ·exact foldN_coarse hq hrf k _ (refine_coarse hq hrf h)
end Go.Proofs.YtngmipfodjgmmaaDoor.Folds
