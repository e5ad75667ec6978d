/- Walks and plain laws of this claim, a part. -/
import Derived.WalkKit
import Derived.Test.YtngmipfodjgmmaaGreatDoorFz80
set_option maxRecDepth 100000
set_option maxHeartbeats 8000000
set_option linter.unusedVariables false
set_option linter.unusedSimpArgs false
section
namespace Go.Proofs.YtngmipfodjgmmaaGreatDoor.Folds
section
variable (n : Nat) (inn : Nat → Bool) (al : Nat → Nat → Bool) (rf : Nat → List Nat)
def gt (p : List Nat) (i : Nat) : Nat := p.getD i 0
def first (p : List Nat) (i : Nat) : Nat := ((List.range i).find? fun j => inn j && gt p j == j && al i j).getD i
def beginF : Nat → List Nat
 | 0 => []
 | m + 1 => beginF m ++ [if inn m then first inn al (beginF m) m else m]
def sig (p : List Nat) (i : Nat) : Nat × List Nat := (gt p i, (rf i).map (gt p))
def nx (p : List Nat) (i : Nat) : Nat := ((List.range n).find? fun k => sig rf p k == sig rf p i).getD i
def refineF (p : List Nat) : List Nat := (List.range n).map (nx n rf p)
structure Part (p : List Nat) : Prop where
 len : p.length = n
 le : ∀ i, i < n → gt p i ≤ i
 idem : ∀ i, i < n → gt p (gt p i) = gt p i
 out : ∀ i, i < n → inn i = false → gt p i = i
 same : ∀ i k, i < n → k < n → i ≠ k → gt p i = gt p k → inn i = true ∧ inn k = true ∧ al i k = true
end
variable {n : Nat} {inn : Nat → Bool} {al : Nat → Nat → Bool} {rf : Nat → List Nat}
theorem find_range (q : Nat → Bool) (m : Nat) : (∃ j, (List.range m).find? q = some j ∧ j < m ∧ q j = true ∧ ∀ k, k < j → q k = false) ∨ ((List.range m).find? q = none ∧ ∀ k, k < m → q k = false) := by
 cases h : (List.range m).find? q with
 | none => exact .inr ⟨rfl, fun k hk => by have := List.find?_eq_none.1 h k (List.mem_range.2 hk); simpa using this⟩
 | some j =>
  refine .inl ⟨j, rfl, ?_⟩
  rw [List.find?_range_eq_some] at h
  exact ⟨List.mem_range.1 h.2.1, h.1, fun k hk => by have := h.2.2 k hk; simpa using this⟩
theorem beginF_length (m : Nat) : (beginF inn al m).length = m := by
 induction m with
 | zero => rfl
 | succ m ih => simp [beginF, ih]
def bg (inn : Nat → Bool) (al : Nat → Nat → Bool) (i : Nat) : Nat := if inn i then first inn al (beginF inn al i) i else i
theorem begin_get (m i : Nat) (h : i < m) : gt (beginF inn al m) i = bg inn al i := by
 induction m with
 | zero => omega
 | succ m ih =>
  have hl := beginF_length (inn := inn) (al := al) m
  unfold gt beginF
  rw [List.getD_eq_getElem?_getD]
  by_cases c : i < m
  ·rw [List.getElem?_append_left (by omega)]
   have := ih c
   unfold gt at this
   rw [List.getD_eq_getElem?_getD] at this
   exact this
  obtain rfl : i = m := by omega
  rw [List.getElem?_append_right (by omega), hl, Nat.sub_self]
  rfl
theorem bg_cases (i : Nat) : (inn i = false ∧ bg inn al i = i) ∨ (inn i = true ∧ bg inn al i = i ∧ ∀ k, k < i → ¬ (inn k = true ∧ bg inn al k = k ∧ al i k = true)) ∨
 (inn i = true ∧ ∃ j, bg inn al i = j ∧ j < i ∧ inn j = true ∧ bg inn al j = j ∧ al i j = true ∧ ∀ k, k < j → ¬ (inn k = true ∧ bg inn al k = k ∧ al i k = true)) := by
 cases hi : inn i with
 | false => exact .inl ⟨rfl, by unfold bg; rw [hi]; rfl⟩
 | true =>
  right
  have e : bg inn al i = ((List.range i).find? fun j => inn j && gt (beginF inn al i) j == j && al i j).getD i := by
   unfold bg first
   rw [hi]
   rfl
  have q : ∀ k, k < i → ((inn k && gt (beginF inn al i) k == k && al i k) = true ↔ inn k = true ∧ bg inn al k = k ∧ al i k = true) := by
   intro k hk
   rw [begin_get i k hk]
   simp [and_assoc]
  rcases find_range (fun j => inn j && gt (beginF inn al i) j == j && al i j) i with ⟨j, h1, h2, h3, h4⟩ | ⟨h1, h2⟩
  ·right
   rw [h1] at e
   obtain ⟨a, b, c⟩ := (q j h2).1 h3
   exact ⟨rfl, j, e, h2, a, b, c, fun k hk hc => by have := h4 k hk; have := (q k (by omega)).2 hc; simp_all⟩
  left
  rw [h1] at e
  exact ⟨rfl, e, fun k hk hc => by have := h2 k hk; have := (q k hk).2 hc; simp_all⟩
theorem begin_part (hs : ∀ i k, al i k = true → al k i = true) (ht : ∀ i j k, al i j = true → al j k = true → al i k = true) : Part n inn al (beginF inn al n) := by
 have g := fun i (h : i < n) => begin_get (inn := inn) (al := al) n i h
 have le : ∀ i, bg inn al i ≤ i := by
  intro i
  rcases bg_cases (inn := inn) (al := al) i with ⟨_, h⟩ | ⟨_, h, _⟩ | ⟨_, j, h, h1, _⟩ <;> omega
 refine ⟨beginF_length n, fun i hi => by rw [g i hi]; exact le i, fun i hi => ?_, fun i hi h => ?_, fun i k hi hk hne he => ?_⟩
 ·rw [g i hi, g _ (by have := le i; omega)]
  rcases bg_cases (inn := inn) (al := al) i with ⟨_, h⟩ | ⟨_, h, _⟩ | ⟨_, j, h, h1, h2, h3, _⟩
  ·rw [h, h]
  ·rw [h, h]
  rw [h, h3]
 ·rw [g i hi]
  unfold bg
  rw [h]
  rfl
 rw [g i hi, g k hk] at he
 rcases bg_cases (inn := inn) (al := al) i with ⟨a, h⟩ | ⟨a, h, _⟩ | ⟨a, j, h, h1, h2, h3, h4, _⟩ <;>
 rcases bg_cases (inn := inn) (al := al) k with ⟨b, g⟩ | ⟨b, g, _⟩ | ⟨b, j', g, g1, g2, g3, g4, _⟩
 ·omega
 ·omega
 ·exfalso
  have : j' = i := by omega
  subst this
  rw [a] at g2
  cases g2
 ·omega
 ·omega
 ·have : j' = i := by omega
  subst this
  exact ⟨a, b, hs _ _ g4⟩
 ·exfalso
  have : j = k := by omega
  subst this
  rw [b] at h2
  cases h2
 ·have : j = k := by omega
  subst this
  exact ⟨a, b, h4⟩
 have : j' = j := by omega
 subst this
 exact ⟨a, b, ht _ _ _ h4 (hs _ _ g4)⟩
theorem nx_spec (p : List Nat) (i : Nat) (hi : i < n) : nx n rf p i ≤ i ∧ sig rf p (nx n rf p i) = sig rf p i ∧ ∀ k, k < n → sig rf p k = sig rf p i → nx n rf p i ≤ k := by
 unfold nx
 rcases find_range (fun k => sig rf p k == sig rf p i) n with ⟨j, h1, h2, h3, h4⟩ | ⟨h1, h2⟩
 ·rw [h1]
  have l : ∀ k, k < n → sig rf p k = sig rf p i → j ≤ k := by
   intro k hk e
   by_cases c : k < j
   ·have := h4 k c
    simp [e] at this
   omega
  exact ⟨l i hi rfl, by simpa using h3, l⟩
 have := h2 i hi
 simp at this
theorem refine_get (p : List Nat) (i : Nat) (hi : i < n) : gt (refineF n rf p) i = nx n rf p i := by
 unfold gt refineF
 rw [List.getD_eq_getElem?_getD, List.getElem?_map, List.getElem?_range hi]
 rfl
theorem refine_part {p : List Nat} (h : Part n inn al p) : Part n inn al (refineF n rf p) := by
 have g := fun i (h : i < n) => refine_get (rf := rf) p i h
 have s := fun i (h : i < n) => nx_spec (rf := rf) p i h
 have pe : ∀ i k, sig rf p i = sig rf p k → gt p i = gt p k := fun i k e => congrArg Prod.fst e
 refine ⟨by simp [refineF], fun i hi => by rw [g i hi]; exact (s i hi).1, fun i hi => ?_, fun i hi ho => ?_, fun i k hi hk hne he => ?_⟩
 ·obtain ⟨a, b, c⟩ := s i hi
  rw [g i hi, g _ (by omega)]
  obtain ⟨a', b', c'⟩ := s (nx n rf p i) (by omega)
  have := c (nx n rf p (nx n rf p i)) (by omega) (b'.trans b)
  omega
 ·obtain ⟨a, b, c⟩ := s i hi
  rw [g i hi]
  by_cases e : nx n rf p i = i
  ·exact e
  have := (h.same (nx n rf p i) i (by omega) hi e (pe _ _ b)).2.1
  rw [ho] at this
  cases this
 rw [g i hi, g k hk] at he
 obtain ⟨_, b, _⟩ := s i hi
 obtain ⟨_, b', _⟩ := s k hk
 exact h.same i k hi hk hne (pe _ _ (b.symm.trans ((congrArg (sig rf p) he).trans b')))
theorem refine_up {p : List Nat} (h : Part n inn al p) (i : Nat) (hi : i < n) : gt p i ≤ gt (refineF n rf p) i := by
 obtain ⟨a, b, c⟩ := nx_spec (rf := rf) p i hi
 rw [refine_get p i hi]
 have e : gt p (nx n rf p i) = gt p i := congrArg Prod.fst b
 have := h.le (nx n rf p i) (by omega)
 omega
def much (n : Nat) (p : List Nat) : Nat := ((List.range n).map fun i => i - gt p i).sum
theorem sum_lt (f g : Nat → Nat) : ∀ m : Nat, (∀ i, i < m → f i ≤ g i) → ((List.range m).map f).sum ≤ ((List.range m).map g).sum ∧ ((∃ i, i < m ∧ f i < g i) → ((List.range m).map f).sum < ((List.range m).map g).sum) := by
 intro m
 induction m with
 | zero => intro _; exact ⟨Nat.le_refl _, fun ⟨i, h, _⟩ => by omega⟩
 | succ m ih =>
  intro h
  obtain ⟨a, b⟩ := ih (fun i hi => h i (by omega))
  have := h m (by omega)
  rw [List.range_succ, List.map_append, List.map_append, List.sum_append, List.sum_append]
  simp only [List.map_cons, List.map_nil, List.sum_cons, List.sum_nil]
  refine ⟨by omega, ?_⟩
  rintro ⟨i, hi, hlt⟩
  by_cases c : i = m
  ·subst c; omega
  have := b ⟨i, by omega, hlt⟩
  omega
theorem gt_ext {p q : List Nat} (hl : p.length = q.length) (h : ∀ i, i < p.length → gt p i = gt q i) : p = q := by
 refine List.ext_getElem hl fun i h1 h2 => ?_
 have := h i h1
 unfold gt at this
 rw [List.getD_eq_getElem?_getD, List.getD_eq_getElem?_getD, List.getElem?_eq_getElem h1, List.getElem?_eq_getElem h2] at this
 exact this
theorem refine_less {p : List Nat} (h : Part n inn al p) (hne : refineF n rf p ≠ p) : much n (refineF n rf p) < much n p := by
 have hr := refine_part (rf := rf) h
 obtain ⟨_, b⟩ := sum_lt (fun i => i - gt (refineF n rf p) i) (fun i => i - gt p i) n (fun i hi => by have := refine_up (rf := rf) h i hi; omega)
 refine b ?_
 by_cases c : ∃ i, i < n ∧ gt (refineF n rf p) i ≠ gt p i
 ·obtain ⟨i, hi, hc⟩ := c
  have h1 := refine_up (rf := rf) h i hi
  have h2 := hr.le i hi
  exact ⟨i, hi, by show i - _ < i - _; omega⟩
 exact absurd (gt_ext (by rw [hr.len, h.len]) fun i hi => Classical.byContradiction fun e => c ⟨i, by rw [hr.len] at hi; exact hi, e⟩) hne
def foldN (n : Nat) (rf : Nat → List Nat) : Nat → List Nat → List Nat
 | 0, p => p
 | k + 1, p => if refineF n rf p = p then p else foldN n rf k (refineF n rf p)
theorem foldN_spec : ∀ (k : Nat) (p : List Nat), Part n inn al p → much n p < k → Part n inn al (foldN n rf k p) ∧ refineF n rf (foldN n rf k p) = foldN n rf k p
 | 0, p, _, h => by omega
 | k + 1, p, hp, h => by
  unfold foldN
  by_cases c : refineF n rf p = p
  ·rw [if_pos c]
   exact ⟨hp, c⟩
  rw [if_neg c]
  exact foldN_spec k _ (refine_part hp) (by have := refine_less (rf := rf) hp c; omega)
theorem stays_sig {p : List Nat} (hf : refineF n rf p = p) (i k : Nat) (hi : i < n) (hk : k < n) (h : gt p i = gt p k) : (rf i).map (gt p) = (rf k).map (gt p) := by
 have e1 := refine_get (rf := rf) p i hi
 have e2 := refine_get (rf := rf) p k hk
 rw [hf] at e1 e2
 have s1 := (nx_spec (rf := rf) p i hi).2.1
 have s2 := (nx_spec (rf := rf) p k hk).2.1
 have : sig rf p i = sig rf p k := by rw [← s1, ← s2, ← e1, ← e2, h]
 exact congrArg Prod.snd this
def GoodQ (n : Nat) (inn : Nat → Bool) (al : Nat → Nat → Bool) (rf : Nat → List Nat) (q : Nat → Int) : Prop :=
 ∀ i k, i < n → k < i → inn i = true → inn k = true → q i = q k → al i k = true ∧ (rf i).length = (rf k).length ∧ ∀ j, j < (rf i).length → (rf i).getD j 0 = (rf k).getD j 0 ∨ (inn ((rf i).getD j 0) = true ∧ inn ((rf k).getD j 0) = true ∧ q ((rf i).getD j 0) = q ((rf k).getD j 0))
def Finer (n : Nat) (inn : Nat → Bool) (q : Nat → Int) (p : List Nat) : Prop := ∀ i k, i < n → k < i → inn i = true → inn k = true → q i = q k → gt p i = gt p k
theorem begin_coarse (hs : ∀ i k, al i k = true → al k i = true) (ht : ∀ i j k, al i j = true → al j k = true → al i k = true) {q : Nat → Int} (hq : GoodQ n inn al rf q) : Finer n inn q (beginF inn al n) := by
 intro i k hi hk ii ik e
 have ha := (hq i k hi hk ii ik e).1
 rw [begin_get n i hi, begin_get n k (by omega)]
 -- the part's least of k
 obtain ⟨j0, hj0, hle, hin, hb, haj⟩ : ∃ j0, bg inn al k = j0 ∧ j0 ≤ k ∧ inn j0 = true ∧ bg inn al j0 = j0 ∧ al i j0 = true := by
  rcases bg_cases (inn := inn) (al := al) k with ⟨a, h⟩ | ⟨a, h, _⟩ | ⟨a, j, h, h1, h2, h3, h4, _⟩
  ·rw [ik] at a; cases a
  ·exact ⟨k, h, Nat.le_refl _, ik, h, ha⟩
  exact ⟨j, h, by omega, h2, h3, ht _ _ _ ha h4⟩
 rw [hj0]
 rcases bg_cases (inn := inn) (al := al) i with ⟨a, h⟩ | ⟨a, h, h2⟩ | ⟨a, j, h, h1, h2, h3, h4, h5⟩
 ·rw [ii] at a; cases a
 ·exact absurd ⟨hin, hb, haj⟩ (h2 j0 (by omega))
 rw [h]
 rcases Nat.lt_trichotomy j j0 with c | c | c
 ·exfalso
  rcases bg_cases (inn := inn) (al := al) j0 with ⟨a, g⟩ | ⟨a, g, g2⟩ | ⟨a, j', g, g1, _⟩
  ·rw [hin] at a; cases a
  ·exact g2 j c ⟨h2, h3, ht _ _ _ (hs _ _ haj) h4⟩
  omega
 ·exact c
 exact absurd ⟨hin, hb, haj⟩ (h5 j0 c)
end Go.Proofs.YtngmipfodjgmmaaGreatDoor.Folds
end
section
namespace Go.Proofs.YtngmipfodjgmmaaGreatDoor.P
open Go.RowKit Wa Wb Wc
attribute [local go_sem] max2_int min2_int max_two min_two max_three min_three max_four min_four
def slices_Equal_int_int.l0 : Nat → List Int → List Int → Int → Int → Option (Bool)
 | 0, _, _, _, _ => none
 | k + 1, x0, x1, x12, x13 => if x13 < x12 then (if 0 ≤ x13 then (if x13 < (x0.length : Int) then (if x13 < (x1.length : Int) then (if (rd x0 x13) = (rd x1 x13) then (slices_Equal_int_int.l0 k x0 x1 x12 (wrap64 (x13 + 1))) else (some false)) else (none)) else (none)) else (none)) else (some true)
def slices_Equal_int_int.f (k : Nat) (l0 : List Int) (l1 : List Int) : Option (Bool) := if (l0.length : Int) = (l1.length : Int) then (slices_Equal_int_int.l0 k l0 l1 (l0.length : Int) 0) else (some false)
theorem slices_Equal_int_int.calls (k : Nat) (A0 : Option Addr) (c0 : Nat) (l0 : List Int) (A1 : Option Addr) (c1 : Nat) (l1 : List Int) (r : Bool) (w : World) (hr0 : Kd.C (Kd.int .i64) w A0 l0.length l0) (hc0 : l0.length ≤ c0) (hr1 : Kd.C (Kd.int .i64) w A1 l1.length l1) (hc1 : l1.length ≤ c1) (h : slices_Equal_int_int.f k l0 l1 = some r) :
 Calls Tryz.prog 42 #[.slice A0 l0.length c0, .slice A1 l1.length c1] w fun e w' => e = .returned (.bool r) ∧ Drawn0 w w' := by
 have HR0 := Azz.mk hr0
 have HC0 := Azz.mk hc0
 clear hr0 hc0
 have HR1 := Azz.mk hr1
 have HC1 := Azz.mk hc1
 clear hr1 hc1
 have H : (if (l0.length : Int) = (l1.length : Int) then (slices_Equal_int_int.l0 k l0 l1 (l0.length : Int) 0) else (some false)) = some r := h
 clear h
 by_cases c3 : (l0.length : Int) = (l1.length : Int)
 rotate_left
 ·rw [if_neg c3] at H
  obtain ⟨c3b0, c3b1⟩ := bn_ c3
  have c3b2 : (l0.length == l1.length) = false := by first | simpa using c3 | (simp at c3 ⊢; omega)
  obtain rfl := sI H
  go_enter Tryz.func42, Tryz.ntmps42
  go_wp2
  repeat (go_quiet (fail); try go_wp2)
  go_ret
  exact ⟨by first | rfl | (simp; done) | (simp [*]; done), d0S⟩
 rw [if_pos c3] at H
 obtain ⟨c3b0, c3b1⟩ := be_ c3
 have c3b2 : (l0.length == l1.length) = true := by first | simpa using c3 | (simp at c3 ⊢; omega)
 clear c3
 have H' := Azz.mk H
 clear H
 go_enter Tryz.func42, Tryz.ntmps42
 go_wp2
 repeat (go_quiet (fail); try go_wp2)
 go_loopg [13] k (fun kq v13 w' => ∃ (x13_1 : Int), v13 = .int .i64 x13_1 ∧ Azz (slices_Equal_int_int.l0 kq l0 l1 (l0.length : Int) x13_1 = some r) ∧ Azz (kq ≤ k) ∧ Drawn0 w w')
 case atStart => exact ⟨(0), eqS, H', ⟨Nat.le_refl _⟩, d0S⟩
 case round =>
  clear H'
  try clear c1
  try clear p2
  try clear c3
  try clear c3b0
  try clear c3b1
  try clear c3b2
  obtain ⟨x13_1, rfl, HA, HK1, ⟨m1, rfl⟩⟩ := hrel
  cases gk with
  | zero => exact absurd HA.out (by simp [slices_Equal_int_int.l0])
  | succ k1 =>
   have H := HA.out
   clear HA
   simp only [slices_Equal_int_int.l0] at H
   by_cases c4 : x13_1 < (l0.length : Int)
   rotate_left
   ·rw [if_neg c4] at H
    have c4b0 := dF_ c4
    clear c4
    obtain rfl := sI H
    go_wp2
    repeat (go_quiet (fail); try go_wp2)
    go_ret
    exact ⟨by first | rfl | (simp; done) | (simp [*]; done), d0S⟩
   rw [if_pos c4] at H
   have c4b0 := dT_ c4
   clear c4
   by_cases c5 : 0 ≤ x13_1
   rotate_left
   ·rw [if_neg c5] at H
    exact absurd H (by simp)
   rw [if_pos c5] at H
   have c5b0 := dT_ c5
   clear c5
   by_cases c6 : x13_1 < (l0.length : Int)
   rotate_left
   ·rw [if_neg c6] at H
    exact absurd H (by simp)
   rw [if_pos c6] at H
   have c6b0 := dT_ c6
   clear c6
   by_cases c7 : x13_1 < (l1.length : Int)
   rotate_left
   ·rw [if_neg c7] at H
    exact absurd H (by simp)
   rw [if_pos c7] at H
   have c7b0 := dT_ c7
   clear c7
   by_cases c8 : (rd l0 x13_1) = (rd l1 x13_1)
   ·rw [if_pos c8] at H
    obtain ⟨c8b0, c8b1⟩ := be_ c8
    clear c8
    have H' := Azz.mk H
    clear H
    have p581 : 0 ≤ (x13_1 : Int) := of_decide_eq_true (by first | (with_reducible assumption) | assumption)
    have q581 : x13_1 < (l0.length : Int) := of_decide_eq_true (by first | (with_reducible assumption) | assumption)
    obtain ⟨ad581, e581, hx581_0⟩ := Kd.at_int HR0.out x13_1 p581 q581
    cases e581
    replace p581 := eq_true p581
    replace q581 := eq_true q581
    have p582 : 0 ≤ (x13_1 : Int) := of_decide_eq_true (by first | (with_reducible assumption) | assumption)
    have q582 : x13_1 < (l1.length : Int) := of_decide_eq_true (by first | (with_reducible assumption) | assumption)
    obtain ⟨ad582, e582, hx582_0⟩ := Kd.at_int HR1.out x13_1 p582 q582
    cases e582
    replace p582 := eq_true p582
    replace q582 := eq_true q582
    go_wp2
    repeat (go_quiet (fail); try go_wp2)
    go_roundg k1
    case measure => have := HK1.out; omega
    case rel => exact ⟨(wrap64 (x13_1 + 1)), eqS, H', ⟨by have := HK1.out; omega⟩, d0S⟩
   rw [if_neg c8] at H
   obtain ⟨c8b0, c8b1⟩ := bn_ c8
   obtain rfl := sI H
   have p581 : 0 ≤ (x13_1 : Int) := of_decide_eq_true (by first | (with_reducible assumption) | assumption)
   have q581 : x13_1 < (l0.length : Int) := of_decide_eq_true (by first | (with_reducible assumption) | assumption)
   obtain ⟨ad581, e581, hx581_0⟩ := Kd.at_int HR0.out x13_1 p581 q581
   cases e581
   replace p581 := eq_true p581
   replace q581 := eq_true q581
   have p582 : 0 ≤ (x13_1 : Int) := of_decide_eq_true (by first | (with_reducible assumption) | assumption)
   have q582 : x13_1 < (l1.length : Int) := of_decide_eq_true (by first | (with_reducible assumption) | assumption)
   obtain ⟨ad582, e582, hx582_0⟩ := Kd.at_int HR1.out x13_1 p582 q582
   cases e582
   replace p582 := eq_true p582
   replace q582 := eq_true q582
   go_wp2
   repeat (go_quiet (fail); try go_wp2)
   go_ret
   exact ⟨by first | rfl | (simp; done) | (simp [*]; done), d0S⟩
end Go.Proofs.YtngmipfodjgmmaaGreatDoor.P
end
section
namespace Go.Proofs.YtngmipfodjgmmaaGreatDoor.Pure
open Go Go.RowKit Wa Wb Wc
def rkey (r : P.S80) : Int × Int × Int := (r.f0, r.f1, r.f3)
def alikeU (x y : P.S39) : Bool := decide (x.f1 = 1 ∧ y.f1 = 1 ∧ x.f4.toList = y.f4.toList ∧ x.f5.map rkey = y.f5.map rkey)
theorem alikeU_iff {x y : P.S39} : alikeU x y = true ↔ x.f1 = 1 ∧ y.f1 = 1 ∧ x.f4.toList = y.f4.toList ∧ x.f5.map rkey = y.f5.map rkey := decide_eq_true_iff
theorem alikeU_symm {x y : P.S39} (h : alikeU x y = true) : alikeU y x = true := by
 rw [alikeU_iff] at h ⊢
 exact ⟨h.2.1, h.1, h.2.2.1.symm, h.2.2.2.symm⟩
theorem alikeU_trans {x y z : P.S39} (h : alikeU x y = true) (k : alikeU y z = true) : alikeU x z = true := by
 rw [alikeU_iff] at h k ⊢
 exact ⟨h.1, k.2.1, h.2.2.1.trans k.2.2.1, h.2.2.2.trans k.2.2.2⟩
theorem alikeU_length {x y : P.S39} (h : alikeU x y = true) : x.f5.length = y.f5.length := by
 have := congrArg List.length (alikeU_iff.1 h).2.2.2
 simpa using this
theorem equal_ev (a b : List Int) (hl : a.length ≤ 100000) : Ev (fun k => P.slices_Equal_int_int.f k a b) (decide (a = b)) := by
 unfold P.slices_Equal_int_int.f
 by_cases h : a.length = b.length
 rotate_left
 ·refine Ev.congr (fun k => if_neg (by omega)) ?_
  rw [dF_ (fun e => h (by rw [e]))]
  exact Ev.now _
 have go : ∀ (d i : Nat), i + d = a.length → Ev (fun k => P.slices_Equal_int_int.l0 k a b (a.length : Int) (i : Int)) (decide (a.drop i = b.drop i)) := by
  intro d
  induction d with
  | zero =>
   intro i hi
   refine Ev.step (fun k => P.slices_Equal_int_int.l0.eq_2 _ _ _ _ _) (Ev.congr (fun k => if_neg (by omega)) ?_)
   rw [List.drop_of_length_le (by omega), List.drop_of_length_le (by omega)]
   exact Ev.now _
  | succ d ih =>
   intro i hi
   have e1 : wrap64 ((i : Int) + 1) = ((i + 1 : Nat) : Int) := by rw [wrap64_small _ (by omega) (by omega)]; rfl
   have hx1 : i < a.length := by omega
   have hy1 : i < b.length := by omega
   have e2 : rd a (i : Int) = a[i] := rd_get _ _ _ hx1
   have e3 : rd b (i : Int) = b[i] := rd_get _ _ _ hy1
   refine Ev.step (fun k => P.slices_Equal_int_int.l0.eq_2 _ _ _ _ _) (Ev.congr (fun k => if_pos (by omega)) (Ev.congr (fun k => if_pos (by omega)) (Ev.congr (fun k => if_pos (by omega)) (Ev.congr (fun k => if_pos (by omega)) ?_))))
   rw [e1, e2, e3, List.drop_eq_getElem_cons hx1, List.drop_eq_getElem_cons hy1]
   by_cases c : a[i] = b[i]
   ·refine Ev.congr (fun k => if_pos c) ?_
    rw [c, decide_eq_decide.2 (⟨fun h => (List.cons.inj h).2, fun h => by rw [h]⟩ : (b[i] :: a.drop (i + 1) = b[i] :: b.drop (i + 1)) ↔ a.drop (i + 1) = b.drop (i + 1))]
    exact ih (i + 1) (by omega)
   refine Ev.congr (fun k => if_neg c) ?_
   rw [dF_ (fun h => c (List.cons.inj h).1)]
   exact Ev.now _
 exact Ev.congr (fun k => if_pos (by omega)) (go a.length 0 (by omega))
end Go.Proofs.YtngmipfodjgmmaaGreatDoor.Pure
end
section
namespace Go.Proofs.YtngmipfodjgmmaaGreatDoor.Pure
open Go Go.RowKit Go.Lib Go.Shelf Wa Wb Wc
theorem alike_callsG (w : World) (x y : P.S39) (A B : Option Addr) (c d : Nat) (hx : Kd.C P.k80 w A x.f5.length x.f5) (hc : x.f5.length ≤ c) (hy : Kd.C P.k80 w B y.f5.length y.f5) (hd : y.f5.length ≤ d) (hl : x.f5.length ≤ 4398046510976) :
 Calls Tryz.prog 17 #[.agg #[.string x.f0, .int .i64 x.f1, .bool x.f2, .int .i64 x.f3, .string x.f4, .slice A x.f5.length c], .agg #[.string y.f0, .int .i64 y.f1, .bool y.f2, .int .i64 y.f3, .string y.f4, .slice B y.f5.length d]] w fun e w' => e = .returned (.bool (alikeU x y)) ∧ Below w.heap.size w w' := by
 have HX := Azz.mk hx
 have HY := Azz.mk hy
 have HAl := Azz.mk (alikeU_iff (x := x) (y := y))
 obtain ⟨al, hal⟩ : ∃ b, alikeU x y = b := ⟨_, rfl⟩
 rw [hal] at HAl ⊢
 clear hal hx hy hc hd
 obtain ⟨xn, xk, xb, xa, xd, xr⟩ := x
 obtain ⟨yn, yk, yb, ya, yd, yr⟩ := y
 dsimp only at HX HY HAl hl ⊢
 have HB := Azz.mk (bAA (bAA (Below.refl w.heap.size w) (.cells #[.string xn, .int .i64 xk, .bool xb, .int .i64 xa, .string xd, .slice A xr.length c] 39)) (.cells #[.string yn, .int .i64 yk, .bool yb, .int .i64 ya, .string yd, .slice B yr.length d] 39))
 have hX := kAA (blk_new w (.cells #[.string xn, .int .i64 xk, .bool xb, .int .i64 xa, .string xd, .slice A xr.length c] 39)) (.cells #[.string yn, .int .i64 yk, .bool yb, .int .i64 ya, .string yd, .slice B yr.length d] 39)
 have hY := blk_new (w.alloc (.cells #[.string xn, .int .i64 xk, .bool xb, .int .i64 xa, .string xd, .slice A xr.length c] 39)) (.cells #[.string yn, .int .i64 yk, .bool yb, .int .i64 ya, .string yd, .slice B yr.length d] 39)
 rw [World.size_alloc] at hY
 have HXb := Azz.mk hX
 have HYb := Azz.mk hY
 have x1 := (kCC hX 1).trans rfl
 have x4 := (kCC hX 4).trans rfl
 have x5 := (kCC hX 5).trans rfl
 have y1 := (kCC hY 1).trans rfl
 have y4 := (kCC hY 4).trans rfl
 have y5 := (kCC hY 5).trans rfl
 have no : ∀ {W : World}, ¬ (xk = 1 ∧ yk = 1 ∧ xd.toList = yd.toList ∧ xr.map rkey = yr.map rkey) → Below w.heap.size w W → Ending.returned (.bool false) = Ending.returned (.bool al) ∧ Below w.heap.size w W := fun h hb => by
  cases al with
  | false => exact ⟨rfl, hb⟩
  | true => exact absurd (HAl.out.1 rfl) h
 have HNo := Azz.mk @no
 clear no hX hY
 go_enter Tryz.func17, Tryz.ntmps17
 by_cases c1 : xk = 1
 rotate_left
 ·have b1 : (xk != 1) = true := bN_ c1
  have HN := Azz.mk (show ¬ (xk = 1 ∧ yk = 1 ∧ xd.toList = yd.toList ∧ xr.map rkey = yr.map rkey) from fun h => c1 h.1)
  clear c1
  go_wp2
  go_ret
  exact HNo.out HN.out HB.out
 have b1 : (xk != 1) = false := by simp [c1]
 by_cases c2 : yk = 1
 rotate_left
 ·have b2 : (yk != 1) = true := bN_ c2
  have HN := Azz.mk (show ¬ (xk = 1 ∧ yk = 1 ∧ xd.toList = yd.toList ∧ xr.map rkey = yr.map rkey) from fun h => c2 h.2.1)
  clear c1 c2
  go_wp2
  go_ret
  exact HNo.out HN.out HB.out
 have b2 : (yk != 1) = false := by simp [c2]
 by_cases c3 : xd.toList = yd.toList
 rotate_left
 ·have b3 : (xd.toList == yd.toList) = false := bF_ c3
  have HN := Azz.mk (show ¬ (xk = 1 ∧ yk = 1 ∧ xd.toList = yd.toList ∧ xr.map rkey = yr.map rkey) from fun h => c3 h.2.2.1)
  clear c1 c2 c3
  go_wp2
  go_ret
  exact HNo.out HN.out HB.out
 have b3 : (xd.toList == yd.toList) = true := by simp [c3]
 by_cases c4 : xr.length = yr.length
 rotate_left
 ·have b4 : ((xr.length : Int) != yr.length) = true := bN_ (by omega)
  have HN := Azz.mk (show ¬ (xk = 1 ∧ yk = 1 ∧ xd.toList = yd.toList ∧ xr.map rkey = yr.map rkey) from fun h => c4 (by have := congrArg List.length h.2.2.2; simpa using this))
  clear c1 c2 c3 c4
  go_wp2
  go_ret
  exact HNo.out HN.out HB.out
 have b4 : ((xr.length : Int) != yr.length) = false := by simp [c4]
 have H1 := Azz.mk (And.intro c1 (And.intro c2 (And.intro c3 c4)))
 clear c1 c2 c3 c4
 go_wp2
 clear x1 x4 x5 y1 y4 y5 b1 b2 b3 b4
 generalize (w.alloc (.cells #[.string xn, .int .i64 xk, .bool xb, .int .i64 xa, .string xd, .slice A xr.length c] 39)).alloc (.cells #[.string yn, .int .i64 yk, .bool yb, .int .i64 ya, .string yd, .slice B yr.length d] 39) = V at HB HXb HYb ⊢
 go_loopw [35] (fun v wr => ∃ i : Nat, i ≤ xr.length ∧ v = .int .i64 i ∧ Azz ((xr.take i).map rkey = (yr.take i).map rkey) ∧ Azz (Below V.heap.size V wr)) (fun v _ => xr.length - (RowKit.intOf v).toNat)
 case atStart => exact ⟨0, Nat.zero_le _, rfl, ⟨rfl⟩, ⟨Below.refl _ _⟩⟩
 case round =>
  obtain ⟨i, hi, rfl, HM, HBr⟩ := hrel
  have HB2 := Azz.mk (bTT HB.out HBr.out)
  have xc := (kCC (kBB HXb.out HBr.out) 5).trans rfl
  by_cases hlt : i < xr.length
  rotate_left
  ·obtain rfl : i = xr.length := by omega
   have HT : Azz (al = true) := ⟨HAl.out.2 ⟨H1.out.1, H1.out.2.1, H1.out.2.2.1, by have h := HM.out; rw [List.take_of_length_le (Nat.le_refl _), List.take_of_length_le (by have := H1.out.2.2.2; omega)] at h; exact h⟩⟩
   obtain rfl := HT.out
   go_wp2
   go_ret
   exact ⟨rfl, HB2.out⟩
  have hly : i < yr.length := by have := H1.out; omega
  obtain ⟨ad, e, s0, s1, s2, s3⟩ := P.at_T80 (Kd.C_below HX.out HB2.out) i (by omega) (by omega)
  cases e
  obtain ⟨ae, e, t0, t1, t2, t3⟩ := P.at_T80 (Kd.C_below HY.out HB2.out) i (by omega) (by omega)
  cases e
  rw [Int.toNat_natCast] at s0 s1 s2 s3 t0 t1 t2 t3
  have ex : P.rd_T80 xr (i : Int) = xr[i] := rd_get _ _ _ hlt
  have ey : P.rd_T80 yr (i : Int) = yr[i] := rd_get _ _ _ hly
  rw [ex] at s0 s1 s2 s3
  rw [ey] at t0 t1 t2 t3
  obtain ⟨r, hr⟩ : ∃ r, xr[i] = r := ⟨_, rfl⟩
  obtain ⟨q, hq⟩ : ∃ r, yr[i] = r := ⟨_, rfl⟩
  have HOff : Azz (rkey r ≠ rkey q → ¬ (xk = 1 ∧ yk = 1 ∧ xd.toList = yd.toList ∧ xr.map rkey = yr.map rkey)) := ⟨fun h hh => h (by
   have e := congrArg (fun l => l[i]?) hh.2.2.2
   simp only [List.getElem?_map, List.getElem?_eq_getElem hlt, List.getElem?_eq_getElem hly, Option.map_some, Option.some.injEq] at e
   rw [hr, hq] at e
   exact e)⟩
  have HOn : Azz (rkey r = rkey q → (xr.take (i + 1)).map rkey = (yr.take (i + 1)).map rkey) := ⟨fun h => by
   rw [List.take_succ_eq_append_getElem hlt, List.take_succ_eq_append_getElem hly, List.map_append, List.map_append, HM.out, hr, hq]
   show _ ++ [rkey r] = _ ++ [rkey q]
   rw [h]⟩
  rw [hr] at s0 s1 s2 s3
  rw [hq] at t0 t1 t2 t3
  obtain ⟨r0, r1, r2, r3⟩ := r
  obtain ⟨q0, q1, q2, q3⟩ := q
  dsimp only at s0 s1 s2 s3 t0 t1 t2 t3
  have hb1 := bAA (Below.refl wr.heap.size wr) (.cells #[.int .i64 r0, .int .i64 r1, .int .i64 r2, .int .i64 r3] 80)
  have yc := kp1 ((kCC (kBB HYb.out HBr.out) 5).trans rfl) hb1
  replace t0 := kp1 t0 hb1
  replace t1 := kp1 t1 hb1
  replace t2 := kp1 t2 hb1
  replace t3 := kp1 t3 hb1
  have hR := kAA (blk_new wr (.cells #[.int .i64 r0, .int .i64 r1, .int .i64 r2, .int .i64 r3] 80)) (.cells #[.int .i64 q0, .int .i64 q1, .int .i64 q2, .int .i64 q3] 80)
  have hQ := blk_new (wr.alloc (.cells #[.int .i64 r0, .int .i64 r1, .int .i64 r2, .int .i64 r3] 80)) (.cells #[.int .i64 q0, .int .i64 q1, .int .i64 q2, .int .i64 q3] 80)
  rw [World.size_alloc] at hQ
  obtain ⟨u0, u1, u2, u3⟩ := cl4 hR
  obtain ⟨z0, z1, z2, z3⟩ := cl4 hQ
  have HBn := Azz.mk (bAA (bAA HBr.out (.cells #[.int .i64 r0, .int .i64 r1, .int .i64 r2, .int .i64 r3] 80)) (.cells #[.int .i64 q0, .int .i64 q1, .int .i64 q2, .int .i64 q3] 80))
  have i0 : (0 : Int) ≤ (i : Int) := by omega
  have i1 : (i : Int) < xr.length := by omega
  have i2 : (i : Int) < yr.length := by omega
  clear ex ey hr hq hR hQ hb1
  by_cases d1 : r0 = q0
  ·have e1 : (r0 != q0) = false := by simp [d1]
   by_cases d2 : r1 = q1
   ·have e2 : (r1 != q1) = false := by simp [d2]
    by_cases d3 : r3 = q3
    ·have e3 : (r3 != q3) = false := by simp [d3]
     have HN := Azz.mk (HOn.out (by unfold rkey; rw [d1, d2, d3]))
     clear d1 d2 d3
     go_wp2
     go_roundw
     case rel => exact ⟨i + 1, by omega, by go_num, HN, HBn⟩
     case measure => simp [RowKit.intOf]; omega
    have e3 : (r3 != q3) = true := bN_ d3
    have HN := Azz.mk (HOff.out (fun h => d3 (congrArg (·.2.2) h)))
    clear d1 d2 d3
    go_wp2
    go_ret
    exact HNo.out HN.out (bTT HB.out HBn.out)
   have e2 : (r1 != q1) = true := bN_ d2
   have HN := Azz.mk (HOff.out (fun h => d2 (congrArg (·.2.1) h)))
   clear d1 d2
   go_wp2
   go_ret
   exact HNo.out HN.out (bTT HB.out HBn.out)
  have e1 : (r0 != q0) = true := bN_ d1
  have HN := Azz.mk (HOff.out (fun h => d1 (congrArg (·.1) h)))
  clear d1
  go_wp2
  go_ret
  exact HNo.out HN.out (bTT HB.out HBn.out)
end Go.Proofs.YtngmipfodjgmmaaGreatDoor.Pure
end
section
namespace Go.Proofs.YtngmipfodjgmmaaGreatDoor.Pure
open Go Go.RowKit Go.Lib Go.Shelf Wa Wb Wc Go.Proofs.YtngmipfodjgmmaaGreatDoor.Reach
open P (Glob UA nd ndI NdOk Rt root_at)
theorem int_one {W : World} {g t : Nat} {z : Int} (h : W.heap[g]? = some (.cells #[.int .i64 z] t (0, 0))) : IA W (some ⟨g, 0, none⟩) [z] :=
 C_blkH (d := Kd.int .i64) (xs := [z]) (inner := ([] : List Value) ++ [.int .i64 z]) h ((Reps.none ((Kd.int .i64).K W) 1).snoc (by simp [Kd.int, Kd.scalar]) rfl) (by simp [maxLen])
def rootsL (us : List P.S39) (en : Int) (i : Nat) : List Int := ((List.range i).filter fun (j : Nat) => decide ((j : Int) = en ∨ (P.rd_T39 us (j : Int)).f2 = true)).map fun (j : Nat) => (j : Int)
theorem rootsL_len (us : List P.S39) (en : Int) (i : Nat) : (rootsL us en i).length ≤ i := by
 unfold rootsL
 rw [List.length_map]
 have := List.length_filter_le (fun (j : Nat) => decide ((j : Int) = en ∨ (P.rd_T39 us (j : Int)).f2 = true)) (List.range i)
 rw [List.length_range] at this
 exact this
def RootsR (us : List P.S39) (en : Int) (l : List Int) (er : Int) : Prop := (¬ (UOk us ∧ 0 ≤ en ∧ en < us.length) ∧ l = [] ∧ er = 1) ∨ ((UOk us ∧ 0 ≤ en ∧ en < us.length) ∧ l = rootsL us en us.length ∧ er = 0)
theorem RootsR.one {us en l er l' er'} (h : RootsR us en l er) (k : RootsR us en l' er') : l = l' ∧ er = er' := by
 rcases h with ⟨a, rfl, rfl⟩ | ⟨a, rfl, rfl⟩ <;> rcases k with ⟨b, rfl, rfl⟩ | ⟨b, rfl, rfl⟩
 ·exact ⟨rfl, rfl⟩
 ·exact absurd b a
 ·exact absurd a b
 exact ⟨rfl, rfl⟩
theorem RootsR.len {us en l er} (h : RootsR us en l er) (hl : us.length ≤ 300) : l.length ≤ 100000 := by
 rcases h with ⟨_, rfl, _⟩ | ⟨_, rfl, _⟩
 ·simp
 have := rootsL_len us en us.length
 omega
end Go.Proofs.YtngmipfodjgmmaaGreatDoor.Pure
end
section
namespace Go.Proofs.YtngmipfodjgmmaaGreatDoor.P
open Go.RowKit Wa Wb Wc
attribute [local go_sem] max2_int min2_int max_two min_two max_three min_three max_four min_four
theorem eqA49 (d : Nat) (w : World) (x0 y0 : Int) (x1 y1 : Int) (x2 y2 : Int) :
 (Op.equalIn (d + 2) 49 (.agg #[.int .i64 x0, .int .i64 x1, .int .i64 x2]) (.agg #[.int .i64 y0, .int .i64 y1, .int .i64 y2])).run Tryz.prog w = .ok (x0 == y0 && (x1 == y1 && (x2 == y2))) w := by
 refine eqA_of Tryz.underlying49 (by kernel_rfl) ?_
 refine eqf_cons (by rfl) (by go_simp; rfl) (by go_simp; rfl) (by go_simp) ?_
 refine eqf_cons (by rfl) (by go_simp; rfl) (by go_simp; rfl) (by go_simp) ?_
 exact eqf_last (by rfl) (by go_simp; rfl) (by go_simp; rfl) (by go_simp)
attribute [local go_sem high] eqA49
end Go.Proofs.YtngmipfodjgmmaaGreatDoor.P
end
