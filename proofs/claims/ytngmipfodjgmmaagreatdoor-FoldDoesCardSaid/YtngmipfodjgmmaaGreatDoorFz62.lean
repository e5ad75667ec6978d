/- Walks and plain laws of this claim, a part. -/
import Derived.Test.YtngmipfodjgmmaaGreatDoorFz60
import Derived.Test.YtngmipfodjgmmaaGreatDoorFz42
set_option linter.unusedVariables false
set_option linter.unusedSimpArgs false
section
namespace Go.Proofs.YtngmipfodjgmmaaGreatDoor.P
open Go.RowKit Wa Wb Wc
attribute [local go_sem] max2_int min2_int max_two min_two max_three min_three max_four min_four
mutual
def part_Is.j0 : Nat → Bool → ByteArray → Int → Bool → Int → ByteArray → List (S98) → Option (Bool)
 | 0, _, _, _, _, _, _, _ => none
 | k + 1, x30, x183000, x183001, x183002, x183003, x183004, x183005 => if x30 = true then (some false) else (if (x183004.size : Int) > 4096 then (part_Is.j1 k true x183000 x183001 x183002 x183003 x183004 x183005) else (part_Is.j1 k (decide ((x183005.length : Int) > 64)) x183000 x183001 x183002 x183003 x183004 x183005))
def part_Is.j1 : Nat → Bool → ByteArray → Int → Bool → Int → ByteArray → List (S98) → Option (Bool)
 | 0, _, _, _, _, _, _, _ => none
 | k + 1, x40, x183000, x183001, x183002, x183003, x183004, x183005 => if x40 = true then (some false) else (part_Is.l0 k 0 x183005 (x183005.length : Int) 0 x183000 x183001 x183002 x183003 x183004 x183005)
def part_Is.l0 : Nat → Int → List (S98) → Int → Int → ByteArray → Int → Bool → Int → ByteArray → List (S98) → Option (Bool)
 | 0, _, _, _, _, _, _, _, _, _, _ => none
 | k + 1, x3, x42, x43, x44, x183000, x183001, x183002, x183003, x183004, x183005 => if x44 < x43 then (if 0 ≤ x44 then (if x44 < (x42.length : Int) then (if ((rd_T98 x42 x44).f1) = 1 then (part_Is.j3 k x3 8 x42 x43 x44 x183000 x183001 x183002 x183003 x183004 x183005 ((rd_T98 x42 x44).f0) ((rd_T98 x42 x44).f1) ((rd_T98 x42 x44).f2) ((rd_T98 x42 x44).f3)) else (part_Is.j3 k x3 4 x42 x43 x44 x183000 x183001 x183002 x183003 x183004 x183005 ((rd_T98 x42 x44).f0) ((rd_T98 x42 x44).f1) ((rd_T98 x42 x44).f2) ((rd_T98 x42 x44).f3))) else (none)) else (none)) else (some true)
def part_Is.j3 : Nat → Int → Int → List (S98) → Int → Int → ByteArray → Int → Bool → Int → ByteArray → List (S98) → Int → Int → Int → Int → Option (Bool)
 | 0, _, _, _, _, _, _, _, _, _, _, _, _, _, _, _ => none
 | k + 1, x3, x6, x42, x43, x44, x183000, x183001, x183002, x183003, x183004, x183005, x186000, x186001, x186002, x186003 => if x186000 < x3 then (part_Is.j4 k x6 x42 x43 x44 true x183000 x183001 x183002 x183003 x183004 x183005 x186000 x186001 x186002 x186003) else (if x186000 > (wrap64 ((x183004.size : Int) - x6)) then (part_Is.j4 k x6 x42 x43 x44 true x183000 x183001 x183002 x183003 x183004 x183005 x186000 x186001 x186002 x186003) else (part_Is.j4 k x6 x42 x43 x44 (decide (x186002 < 0)) x183000 x183001 x183002 x183003 x183004 x183005 x186000 x186001 x186002 x186003))
def part_Is.j4 : Nat → Int → List (S98) → Int → Int → Bool → ByteArray → Int → Bool → Int → ByteArray → List (S98) → Int → Int → Int → Int → Option (Bool)
 | 0, _, _, _, _, _, _, _, _, _, _, _, _, _, _, _ => none
 | k + 1, x6, x42, x43, x44, x69, x183000, x183001, x183002, x183003, x183004, x183005, x186000, x186001, x186002, x186003 => if x69 = true then (some false) else (if 0 ≤ x186000 then (if x186000 ≤ (wrap64 (x186000 + x6)) then (if (wrap64 (x186000 + x6)) ≤ (x183004.size : Int) then ((part_over.f k x183001 x186000 x186001 x186002 x186003 (x183004.extract (x186000 : Int).toNat ((wrap64 (x186000 + x6)) : Int).toNat)).bind fun t186 => (if t186 = true then (part_Is.l0 k (wrap64 (x186000 + x6)) x42 x43 (wrap64 (x44 + 1)) x183000 x183001 x183002 x183003 x183004 x183005) else (some false))) else (none)) else (none)) else (none))
end
def part_Is.f (k : Nat) (a0_0 : ByteArray) (a0_1 : Int) (a0_2 : Bool) (a0_3 : Int) (a0_4 : ByteArray) (l0_5 : List (S98)) : Option (Bool) := (local_IsName.f k a0_0).bind fun t183 => (if t183 = true then (if a0_1 < 1 then (part_Is.j0 k true a0_0 a0_1 a0_2 a0_3 a0_4 l0_5) else (if a0_1 > 3 then (part_Is.j0 k true a0_0 a0_1 a0_2 a0_3 a0_4 l0_5) else (if a0_3 < 0 then (part_Is.j0 k true a0_0 a0_1 a0_2 a0_3 a0_4 l0_5) else (part_Is.j0 k (decide (a0_3 > 12)) a0_0 a0_1 a0_2 a0_3 a0_4 l0_5)))) else (part_Is.j0 k true a0_0 a0_1 a0_2 a0_3 a0_4 l0_5))
theorem part_Is.mono_l : ∀ k, (∀ y0 y1 y2 y3 y4 y5 y6, LeO (part_Is.j0 k y0 y1 y2 y3 y4 y5 y6) (part_Is.j0 (k + 1) y0 y1 y2 y3 y4 y5 y6)) ∧ (∀ y0 y1 y2 y3 y4 y5 y6, LeO (part_Is.j1 k y0 y1 y2 y3 y4 y5 y6) (part_Is.j1 (k + 1) y0 y1 y2 y3 y4 y5 y6)) ∧ (∀ y0 y1 y2 y3 y4 y5 y6 y7 y8 y9, LeO (part_Is.l0 k y0 y1 y2 y3 y4 y5 y6 y7 y8 y9) (part_Is.l0 (k + 1) y0 y1 y2 y3 y4 y5 y6 y7 y8 y9)) ∧ (∀ y0 y1 y2 y3 y4 y5 y6 y7 y8 y9 y10 y11 y12 y13 y14, LeO (part_Is.j3 k y0 y1 y2 y3 y4 y5 y6 y7 y8 y9 y10 y11 y12 y13 y14) (part_Is.j3 (k + 1) y0 y1 y2 y3 y4 y5 y6 y7 y8 y9 y10 y11 y12 y13 y14)) ∧ (∀ y0 y1 y2 y3 y4 y5 y6 y7 y8 y9 y10 y11 y12 y13 y14, LeO (part_Is.j4 k y0 y1 y2 y3 y4 y5 y6 y7 y8 y9 y10 y11 y12 y13 y14) (part_Is.j4 (k + 1) y0 y1 y2 y3 y4 y5 y6 y7 y8 y9 y10 y11 y12 y13 y14))
 | 0 => ⟨fun _ _ _ _ _ _ _ r h => by simp [part_Is.j0] at h, fun _ _ _ _ _ _ _ r h => by simp [part_Is.j1] at h, fun _ _ _ _ _ _ _ _ _ _ r h => by simp [part_Is.l0] at h, fun _ _ _ _ _ _ _ _ _ _ _ _ _ _ _ r h => by simp [part_Is.j3] at h, fun _ _ _ _ _ _ _ _ _ _ _ _ _ _ _ r h => by simp [part_Is.j4] at h⟩
 | k + 1 => by
  obtain ⟨ih0, ih1, ih2, ih3, ih4⟩ := part_Is.mono_l k
  refine ⟨?_, ?_, ?_, ?_, ?_⟩
  ·intro y0 y1 y2 y3 y4 y5 y6
   unfold part_Is.j0
   repeat' first
   | (with_reducible exact ih0 _ _ _ _ _ _ _)
   | (with_reducible exact ih1 _ _ _ _ _ _ _)
   | (with_reducible exact ih2 _ _ _ _ _ _ _ _ _ _)
   | (with_reducible exact ih3 _ _ _ _ _ _ _ _ _ _ _ _ _ _ _)
   | (with_reducible exact ih4 _ _ _ _ _ _ _ _ _ _ _ _ _ _ _)
   | (with_reducible exact local_IsName.mono _ _)
   | (with_reducible exact part_over.mono _ _ _ _ _ _ _)
   | (with_reducible exact LeO.refl _)
   | (with_reducible exact LeO.none _)
   | (with_reducible refine LeO.ite ?_ ?_)
   | (with_reducible refine LeO.bind ?_ (fun _ => ?_))
  ·intro y0 y1 y2 y3 y4 y5 y6
   unfold part_Is.j1
   repeat' first
   | (with_reducible exact ih0 _ _ _ _ _ _ _)
   | (with_reducible exact ih1 _ _ _ _ _ _ _)
   | (with_reducible exact ih2 _ _ _ _ _ _ _ _ _ _)
   | (with_reducible exact ih3 _ _ _ _ _ _ _ _ _ _ _ _ _ _ _)
   | (with_reducible exact ih4 _ _ _ _ _ _ _ _ _ _ _ _ _ _ _)
   | (with_reducible exact local_IsName.mono _ _)
   | (with_reducible exact part_over.mono _ _ _ _ _ _ _)
   | (with_reducible exact LeO.refl _)
   | (with_reducible exact LeO.none _)
   | (with_reducible refine LeO.ite ?_ ?_)
   | (with_reducible refine LeO.bind ?_ (fun _ => ?_))
  ·intro y0 y1 y2 y3 y4 y5 y6 y7 y8 y9
   unfold part_Is.l0
   repeat' first
   | (with_reducible exact ih0 _ _ _ _ _ _ _)
   | (with_reducible exact ih1 _ _ _ _ _ _ _)
   | (with_reducible exact ih2 _ _ _ _ _ _ _ _ _ _)
   | (with_reducible exact ih3 _ _ _ _ _ _ _ _ _ _ _ _ _ _ _)
   | (with_reducible exact ih4 _ _ _ _ _ _ _ _ _ _ _ _ _ _ _)
   | (with_reducible exact local_IsName.mono _ _)
   | (with_reducible exact part_over.mono _ _ _ _ _ _ _)
   | (with_reducible exact LeO.refl _)
   | (with_reducible exact LeO.none _)
   | (with_reducible refine LeO.ite ?_ ?_)
   | (with_reducible refine LeO.bind ?_ (fun _ => ?_))
  ·intro y0 y1 y2 y3 y4 y5 y6 y7 y8 y9 y10 y11 y12 y13 y14
   unfold part_Is.j3
   repeat' first
   | (with_reducible exact ih0 _ _ _ _ _ _ _)
   | (with_reducible exact ih1 _ _ _ _ _ _ _)
   | (with_reducible exact ih2 _ _ _ _ _ _ _ _ _ _)
   | (with_reducible exact ih3 _ _ _ _ _ _ _ _ _ _ _ _ _ _ _)
   | (with_reducible exact ih4 _ _ _ _ _ _ _ _ _ _ _ _ _ _ _)
   | (with_reducible exact local_IsName.mono _ _)
   | (with_reducible exact part_over.mono _ _ _ _ _ _ _)
   | (with_reducible exact LeO.refl _)
   | (with_reducible exact LeO.none _)
   | (with_reducible refine LeO.ite ?_ ?_)
   | (with_reducible refine LeO.bind ?_ (fun _ => ?_))
  intro y0 y1 y2 y3 y4 y5 y6 y7 y8 y9 y10 y11 y12 y13 y14
  unfold part_Is.j4
  repeat' first
  | (with_reducible exact ih0 _ _ _ _ _ _ _)
  | (with_reducible exact ih1 _ _ _ _ _ _ _)
  | (with_reducible exact ih2 _ _ _ _ _ _ _ _ _ _)
  | (with_reducible exact ih3 _ _ _ _ _ _ _ _ _ _ _ _ _ _ _)
  | (with_reducible exact ih4 _ _ _ _ _ _ _ _ _ _ _ _ _ _ _)
  | (with_reducible exact local_IsName.mono _ _)
  | (with_reducible exact part_over.mono _ _ _ _ _ _ _)
  | (with_reducible exact LeO.refl _)
  | (with_reducible exact LeO.none _)
  | (with_reducible refine LeO.ite ?_ ?_)
  | (with_reducible refine LeO.bind ?_ (fun _ => ?_))
theorem part_Is.mono : ∀ a0 a1 a2 a3 a4 a5 k, LeO (part_Is.f k a0 a1 a2 a3 a4 a5) (part_Is.f (k + 1) a0 a1 a2 a3 a4 a5) := by
 intro a0 a1 a2 a3 a4 a5 k
 obtain ⟨ih0, ih1, ih2, ih3, ih4⟩ := part_Is.mono_l k
 unfold part_Is.f
 repeat' first
  | (with_reducible exact ih0 _ _ _ _ _ _ _)
  | (with_reducible exact ih1 _ _ _ _ _ _ _)
  | (with_reducible exact ih2 _ _ _ _ _ _ _ _ _ _)
  | (with_reducible exact ih3 _ _ _ _ _ _ _ _ _ _ _ _ _ _ _)
  | (with_reducible exact ih4 _ _ _ _ _ _ _ _ _ _ _ _ _ _ _)
  | (with_reducible exact local_IsName.mono _ _)
  | (with_reducible exact part_over.mono _ _ _ _ _ _ _)
  | (with_reducible exact LeO.refl _)
  | (with_reducible exact LeO.none _)
  | (with_reducible refine LeO.ite ?_ ?_)
  | (with_reducible refine LeO.bind ?_ (fun _ => ?_))
end Go.Proofs.YtngmipfodjgmmaaGreatDoor.P
end
section
namespace Go.Proofs.YtngmipfodjgmmaaGreatDoor.Pure
open Go Go.RowKit Wa Wb Wc
theorem Ends.bindc {α β : Type} {c : Option α} {f : Nat → α → Option β} {a : α} (h : c = some a) (k : Ends (fun n => f n a)) : Ends (fun n => c.bind (f n)) := by
 subst h
 exact k
theorem digit_ten (r : Int) (h0 : 0 ≤ r) (h1 : r < 128) : EndsP (fun k => P.num_digit.f k r 10) (fun t => t.2 = true → 0 ≤ t.1 ∧ t.1 < 10) := by
 have u : ∀ z : Int, 0 ≤ z → z < 300 → IntKind.u64.wrap z = z := by
  intro z a b
  show z % 18446744073709551616 = z
  omega
 have w32 : ∀ z : Int, -300 ≤ z → z < 300 → wrap32 z = z := by
  intro z a b
  unfold wrap32
  omega
 have bad : ∀ a : Int, EndsP (fun _ => some ((a, false) : Int × Bool)) (fun t => t.2 = true → 0 ≤ t.1 ∧ t.1 < 10) := fun a => EndsP.now _ (fun h => by cases h)
 have dec : ∀ a : Int, 0 ≤ a → EndsP (fun _ => some ((a, decide (a < 10)) : Int × Bool)) (fun t => t.2 = true → 0 ≤ t.1 ∧ t.1 < 10) := fun a ha => EndsP.now _ (fun h => ⟨ha, of_decide_eq_true h⟩)
 have h1 : ∀ x : Bool, (x = true → 97 ≤ r) → EndsP (fun k => P.num_digit.j1 k r 10 x) (fun t => t.2 = true → 0 ≤ t.1 ∧ t.1 < 10) := fun x hx =>
  EndsP.step (fun k => P.num_digit.j1.eq_2 _ _ _ _) (EndsP.ite (fun c => by
   have := hx c
   rw [w32 (r - 97) (by omega) (by omega), u (r - 97) (by omega) (by omega), u (r - 97 + 10) (by omega) (by omega)]
   exact dec _ (by omega)) fun _ => EndsP.ite (fun c => EndsP.ite (fun _ => by
   rw [w32 (r - 65) (by omega) (by omega), u (r - 65) (by omega) (by omega), u (r - 65 + 10) (by omega) (by omega)]
   exact dec _ (by omega)) fun _ => bad _) fun _ => bad _)
 have h0' : ∀ x : Bool, (x = true → 48 ≤ r) → EndsP (fun k => P.num_digit.j0 k r 10 x) (fun t => t.2 = true → 0 ≤ t.1 ∧ t.1 < 10) := fun x hx =>
  EndsP.step (fun k => P.num_digit.j0.eq_2 _ _ _ _) (EndsP.ite (fun c => by
   have := hx c
   rw [w32 (r - 48) (by omega) (by omega), u (r - 48) (by omega) (by omega)]
   exact dec _ (by omega)) fun _ => EndsP.ite (fun c => h1 _ (fun _ => c)) fun _ => h1 _ (fun h => by cases h))
 exact EndsP.ite (fun c => h0' _ (fun _ => c)) fun _ => h0' _ (fun h => by cases h)
theorem bt_range (s : ByteArray) (i : Int) : 0 ≤ bt s i ∧ bt s i < 256 := by
 unfold bt
 split
 ·have := (s[i.toNat]'(by assumption)).toNat_lt
  omega
 omega
theorem digits_ends (s : ByteArray) : EndsP (fun k => P.num_digits.f k s 10) (fun b => b = true → ∀ i : Nat, i < s.size → bt s (i : Int) < 128 ∧ ∃ t, Ev (fun k => P.num_digit.f k (bt s (i : Int)) 10) t ∧ 0 ≤ t.1 ∧ t.1 < 10) := by
 have go : ∀ (j i : Nat), i + j = s.size → EndsP (fun k => P.num_digits.l0 k s 10 i) (fun b => b = true → ∀ q : Nat, i ≤ q → q < s.size → bt s (q : Int) < 128 ∧ ∃ t, Ev (fun k => P.num_digit.f k (bt s (q : Int)) 10) t ∧ 0 ≤ t.1 ∧ t.1 < 10) := by
  intro j
  induction j with
  | zero =>
   intro i hi
   exact EndsP.step (fun k => P.num_digits.l0.eq_2 _ _ _ _) (EndsP.ite (fun h => absurd h (by omega)) fun _ => EndsP.now _ (fun _ q h1 h2 => absurd h2 (by omega)))
  | succ j ih =>
   intro i hi
   refine EndsP.step (fun k => P.num_digits.l0.eq_2 _ _ _ _) (EndsP.ite (fun hlt => EndsP.ite (fun h128 => ?_) fun _ => EndsP.now _ (fun h => by cases h)) fun h => absurd (by omega) h)
   refine EndsP.bind (digit_ten _ (bt_range s i).1 h128) fun t ht hp => EndsP.ite (fun c => ?_) fun _ => EndsP.now _ (fun h => by cases h)
   obtain ⟨r, hr, hq⟩ := ih (i + 1) (by omega)
   refine ⟨r, hr, fun hb q h1 h2 => ?_⟩
   by_cases e : q = i
   ·subst e
    exact ⟨h128, t, ht, hp c⟩
   exact hq hb q (by omega) h2
 refine EndsP.ite (fun h => EndsP.now _ (fun hb => by cases hb)) fun h => ?_
 obtain ⟨r, hr, hq⟩ := go s.size 0 (by omega)
 exact ⟨r, hr, fun hb i hi => hq hb i (by omega) hi⟩
theorem value_ends (s : ByteArray) (hs : s.size ≤ 2) : EndsP (fun k => P.num_Value.f k s) (fun t => 0 ≤ t.1 ∧ t.1 < 100) := by
 have go : ∀ (j i : Nat) (v : Int), i + j = s.size → 0 ≤ v → v < (10 ^ i : Nat) → (∀ q : Nat, q < s.size → bt s (q : Int) < 128 ∧ ∃ t, Ev (fun k => P.num_digit.f k (bt s (q : Int)) 10) t ∧ 0 ≤ t.1 ∧ t.1 < 10) → EndsP (fun k => P.num_Value.l0 k s v i) (fun t => 0 ≤ t.1 ∧ t.1 < 100) := by
  intro j
  induction j with
  | zero =>
   intro i v hi h0 h1 hd
   have : (10 ^ i : Nat) ≤ 100 := by
    have : i = 0 ∨ i = 1 ∨ i = 2 := by omega
    rcases this with rfl | rfl | rfl <;> decide
   exact EndsP.step (fun k => P.num_Value.l0.eq_2 _ _ _ _) (EndsP.ite (fun h => absurd h (by omega)) fun _ => EndsP.now _ ⟨h0, by show v < 100; omega⟩)
  | succ j ih =>
   intro i v hi h0 h1 hd
   have hi2 : i = 0 ∨ i = 1 := by omega
   have hv : v < 10 := by
    rcases hi2 with rfl | rfl
    ·have : v < 1 := by simpa using h1
     omega
    simpa using h1
   obtain ⟨b1, t, ht, t0, t1⟩ := hd i (by omega)
   refine EndsP.step (fun k => P.num_Value.l0.eq_2 _ _ _ _) (EndsP.ite (fun hlt => EndsP.ite (fun _ => ?_) fun h => absurd b1 h) fun h => absurd (by omega) h)
   refine EndsP.bind ⟨t, ht, trivial⟩ (q := fun _ => True) fun u hu _ => ?_
   obtain rfl := Ev.one ht hu
   refine EndsP.ite (fun _ => ih (i + 1) _ (by omega) (by omega) ?_ hd) fun h => absurd ⟨h0, by omega, t0, t1⟩ h
   rcases hi2 with rfl | rfl
   ·have : v < 1 := by simpa using h1
    show v * 10 + t.1 < ((10 ^ 1 : Nat) : Int)
    omega
   show v * 10 + t.1 < ((10 ^ 2 : Nat) : Int)
   omega
 refine EndsP.ite (fun _ => EndsP.ite (fun _ => EndsP.now _ ⟨by decide, by decide⟩) fun _ => ?_) fun h => absurd hs h
 refine EndsP.bind (digits_ends s) fun b hb hq => EndsP.ite (fun c => ?_) fun _ => EndsP.now _ ⟨by decide, by decide⟩
 exact go s.size 0 0 (by omega) (by decide) (by decide) (hq c)
theorem text_some (v : Int) (h0 : 0 ≤ v) (h1 : v < 31) : ∃ t, P.num_Text.f v = some t := by
 have w : ∀ z : Int, 0 ≤ z → z < 1000 → wrap64 z = z := fun z a b => wrap64_small z (by omega) (by omega)
 unfold P.num_Text.f P.strconv_FormatUint.f
 rw [if_pos rfl, if_pos ⟨h0, by omega⟩]
 unfold P.strconv_small.f
 rw [w (v + 1) (by omega) (by omega), w (v * 2) (by omega) (by omega), w (v * 2 + 2) (by omega) (by omega)]
 by_cases h : v < 10
 ·rw [if_pos h, if_pos h0, if_pos (by omega), if_pos (by omega)]
  exact ⟨_, rfl⟩
 rw [if_neg h, if_pos (by omega), if_pos (by omega), if_pos (by omega)]
 exact ⟨_, rfl⟩
theorem reg_ends (s : ByteArray) : Ends (fun k => P.operand_Reg.f k s) := by
 refine Ends.ite (fun _ => Ends.now _) fun _ => Ends.ite (fun _ => Ends.now _) fun _ => Ends.ite (fun _ => Ends.now _) fun h2 => Ends.ite (fun _ => Ends.now _) fun h3 => Ends.ite (fun _ => Ends.ite (fun _ => Ends.ite (fun _ => ?_) fun h => absurd (by omega) h) fun _ => Ends.now _) fun h => absurd (by omega) h
 obtain ⟨t, ht, t0, t1⟩ := value_ends (s.extract 1 s.size) (by rw [ByteArray.size_extract]; omega)
 refine Ends.bind ⟨t, ht⟩ fun u hu => Ends.ite (fun _ => Ends.ite (fun _ => Ends.now _) fun h => ?_) fun _ => Ends.now _
 obtain rfl := Ev.one ht hu
 obtain ⟨x, hx⟩ := text_some t.1 t0 (by omega)
 exact Ends.bindc hx (Ends.ite (fun _ => Ends.now _) fun _ => Ends.now _)
theorem letter_ends (r : Int) : Ends (fun k => P.lex_letter.f k r) := by
 have h0 : ∀ x : Bool, Ends (fun k => P.lex_letter.j0 k r x) := fun x =>
  Ends.step (fun k => P.lex_letter.j0.eq_2 _ _ _) (Ends.ite (fun _ => Ends.now _) fun _ => Ends.ite (fun _ => Ends.ite (fun _ => Ends.now _) fun _ => Ends.ite (fun _ => Ends.now _) fun _ => Ends.ite (fun _ => Ends.now _) fun _ => Ends.now _) fun _ => Ends.ite (fun _ => Ends.now _) fun _ => Ends.ite (fun _ => Ends.now _) fun _ => Ends.now _)
 exact Ends.ite (fun _ => h0 _) fun _ => h0 _
theorem digit_some (r : Int) : ∃ t, P.lex_digit.f r = some t := by
 unfold P.lex_digit.f
 split <;> exact ⟨_, rfl⟩
theorem word_ends (s : ByteArray) : Ends (fun k => P.lex_IsWord.f k s) := by
 have go : ∀ (j i : Nat), i + j = s.size → Ends (fun k => P.lex_IsWord.l0 k s i) := by
  intro j
  induction j with
  | zero =>
   intro i hi
   exact Ends.step (fun k => P.lex_IsWord.l0.eq_2 _ _ _) (Ends.ite (fun h => absurd h (by omega)) fun _ => Ends.now _)
  | succ j ih =>
   intro i hi
   refine Ends.step (fun k => P.lex_IsWord.l0.eq_2 _ _ _) (Ends.ite (fun _ => Ends.ite (fun _ => Ends.bind (letter_ends _) fun _ _ => Ends.ite (fun _ => ih _ (by omega)) fun _ => Ends.ite (fun _ => Ends.now _) fun _ => ?_) fun _ => Ends.now _) fun h => absurd (by omega) h)
   obtain ⟨x, hx⟩ := digit_some (bt s (i : Int))
   exact Ends.bindc hx (Ends.ite (fun _ => ih _ (by omega)) fun _ => Ends.now _)
 exact Ends.ite (fun _ => Ends.now _) fun _ => Ends.ite (fun _ => Ends.now _) fun _ => go s.size 0 (by omega)
theorem name_ends (s : ByteArray) : Ends (fun k => P.local_IsName.f k s) := by
 have h0 : ∀ x : Bool, Ends (fun k => P.local_IsName.j0 k s x) := fun x =>
  Ends.step (fun k => P.local_IsName.j0.eq_2 _ _ _) (Ends.ite (fun _ => Ends.now _) fun _ => Ends.bind (reg_ends s) fun _ _ => Ends.ite (fun _ => Ends.now _) fun _ => Ends.bind (word_ends s) fun _ _ => Ends.now _)
 exact Ends.ite (fun _ => h0 _) fun _ => Ends.ite (fun _ => h0 _) fun _ => Ends.ite (fun _ => h0 _) fun _ => h0 _
theorem u32_bits (op : BinOp) (x y : Int) : ∃ m : Nat, Go.bits op .u32 x y = (m : Int) ∧ m < 4294967296 := by
 obtain ⟨z, hz⟩ : ∃ z : Int, Go.bits op .u32 x y = IntKind.u32.wrap z := ⟨_, rfl⟩
 rw [hz]
 refine ⟨(z % 4294967296).toNat, ?_, ?_⟩
 ·show z % 4294967296 = _
  omega
 omega
theorem over_ends (kind at_ rk sym add : Int) (s : ByteArray) (h4 : rk = 1 ∨ s.size = 4) : Ends (fun k => P.part_over.f k kind at_ rk sym add s) := by
 have l0 : ∀ (j : Nat) (i : Int) (x : Nat), s.size = 4 → 0 ≤ i → i + j = 4 → x < 4294967296 → Ends (fun k => P.part_over.l0 k s (x : Int) i at_ rk sym add) := by
  intro j
  induction j with
  | zero =>
   intro i x h4 h0 hi hx
   exact Ends.step (fun k => P.part_over.l0.eq_2 _ _ _ _ _ _ _ _) (Ends.ite (fun h => absurd h (by omega)) fun _ => Ends.bind (fits_ends rk x hx) fun _ _ => Ends.now _)
  | succ j ih =>
   intro i x h4 h0 hi hx
   have e1 : wrap64 (8 * i) = 8 * i := wrap64_small _ (by omega) (by omega)
   have e2 : wrap64 (i + 1) = i + 1 := wrap64_small _ (by omega) (by omega)
   refine Ends.step (fun k => P.part_over.l0.eq_2 _ _ _ _ _ _ _ _) (Ends.ite (fun _ => Ends.ite (fun _ => Ends.ite (fun _ => Ends.ite (fun _ => ?_) fun h => absurd (by rw [e1]; omega) h) fun h => absurd (by omega) h) fun h => absurd h0 h) fun h => absurd (by omega) h)
   obtain ⟨m, hm, hm2⟩ := u32_bits .or (x : Int) (shl .u32 (bt s i % 4294967296) (wrap64 (8 * i)))
   rw [hm, e2]
   exact ih (i + 1) m h4 (by omega) (by omega) hm2
 have j0 : ∀ b : Bool, s.size = 4 → Ends (fun k => P.part_over.j0 k s b at_ rk sym add) := fun b h =>
  Ends.step (fun k => P.part_over.j0.eq_2 _ _ _ _ _ _ _) (Ends.ite (fun _ => Ends.now _) fun _ => l0 4 0 0 h (by decide) (by decide) (by decide))
 refine Ends.ite (fun _ => ?_) fun h1 => Ends.ite (fun _ => j0 _ (h4.resolve_left h1)) fun _ => ?_
 ·obtain ⟨c, hc⟩ : ∃ c, P.strings_Count.f s ⟨#[0]⟩ = some c := ⟨_, rfl⟩
  exact Ends.bindc hc (Ends.now _)
 exact Ends.step (fun k => P.part_over.j0.eq_2 _ _ _ _ _ _ _) (Ends.ite (fun _ => Ends.now _) fun h => absurd rfl h)
end Go.Proofs.YtngmipfodjgmmaaGreatDoor.Pure
end
