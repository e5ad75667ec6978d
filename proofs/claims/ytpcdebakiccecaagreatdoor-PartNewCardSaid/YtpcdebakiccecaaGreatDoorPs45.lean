/- A section is looked at to its end, whatever it is: 'IsName', 'over' answer. -/
import Derived.Test.YtpcdebakiccecaaGreatDoorPs44
import Derived.Test.YtpcdebakiccecaaGreatDoorPs39
namespace Go.Proofs.YtpcdebakiccecaaGreatDoor.Pure
open Go Go.RowKit Go.Proofs.YtpcdebakiccecaaGreatDoorW.PrintWords Go.Proofs.YtpcdebakiccecaaGreatDoorW.PrintLast Go.Proofs.YtpcdebakiccecaaGreatDoorW.PrintMore
set_option linter.unusedVariables false
set_option linter.unusedSimpArgs false
theorem Ends.bindc {α β : Type} {c : Option α} {f : Nat → α → Option β} {a : α} (h : c = some a) (k : Ends (fun n => f n a)) : Ends (fun n => c.bind (f n)) := by
 subst h
 exact k
/-- A digit's number. -/
theorem digit_ten (r : Int) (h0 : 0 ≤ r) (h1 : r < 128) : EndsP (fun k => P.num_digit.f k r 10) (fun t => t.2 = true → 0 ≤ t.1 ∧ t.1 < 10) := by
 have u : ∀ z : Int, 0 ≤ z → z < 300 → IntKind.u64.wrap z = z := by
  intro z a b
  show z % 18446744073709551616 = z
  omega
 have w32 : ∀ z : Int, -300 ≤ z → z < 300 → wrap32 z = z := by
  intro z a b
  unfold wrap32
  omega
 have bad : ∀ a : Int, EndsP (fun _ => some ((a, false) : Int × Bool)) (fun t => t.2 = true → 0 ≤ t.1 ∧ t.1 < 10) := fun a => EndsP.now _ (fun h => by cases h)
 have dec : ∀ a : Int, 0 ≤ a → EndsP (fun _ => some ((a, decide (a < 10)) : Int × Bool)) (fun t => t.2 = true → 0 ≤ t.1 ∧ t.1 < 10) := fun a ha => EndsP.now _ (fun h => ⟨ha, of_decide_eq_true h⟩)
 have h1 : ∀ x : Bool, (x = true → 97 ≤ r) → EndsP (fun k => P.num_digit.j1 k r 10 x) (fun t => t.2 = true → 0 ≤ t.1 ∧ t.1 < 10) := fun x hx =>
  EndsP.step (fun k => P.num_digit.j1.eq_2 _ _ _ _) (EndsP.ite (fun c => by
   have := hx c
   rw [w32 (r - 97) (by omega) (by omega), u (r - 97) (by omega) (by omega), u (r - 97 + 10) (by omega) (by omega)]
   exact dec _ (by omega)) fun _ => EndsP.ite (fun c => EndsP.ite (fun _ => by
   rw [w32 (r - 65) (by omega) (by omega), u (r - 65) (by omega) (by omega), u (r - 65 + 10) (by omega) (by omega)]
   exact dec _ (by omega)) fun _ => bad _) fun _ => bad _)
 have h0' : ∀ x : Bool, (x = true → 48 ≤ r) → EndsP (fun k => P.num_digit.j0 k r 10 x) (fun t => t.2 = true → 0 ≤ t.1 ∧ t.1 < 10) := fun x hx =>
  EndsP.step (fun k => P.num_digit.j0.eq_2 _ _ _ _) (EndsP.ite (fun c => by
   have := hx c
   rw [w32 (r - 48) (by omega) (by omega), u (r - 48) (by omega) (by omega)]
   exact dec _ (by omega)) fun _ => EndsP.ite (fun c => h1 _ (fun _ => c)) fun _ => h1 _ (fun h => by cases h))
 exact EndsP.ite (fun c => h0' _ (fun _ => c)) fun _ => h0' _ (fun h => by cases h)
theorem bt_range (s : ByteArray) (i : Int) : 0 ≤ bt s i ∧ bt s i < 256 := by
 unfold bt
 split
 ·have := (s[i.toNat]'(by assumption)).toNat_lt
  omega
 ·omega
/-- The digits of a text: from place i on all are digits of base ten, or not. -/
theorem digits_ends (s : ByteArray) : EndsP (fun k => P.num_digits.f k s 10) (fun b => b = true → ∀ i : Nat, i < s.size → bt s (i : Int) < 128 ∧ ∃ t, Ev (fun k => P.num_digit.f k (bt s (i : Int)) 10) t ∧ 0 ≤ t.1 ∧ t.1 < 10) := by
 have go : ∀ (j i : Nat), i + j = s.size → EndsP (fun k => P.num_digits.l0 k s 10 i) (fun b => b = true → ∀ q : Nat, i ≤ q → q < s.size → bt s (q : Int) < 128 ∧ ∃ t, Ev (fun k => P.num_digit.f k (bt s (q : Int)) 10) t ∧ 0 ≤ t.1 ∧ t.1 < 10) := by
  intro j
  induction j with
  | zero =>
   intro i hi
   exact EndsP.step (fun k => P.num_digits.l0.eq_2 _ _ _ _) (EndsP.ite (fun h => absurd h (by omega)) fun _ => EndsP.now _ (fun _ q h1 h2 => absurd h2 (by omega)))
  | succ j ih =>
   intro i hi
   refine EndsP.step (fun k => P.num_digits.l0.eq_2 _ _ _ _) (EndsP.ite (fun hlt => EndsP.ite (fun h128 => ?_) fun _ => EndsP.now _ (fun h => by cases h)) fun h => absurd (by omega) h)
   refine EndsP.bind (digit_ten _ (bt_range s i).1 h128) fun t ht hp => EndsP.ite (fun c => ?_) fun _ => EndsP.now _ (fun h => by cases h)
   obtain ⟨r, hr, hq⟩ := ih (i + 1) (by omega)
   refine ⟨r, hr, fun hb q h1 h2 => ?_⟩
   by_cases e : q = i
   ·subst e
    exact ⟨h128, t, ht, hp c⟩
   ·exact hq hb q (by omega) h2
 refine EndsP.ite (fun h => EndsP.now _ (fun hb => by cases hb)) fun h => ?_
 obtain ⟨r, hr, hq⟩ := go s.size 0 (by omega)
 exact ⟨r, hr, fun hb i hi => hq hb i (by omega) hi⟩
/-- The number of a text of at most two bytes. -/
theorem value_ends (s : ByteArray) (hs : s.size ≤ 2) : EndsP (fun k => P.num_Value.f k s) (fun t => 0 ≤ t.1 ∧ t.1 < 100) := by
 have go : ∀ (j i : Nat) (v : Int), i + j = s.size → 0 ≤ v → v < (10 ^ i : Nat) → (∀ q : Nat, q < s.size → bt s (q : Int) < 128 ∧ ∃ t, Ev (fun k => P.num_digit.f k (bt s (q : Int)) 10) t ∧ 0 ≤ t.1 ∧ t.1 < 10) → EndsP (fun k => P.num_Value.l0 k s v i) (fun t => 0 ≤ t.1 ∧ t.1 < 100) := by
  intro j
  induction j with
  | zero =>
   intro i v hi h0 h1 hd
   have : (10 ^ i : Nat) ≤ 100 := by
    have : i = 0 ∨ i = 1 ∨ i = 2 := by omega
    rcases this with rfl | rfl | rfl <;> decide
   exact EndsP.step (fun k => P.num_Value.l0.eq_2 _ _ _ _) (EndsP.ite (fun h => absurd h (by omega)) fun _ => EndsP.now _ ⟨h0, by show v < 100; omega⟩)
  | succ j ih =>
   intro i v hi h0 h1 hd
   have hi2 : i = 0 ∨ i = 1 := by omega
   have hv : v < 10 := by
    rcases hi2 with rfl | rfl
    ·have : v < 1 := by simpa using h1
     omega
    ·simpa using h1
   obtain ⟨b1, t, ht, t0, t1⟩ := hd i (by omega)
   refine EndsP.step (fun k => P.num_Value.l0.eq_2 _ _ _ _) (EndsP.ite (fun hlt => EndsP.ite (fun _ => ?_) fun h => absurd b1 h) fun h => absurd (by omega) h)
   refine EndsP.bind ⟨t, ht, trivial⟩ (q := fun _ => True) fun u hu _ => ?_
   obtain rfl := Ev.one ht hu
   refine EndsP.ite (fun _ => ih (i + 1) _ (by omega) (by omega) ?_ hd) fun h => absurd ⟨h0, by omega, t0, t1⟩ h
   rcases hi2 with rfl | rfl
   ·have : v < 1 := by simpa using h1
    show v * 10 + t.1 < ((10 ^ 1 : Nat) : Int)
    omega
   ·show v * 10 + t.1 < ((10 ^ 2 : Nat) : Int)
    omega
 refine EndsP.ite (fun _ => EndsP.ite (fun _ => EndsP.now _ ⟨by decide, by decide⟩) fun _ => ?_) fun h => absurd hs h
 refine EndsP.bind (digits_ends s) fun b hb hq => EndsP.ite (fun c => ?_) fun _ => EndsP.now _ ⟨by decide, by decide⟩
 exact go s.size 0 0 (by omega) (by decide) (by decide) (hq c)
theorem text_some (v : Int) (h0 : 0 ≤ v) (h1 : v < 31) : ∃ t, P.num_Text.f v = some t := by
 have w : ∀ z : Int, 0 ≤ z → z < 1000 → wrap64 z = z := fun z a b => wrap64_small z (by omega) (by omega)
 unfold P.num_Text.f P.strconv_FormatUint.f
 rw [if_pos rfl, if_pos ⟨h0, by omega⟩]
 unfold P.strconv_small.f
 rw [w (v + 1) (by omega) (by omega), w (v * 2) (by omega) (by omega), w (v * 2 + 2) (by omega) (by omega)]
 by_cases h : v < 10
 ·rw [if_pos h, if_pos h0, if_pos (by omega), if_pos (by omega)]
  exact ⟨_, rfl⟩
 ·rw [if_neg h, if_pos (by omega), if_pos (by omega), if_pos (by omega)]
  exact ⟨_, rfl⟩
theorem reg_ends (s : ByteArray) : Ends (fun k => P.operand_Reg.f k s) := by
 refine Ends.ite (fun _ => Ends.now _) fun _ => Ends.ite (fun _ => Ends.now _) fun _ => Ends.ite (fun _ => Ends.now _) fun h2 => Ends.ite (fun _ => Ends.now _) fun h3 => Ends.ite (fun _ => Ends.ite (fun _ => Ends.ite (fun _ => ?_) fun h => absurd (by omega) h) fun _ => Ends.now _) fun h => absurd (by omega) h
 obtain ⟨t, ht, t0, t1⟩ := value_ends (s.extract 1 s.size) (by rw [ByteArray.size_extract]; omega)
 refine Ends.bind ⟨t, ht⟩ fun u hu => Ends.ite (fun _ => Ends.ite (fun _ => Ends.now _) fun h => ?_) fun _ => Ends.now _
 obtain rfl := Ev.one ht hu
 obtain ⟨x, hx⟩ := text_some t.1 t0 (by omega)
 exact Ends.bindc hx (Ends.ite (fun _ => Ends.now _) fun _ => Ends.now _)
end Go.Proofs.YtpcdebakiccecaaGreatDoor.Pure
