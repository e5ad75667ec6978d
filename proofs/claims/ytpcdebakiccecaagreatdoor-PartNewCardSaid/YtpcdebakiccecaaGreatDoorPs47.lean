/- A name is one by the program just if it is one by the reference: registers' names, words, shifts. -/
import Derived.Test.YtpcdebakiccecaaGreatDoorPs45
namespace Go.Proofs.YtpcdebakiccecaaGreatDoor.Pure
open Go Go.RowKit Go.Proofs.YtpcdebakiccecaaGreatDoorW.PrintWords Go.Proofs.YtpcdebakiccecaaGreatDoorW.PrintLast Go.Proofs.YtpcdebakiccecaaGreatDoorW.PrintMore
set_option linter.unusedVariables false
set_option linter.unusedSimpArgs false
/-- The name of the register of a number, 31 the one that is nothing. -/
def rn (j : Nat) : List UInt8 := if j = 31 then [120, 122, 114] else if j < 10 then [120, UInt8.ofNat (48 + j)] else [120, UInt8.ofNat (48 + j / 10), UInt8.ofNat (48 + j % 10)]
def IsReg (l : List UInt8) : Prop := l = [115, 112] ∨ ∃ j, j < 32 ∧ l = rn j
theorem rn_reg : (List.range 32).all (fun j => (P.operand_Reg.f 40 ⟨(rn j).toArray⟩).map (fun t => t.2.2) == some 0) = true := by kernel_rfl
theorem rn_text : (List.range 31).all (fun j => (P.num_Text.f (j : Int)).map (fun t => 120 :: t.toList) == some (rn j)) = true := by kernel_rfl
theorem rn_ref : (List.range 32).all (fun j => (P.cleatref11_RegText.f 40 (j : Int) false).map (fun t => t.1.toList) == some (rn j)) = true := by kernel_rfl
theorem of_list {s : ByteArray} {l : List UInt8} (h : s.toList = l) : s = ⟨l.toArray⟩ := by
 rw [Go.Lib.toList_data] at h
 cases s
 simp only at h
 subst h
 simp
theorem cons_list (s : ByteArray) (h : 0 < s.size) (h0 : bt s 0 = 120) : s.toList = 120 :: (s.extract 1 s.size).toList := by
 obtain ⟨d⟩ := s
 obtain ⟨l⟩ := d
 cases l with
 | nil => exact absurd h (by decide)
 | cons x l =>
  have hx : x = 120 := by
   have : (x.toNat : Int) = 120 := h0
   exact UInt8.toNat_inj.mp (by have : (120 : UInt8).toNat = 120 := rfl; omega)
  subst hx
  rw [Go.Lib.toList_data, Go.Lib.toList_data, ByteArray.data_extract]
  simp
  show _ = List.take _ _
  simp [ByteArray.size]
theorem reg_is (s : ByteArray) : EndsP (fun k => P.operand_Reg.f k s) (fun t => t.2.2 = 0 ↔ IsReg s.toList) := by
 obtain ⟨t, ht⟩ := reg_ends s
 refine ⟨t, ht, ?_, ?_⟩
 ·intro h
  obtain ⟨K, hK⟩ := ht
  replace hK : P.operand_Reg.f K s = some t := hK K (Nat.le_refl _)
  unfold P.operand_Reg.f at hK
  by_cases c1 : s.toList = ([115, 112] : List UInt8)
  ·exact .inl c1
  ·rw [if_neg c1] at hK
   by_cases c2 : s.toList = ([120, 122, 114] : List UInt8)
   ·exact .inr ⟨31, by decide, c2⟩
   ·rw [if_neg c2] at hK
    have no : ∀ {x y : Int × Bool × Int}, some x = some y → x.2.2 = 3 → y.2.2 = 0 → False := by
     intro x y e a b
     obtain rfl := Option.some.inj e
     rw [a] at b
     exact absurd b (by decide)
    by_cases c3 : (s.size : Int) < 2
    ·rw [if_pos c3] at hK; exact (no hK rfl h).elim
    ·rw [if_neg c3] at hK
     by_cases c4 : (s.size : Int) > 3
     ·rw [if_pos c4] at hK; exact (no hK rfl h).elim
     ·rw [if_neg c4, if_pos (by omega)] at hK
      by_cases c5 : bt s 0 = 120
      ·rw [if_pos c5, if_pos (by omega)] at hK
       obtain ⟨u, hu, hK⟩ := Option.bind_eq_some_iff.mp hK
       by_cases c6 : u.2 = 0
       ·rw [if_pos c6] at hK
        by_cases c7 : u.1 ≥ 31
        ·rw [if_pos c7] at hK; exact (no hK rfl h).elim
        ·rw [if_neg c7] at hK
         obtain ⟨x, hx, hK⟩ := Option.bind_eq_some_iff.mp hK
         by_cases c8 : x.toList = (s.extract 1 s.size).toList
         ·have h0 : 0 ≤ u.1 := by
           unfold P.num_Text.f P.strconv_FormatUint.f at hx
           rw [if_pos rfl] at hx
           by_cases q : 0 ≤ u.1 ∧ u.1 < 100
           ·exact q.1
           ·rw [if_neg q] at hx; exact absurd hx (by simp)
          have hv := List.all_eq_true.mp rn_text u.1.toNat (List.mem_range.mpr (by omega))
          rw [Int.toNat_of_nonneg h0, hx] at hv
          have hv := beq_iff_eq.mp hv
          simp only [Option.map_some, Option.some.injEq] at hv
          exact .inr ⟨u.1.toNat, by omega, by rw [cons_list s (by omega) c5, ← c8]; exact hv⟩
         ·rw [if_neg c8] at hK; exact (no hK rfl h).elim
       ·rw [if_neg c6] at hK; exact (no hK rfl h).elim
      ·rw [if_neg c5] at hK; exact (no hK rfl h).elim
 ·rintro (h | ⟨j, hj, h⟩)
  ·have := Ev.one ht (b := (31, true, 0)) (Ev.congr (fun k => if_pos h) (Ev.now _))
   rw [this]
  ·have hv := beq_iff_eq.mp (List.all_eq_true.mp rn_reg j (List.mem_range.mpr hj))
   obtain ⟨u, hu, h2⟩ := Option.map_eq_some_iff.mp hv
   rw [← of_list h] at hu
   rw [Ev.one ht (Ev.of (fun k => P.operand_Reg.mono _ k) hu)]
   exact h2
theorem rreg_is (s : ByteArray) : EndsP (fun k => P.cleatref11_Reg.f k s) (fun t => t.2.2 = 0 ↔ IsReg s.toList) := by
 have go : ∀ (d n : Nat), n + d = 32 → EndsP (fun k => P.cleatref11_Reg.l0 k s (n : Int)) (fun t => t.2.2 = 0 ↔ ∃ j, n ≤ j ∧ j < 32 ∧ s.toList = rn j) := by
  intro d
  induction d with
  | zero =>
   intro n hn
   exact EndsP.step (fun k => P.cleatref11_Reg.l0.eq_2 _ _ _) (EndsP.ite (fun h => absurd h (by omega)) fun _ => EndsP.now _ ⟨fun h => absurd h (by decide), fun ⟨j, a, b, _⟩ => by omega⟩)
  | succ d ih =>
   intro n hn
   have hv := beq_iff_eq.mp (List.all_eq_true.mp rn_ref n (List.mem_range.mpr (by omega)))
   obtain ⟨u, hu, h2⟩ := Option.map_eq_some_iff.mp hv
   have hE : Ev (fun k => P.cleatref11_RegText.f k (n : Int) false) u := Ev.of (fun k => P.cleatref11_RegText.mono _ _ k) hu
   refine EndsP.step (fun k => P.cleatref11_Reg.l0.eq_2 _ _ _) (EndsP.ite (fun _ => EndsP.bind (q := fun t => t.1.toList = rn n) ⟨u, hE, h2⟩ fun a ha hq => EndsP.ite (fun c => EndsP.now _ ⟨fun _ => ⟨n, Nat.le_refl _, by omega, c.trans hq⟩, fun _ => rfl⟩) fun c => ?_) fun h => absurd (by omega) h)
   have e1 : wrap64 ((n : Int) + 1) = ((n + 1 : Nat) : Int) := by rw [wrap64_small _ (by omega) (by omega)]; rfl
   rw [e1]
   obtain ⟨r, hr, hi⟩ := ih (n + 1) (by omega)
   refine ⟨r, hr, hi.trans ⟨fun ⟨j, a, b, e⟩ => ⟨j, by omega, b, e⟩, fun ⟨j, a, b, e⟩ => ⟨j, ?_, b, e⟩⟩⟩
   rcases Nat.eq_or_lt_of_le a with rfl | h
   ·exact absurd (e.trans hq.symm) c
   ·exact h
 unfold P.cleatref11_Reg.f
 refine EndsP.ite (fun c => EndsP.now _ ⟨fun _ => .inl c, fun _ => rfl⟩) fun c => ?_
 obtain ⟨r, hr, hi⟩ := go 32 0 (by omega)
 exact ⟨r, hr, hi.trans ⟨fun ⟨j, _, b, e⟩ => .inr ⟨j, b, e⟩, fun h => h.elim (fun h => absurd h c) fun ⟨j, b, e⟩ => ⟨j, Nat.zero_le _, b, e⟩⟩⟩
def shs : List (List UInt8) := [[108, 115, 108], [108, 115, 114], [97, 115, 114], [114, 111, 114]]
theorem shift_is (s : ByteArray) : EndsP (fun k => P.cleatref11_shift.f k s) (fun t => t < 0 ↔ s.toList ∉ shs) := by
 have go : ∀ (d n : Nat), n + d = 4 → EndsP (fun k => P.cleatref11_shift.l0 k s [(⟨#[108, 115, 108]⟩ : ByteArray), (⟨#[108, 115, 114]⟩ : ByteArray), (⟨#[97, 115, 114]⟩ : ByteArray), (⟨#[114, 111, 114]⟩ : ByteArray)] (n : Int)) (fun t => t < 0 ↔ s.toList ∉ shs.drop n) := by
  intro d
  induction d with
  | zero =>
   intro n hn
   obtain rfl : n = 4 := by omega
   exact EndsP.step (fun k => P.cleatref11_shift.l0.eq_2 _ _ _ _) (EndsP.ite (fun h => absurd h (by decide)) fun _ => EndsP.now _ ⟨fun _ => by simp [shs], fun _ => by decide⟩)
  | succ d ih =>
   intro n hn
   refine EndsP.step (fun k => P.cleatref11_shift.l0.eq_2 _ _ _ _) (EndsP.ite (fun _ => EndsP.ite (fun _ => EndsP.ite (fun _ => ?_) fun h => absurd (by simp; omega) h) fun h => absurd (by omega) h) fun h => absurd (by omega) h)
   have hx : shs.drop n = (rdOf ByteArray.empty [(⟨#[108, 115, 108]⟩ : ByteArray), (⟨#[108, 115, 114]⟩ : ByteArray), (⟨#[97, 115, 114]⟩ : ByteArray), (⟨#[114, 111, 114]⟩ : ByteArray)] (n : Int)).toList :: shs.drop (n + 1) := by
    have : n = 0 ∨ n = 1 ∨ n = 2 ∨ n = 3 := by omega
    rcases this with rfl | rfl | rfl | rfl <;> (rw [Go.Lib.toList_data]; rfl)
   have e1 : wrap64 ((n : Int) + 1) = ((n + 1 : Nat) : Int) := by rw [wrap64_small _ (by omega) (by omega)]; rfl
   refine EndsP.ite (fun c => EndsP.now _ ⟨fun h => absurd h (by omega), fun h => absurd (by rw [hx, c]; exact List.mem_cons_self) h⟩) fun c => ?_
   rw [e1]
   obtain ⟨r, hr, hi⟩ := ih (n + 1) (by omega)
   refine ⟨r, hr, hi.trans ?_⟩
   rw [hx, List.mem_cons]
   exact ⟨fun h q => q.elim (fun e => c e.symm) h, fun h q => h (.inr q)⟩
 exact go 4 0 rfl
def isLq (c : Int) : Bool := P.cleatref09_letter.f c == some true
def isDq (c : Int) : Bool := P.cleatref09_digit.f c == some true
theorem byte_all : (List.range 256).all (fun c => P.cleatref09_letter.f (c : Int) == some (isLq c) && P.cleatref09_digit.f (c : Int) == some (isDq c) && P.lex_letter.f 9 (c : Int) == some (isLq c) && P.lex_digit.f (c : Int) == some (isDq c) && (decide (c < 128) || !(isLq c || isDq c))) = true := by kernel_rfl
theorem byte_of (s : ByteArray) (i : Nat) : ∃ c : Nat, c < 256 ∧ bt s (i : Int) = (c : Int) := by
 refine ⟨(bt s (i : Int)).toNat, ?_, ?_⟩
 ·have := bt_range s (i : Int); omega
 ·have := bt_range s (i : Int); omega
theorem byte_facts (s : ByteArray) (i : Nat) : P.cleatref09_letter.f (bt s (i : Int)) = some (isLq (bt s (i : Int))) ∧ P.cleatref09_digit.f (bt s (i : Int)) = some (isDq (bt s (i : Int))) ∧ Ev (fun k => P.lex_letter.f k (bt s (i : Int))) (isLq (bt s (i : Int))) ∧ P.lex_digit.f (bt s (i : Int)) = some (isDq (bt s (i : Int))) ∧ (128 ≤ bt s (i : Int) → isLq (bt s (i : Int)) = false ∧ isDq (bt s (i : Int)) = false) := by
 obtain ⟨c, hc, e⟩ := byte_of s i
 rw [e]
 have h := List.all_eq_true.mp byte_all c (List.mem_range.mpr hc)
 simp only [Bool.and_eq_true, beq_iff_eq, Bool.or_eq_true, decide_eq_true_eq, Bool.not_eq_true', Bool.or_eq_false_iff] at h
 obtain ⟨⟨⟨⟨h1, h2⟩, h3⟩, h4⟩, h5⟩ := h
 exact ⟨h1, h2, Ev.of (fun k => P.lex_letter.mono _ k) h3, h4, fun q => h5.elim (fun a => by omega) id⟩
/-- A word: what both say. -/
def IsW (s : ByteArray) : Prop := 1 ≤ s.size ∧ s.size ≤ 31 ∧ isLq (bt s 0) = true ∧ ∀ i, i < s.size → isLq (bt s (i : Int)) = true ∨ isDq (bt s (i : Int)) = true
theorem word_is (s : ByteArray) : EndsP (fun k => P.lex_IsWord.f k s) (fun b => b = true ↔ IsW s) := by
 have go : ∀ (j i : Nat), i + j = s.size → EndsP (fun k => P.lex_IsWord.l0 k s i) (fun b => b = true ↔ ∀ q, i ≤ q → q < s.size → isLq (bt s (q : Int)) = true ∨ (q ≠ 0 ∧ isDq (bt s (q : Int)) = true)) := by
  intro j
  induction j with
  | zero =>
   intro i hi
   exact EndsP.step (fun k => P.lex_IsWord.l0.eq_2 _ _ _) (EndsP.ite (fun h => absurd h (by omega)) fun _ => EndsP.now _ ⟨fun _ q a b => by omega, fun _ => rfl⟩)
  | succ j ih =>
   intro i hi
   obtain ⟨_, _, hL, hD, hH⟩ := byte_facts s i
   have more : ∀ (g : Nat → Option Bool), (isLq (bt s (i : Int)) = true ∨ (i ≠ 0 ∧ isDq (bt s (i : Int)) = true)) → EndsP (fun k => P.lex_IsWord.l0 k s (i + 1)) (fun b => b = true ↔ ∀ q, i ≤ q → q < s.size → isLq (bt s (q : Int)) = true ∨ (q ≠ 0 ∧ isDq (bt s (q : Int)) = true)) := by
    intro _ h
    obtain ⟨r, hr, hx⟩ := ih (i + 1) (by omega)
    refine ⟨r, hr, hx.trans ⟨fun k q a b => ?_, fun k q a b => k q (by omega) b⟩⟩
    rcases Nat.eq_or_lt_of_le a with rfl | c
    ·exact h
    ·exact k q c b
   have none_ : ¬ (isLq (bt s (i : Int)) = true ∨ (i ≠ 0 ∧ isDq (bt s (i : Int)) = true)) → (false = true ↔ ∀ q, i ≤ q → q < s.size → isLq (bt s (q : Int)) = true ∨ (q ≠ 0 ∧ isDq (bt s (q : Int)) = true)) := fun h => ⟨fun e => absurd e (by decide), fun k => absurd (k i (Nat.le_refl _) (by omega)) h⟩
   refine EndsP.step (fun k => P.lex_IsWord.l0.eq_2 _ _ _) (EndsP.ite (fun _ => EndsP.ite (fun _ => EndsP.bind (q := fun t => t = isLq (bt s (i : Int))) ⟨_, hL, rfl⟩ fun t _ ht => EndsP.ite (fun c => more (fun _ => none) (.inl (ht ▸ c))) fun c => EndsP.ite (fun c0 => EndsP.now _ (none_ fun h => h.elim (fun h => c (ht.trans h)) fun h => h.1 c0)) fun c0 => ?_) fun c => EndsP.now _ (none_ fun h => ?_)) fun h => absurd (by omega) h)
   ·rw [hD]
    exact EndsP.ite (fun c1 => more (fun _ => none) (.inr ⟨c0, c1⟩)) fun c1 => EndsP.now _ (none_ fun h => h.elim (fun h => c (ht.trans h)) fun h => c1 h.2)
   ·have := hH (by omega)
    rcases h with h | h
    ·rw [this.1] at h; exact absurd h (by decide)
    ·rw [this.2] at h; exact absurd h.2 (by decide)
 unfold P.lex_IsWord.f
 refine EndsP.ite (fun c => EndsP.now _ ⟨fun e => absurd e (by decide), fun h => absurd h.1 (by omega)⟩) fun c => EndsP.ite (fun c1 => EndsP.now _ ⟨fun e => absurd e (by decide), fun h => absurd h.2.1 (by omega)⟩) fun c1 => ?_
 obtain ⟨r, hr, hx⟩ := go s.size 0 (by omega)
 refine ⟨r, hr, hx.trans ⟨fun h => ⟨by omega, by omega, ?_, fun i hi => (h i (Nat.zero_le _) hi).imp_right And.right⟩, fun h q _ hq => ?_⟩⟩
 ·exact (h 0 (Nat.le_refl _) (by omega)).elim id fun h => absurd rfl h.1
 ·rcases Nat.eq_zero_or_pos q with rfl | c2
  ·exact .inl h.2.2.1
  ·exact (h.2.2.2 q hq).imp_right fun h => ⟨by omega, h⟩
theorem rword_is (s : ByteArray) : EndsP (fun k => P.cleatref09_IsWord.f k s) (fun b => b = true ↔ IsW s) := by
 have go : ∀ (j i : Nat), i + j = s.size → s.size ≤ 31 → EndsP (fun k => P.cleatref09_run.l0 k s 0 (i : Int)) (fun t => t = (s.size : Int) ↔ ∀ q, i ≤ q → q < s.size → isLq (bt s (q : Int)) = true ∨ isDq (bt s (q : Int)) = true) := by
  intro j
  induction j with
  | zero =>
   intro i hi hs
   have e0 : wrap64 (0 + (i : Int)) = (i : Int) := by rw [wrap64_small _ (by omega) (by omega)]; omega
   refine EndsP.step (fun k => P.cleatref09_run.l0.eq_2 _ _ _ _) ?_
   rw [e0]
   exact EndsP.ite (fun h => absurd h (by omega)) fun _ => EndsP.now _ ⟨fun _ q a b => by omega, fun _ => by omega⟩
  | succ j ih =>
   intro i hi hs
   have e0 : wrap64 (0 + (i : Int)) = (i : Int) := by rw [wrap64_small _ (by omega) (by omega)]; omega
   have e1 : wrap64 ((i : Int) + 1) = ((i + 1 : Nat) : Int) := by rw [wrap64_small _ (by omega) (by omega)]; rfl
   obtain ⟨hL, hD, _, _, _⟩ := byte_facts s i
   have more : (isLq (bt s (i : Int)) = true ∨ isDq (bt s (i : Int)) = true) → EndsP (fun k => P.cleatref09_run.l0 k s 0 ((i + 1 : Nat) : Int)) (fun t => t = (s.size : Int) ↔ ∀ q, i ≤ q → q < s.size → isLq (bt s (q : Int)) = true ∨ isDq (bt s (q : Int)) = true) := by
    intro h
    obtain ⟨r, hr, hx⟩ := ih (i + 1) (by omega) hs
    refine ⟨r, hr, hx.trans ⟨fun k q a b => ?_, fun k q a b => k q (by omega) b⟩⟩
    rcases Nat.eq_or_lt_of_le a with rfl | c
    ·exact h
    ·exact k q c b
   refine EndsP.step (fun k => P.cleatref09_run.l0.eq_2 _ _ _ _) ?_
   rw [e0, e1, hL, hD]
   refine EndsP.ite (fun _ => EndsP.ite (fun _ => ?_) fun h => absurd (by omega) h) fun h => absurd (by omega) h
   refine EndsP.ite (fun c => more (.inr c)) fun c => EndsP.ite (fun c1 => more (.inl c1)) fun c1 => EndsP.now _ ⟨fun h => absurd h (by omega), fun h => ((h i (Nat.le_refl _) (by omega)).elim (fun x => absurd x c1) fun x => absurd x c)⟩
 unfold P.cleatref09_IsWord.f
 refine EndsP.ite (fun c => EndsP.ite (fun c1 => EndsP.ite (fun c2 => ?_) fun h => absurd (by omega) h) fun c1 => EndsP.now _ ⟨fun e => absurd e (by decide), fun h => absurd h.2.1 (by omega)⟩) fun c => EndsP.now _ ⟨fun e => absurd e (by decide), fun h => absurd h.1 (by omega)⟩
 rw [show (0 : Int) = ((0 : Nat) : Int) from rfl, (byte_facts s 0).1]
 refine EndsP.ite (fun c3 => ?_) fun c3 => EndsP.now _ ⟨fun e => absurd e (by decide), fun h => absurd h.2.2.1 c3⟩
 obtain ⟨r, hr, hx⟩ := go s.size 0 (by omega) (by omega)
 refine EndsP.bind (q := fun t => t = (s.size : Int) ↔ ∀ q, 0 ≤ q → q < s.size → isLq (bt s (q : Int)) = true ∨ isDq (bt s (q : Int)) = true) ⟨r, hr, hx⟩ fun t _ ht => EndsP.now _ ?_
 rw [beq_iff_eq]
 exact ht.trans ⟨fun h => ⟨by omega, by omega, c3, fun i hi => h i (Nat.zero_le _) hi⟩, fun h q _ hq => h.2.2.2 q hq⟩
theorem label_ends (s : ByteArray) : Ends (fun k => P.cleatref11_Label.f k s) := by
 have l0 : 2 ≤ s.size → s.size ≤ 5 → ∀ (d i : Nat) (v : Int), i + d + 1 = s.size → Ends (fun k => P.cleatref11_Label.l0 k s v (i : Int)) := by
  intro h2 h5 d
  have e0 : wrap64 ((s.size : Int) - 1) = (s.size : Int) - 1 := wrap64_small _ (by omega) (by omega)
  induction d with
  | zero =>
   intro i v hi
   refine Ends.step (fun k => P.cleatref11_Label.l0.eq_2 _ _ _ _) ?_
   rw [e0]
   exact Ends.ite (fun h => absurd h (by omega)) fun _ => Ends.ite (fun _ => Ends.ite (fun _ => Ends.ite (fun _ => Ends.now _) fun _ => Ends.ite (fun _ => Ends.now _) fun _ => Ends.now _) fun h => absurd (by omega) h) fun h => absurd (by omega) h
  | succ d ih =>
   intro i v hi
   have e1 : wrap64 ((i : Int) + 1) = ((i + 1 : Nat) : Int) := by rw [wrap64_small _ (by omega) (by omega)]; rfl
   refine Ends.step (fun k => P.cleatref11_Label.l0.eq_2 _ _ _ _) ?_
   rw [e0, e1]
   exact Ends.ite (fun _ => Ends.ite (fun _ => Ends.ite (fun _ => Ends.ite (fun _ => Ends.now _) fun _ => Ends.ite (fun _ => Ends.now _) fun _ => ih (i + 1) _ (by omega)) fun h => absurd (by omega) h) fun h => absurd (by omega) h) fun h => absurd (by omega) h
 have j0 : ∀ x : Bool, (x = false → 2 ≤ s.size ∧ s.size ≤ 5) → Ends (fun k => P.cleatref11_Label.j0 k s x) := fun x hx =>
  Ends.step (fun k => P.cleatref11_Label.j0.eq_2 _ _ _) (Ends.ite (fun _ => Ends.now _) fun h => by
   obtain ⟨a, b⟩ := hx (by simpa using h)
   exact l0 a b (s.size - 1) 0 0 (by omega))
 unfold P.cleatref11_Label.f
 exact Ends.ite (fun _ => j0 _ (fun h => by cases h)) fun _ => j0 _ (fun h => ⟨by omega, by have := of_decide_eq_false h; omega⟩)
/-- A name: what both say. -/
def NameQ (s : ByteArray) : Prop := s.toList ∉ shs ∧ ¬ IsReg s.toList ∧ IsW s
theorem pname_is (s : ByteArray) : EndsP (fun k => P.local_IsName.f k s) (fun b => b = true ↔ NameQ s) := by
 obtain ⟨t, ht, htq⟩ := reg_is s
 obtain ⟨b, hb, hbq⟩ := word_is s
 have j0 : ∀ x : Bool, (x = true ↔ s.toList ∈ shs) → EndsP (fun k => P.local_IsName.j0 k s x) (fun b => b = true ↔ NameQ s) := by
  intro x hx
  refine EndsP.step (fun k => P.local_IsName.j0.eq_2 _ _ _) (EndsP.ite (fun c => EndsP.now _ ⟨fun h => absurd h (by decide), fun h => absurd (hx.1 c) h.1⟩) fun c => ?_)
  refine EndsP.bind (q := fun u => u = t) ⟨t, ht, rfl⟩ fun u _ hu => ?_
  subst hu
  refine EndsP.ite (fun c2 => EndsP.now _ ⟨fun h => absurd h (by decide), fun h => absurd (htq.1 c2) h.2.1⟩) fun c2 => ?_
  exact EndsP.bind (q := fun u => u = b) ⟨b, hb, rfl⟩ fun u _ hu => EndsP.now _ (by
   subst hu
   exact hbq.trans ⟨fun h => ⟨fun k => c (hx.2 k), fun k => c2 (htq.2 k), h⟩, fun h => h.2.2⟩)
 have mem : ∀ l : List UInt8, l ∈ shs → s.toList = l → ((s.toList == l) = true ↔ s.toList ∈ shs) := fun l hl e => by
  rw [beq_iff_eq]
  exact ⟨fun h => h ▸ hl, fun _ => e⟩
 unfold P.local_IsName.f
 refine EndsP.ite (fun c => j0 _ (mem _ (by simp [shs]) c)) fun c1 => EndsP.ite (fun c => j0 _ (mem _ (by simp [shs]) c)) fun c2 => EndsP.ite (fun c => j0 _ (mem _ (by simp [shs]) c)) fun c3 => j0 _ ?_
 rw [beq_iff_eq]
 constructor
 ·intro h
  rw [h]
  simp [shs]
 ·intro h
  simp only [shs, List.mem_cons, List.not_mem_nil, or_false] at h
  rcases h with h | h | h | h
  ·exact absurd h c1
  ·exact absurd h c2
  ·exact absurd h c3
  ·exact h
theorem rname_is (s : ByteArray) : EndsP (fun k => P.cleatref14_IsName.f k s) (fun b => b = true ↔ NameQ s) := by
 obtain ⟨l, hl⟩ := label_ends s
 obtain ⟨t, ht, htq⟩ := rreg_is s
 obtain ⟨b, hb, hbq⟩ := rword_is s
 obtain ⟨z, hz, hzq⟩ := shift_is s
 have hn : EndsP (fun k => P.cleatref11_named.f k 1 s 0) (fun b => b = true ↔ NameQ s) := by
  unfold P.cleatref11_named.f
  refine EndsP.bind (q := fun u => u = l) ⟨l, hl, rfl⟩ fun u _ hu => EndsP.bind (q := fun u => u = t) ⟨t, ht, rfl⟩ fun u2 _ hu2 => ?_
  subst hu hu2
  refine EndsP.ite (fun h => absurd h (by decide)) fun _ => EndsP.ite (fun _ => ?_) fun h => absurd rfl h
  refine EndsP.bind (q := fun u => u = b) ⟨b, hb, rfl⟩ fun u3 _ hu3 => ?_
  subst hu3
  refine EndsP.ite (fun c => ?_) fun c => EndsP.now _ ⟨fun h => absurd h (by decide), fun h => absurd (hbq.2 h.2.2) c⟩
  refine EndsP.ite (fun c2 => EndsP.now _ ⟨fun h => absurd h (by decide), fun h => absurd (htq.1 c2) h.2.1⟩) fun c2 => ?_
  refine EndsP.bind (q := fun u => u = z) ⟨z, hz, rfl⟩ fun u4 _ hu4 => EndsP.now _ ?_
  subst hu4
  rw [decide_eq_true_iff, hzq]
  exact ⟨fun h => ⟨h, fun k => c2 (htq.2 k), hbq.1 c⟩, fun h => h.1⟩
 unfold P.cleatref14_IsName.f P.cleatref11_Name.f
 exact EndsP.bind (EndsP.bind hn fun u _ hu => EndsP.now _ hu) fun u _ hu => EndsP.now _ hu
/-- Both answer the same. -/
theorem names_one (s : ByteArray) : ∃ b, Ev (fun k => P.cleatref14_IsName.f k s) b ∧ Ev (fun k => P.local_IsName.f k s) b := by
 obtain ⟨a, ha, hq⟩ := rname_is s
 obtain ⟨b, hb, hq2⟩ := pname_is s
 have : a = b := by
  rw [Bool.eq_iff_iff, hq, hq2]
 subst this
 exact ⟨a, ha, hb⟩
end Go.Proofs.YtpcdebakiccecaaGreatDoor.Pure
