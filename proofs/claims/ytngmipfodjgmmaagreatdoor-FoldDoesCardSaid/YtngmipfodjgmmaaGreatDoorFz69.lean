/- Walks and plain laws of this claim, a part. -/
import Derived.Test.YtngmipfodjgmmaaGreatDoorFz66
import Derived.WalkKit
set_option maxRecDepth 100000
set_option maxHeartbeats 8000000
set_option linter.unusedVariables false
set_option linter.unusedSimpArgs false
section
namespace Go.Proofs.YtngmipfodjgmmaaGreatDoor.Pure
open Go Go.RowKit Wa Wb Wc
def rn (j : Nat) : List UInt8 := if j = 31 then [120, 122, 114] else if j < 10 then [120, UInt8.ofNat (48 + j)] else [120, UInt8.ofNat (48 + j / 10), UInt8.ofNat (48 + j % 10)]
def IsReg (l : List UInt8) : Prop := l = [115, 112] ∨ ∃ j, j < 32 ∧ l = rn j
theorem rn_reg : (List.range 32).all (fun j => (P.operand_Reg.f 40 ⟨(rn j).toArray⟩).map (fun t => t.2.2) == some 0) = true := by kernel_rfl
theorem rn_text : (List.range 31).all (fun j => (P.num_Text.f (j : Int)).map (fun t => 120 :: t.toList) == some (rn j)) = true := by kernel_rfl
theorem rn_ref : (List.range 32).all (fun j => (P.cleatref11_RegText.f 40 (j : Int) false).map (fun t => t.1.toList) == some (rn j)) = true := by kernel_rfl
theorem of_list {s : ByteArray} {l : List UInt8} (h : s.toList = l) : s = ⟨l.toArray⟩ := by
 rw [Go.Lib.toList_data] at h
 cases s
 simp only at h
 subst h
 simp
theorem cons_list (s : ByteArray) (h : 0 < s.size) (h0 : bt s 0 = 120) : s.toList = 120 :: (s.extract 1 s.size).toList := by
 obtain ⟨d⟩ := s
 obtain ⟨l⟩ := d
 cases l with
 | nil => exact absurd h (by decide)
 | cons x l =>
  have hx : x = 120 := by
   have : (x.toNat : Int) = 120 := h0
   exact UInt8.toNat_inj.mp (by have : (120 : UInt8).toNat = 120 := rfl; omega)
  subst hx
  rw [Go.Lib.toList_data, Go.Lib.toList_data, ByteArray.data_extract]
  simp
  show _ = List.take _ _
  simp [ByteArray.size]
theorem reg_is (s : ByteArray) : EndsP (fun k => P.operand_Reg.f k s) (fun t => t.2.2 = 0 ↔ IsReg s.toList) := by
 obtain ⟨t, ht⟩ := reg_ends s
 refine ⟨t, ht, ?_, ?_⟩
 ·intro h
  obtain ⟨K, hK⟩ := ht
  replace hK : P.operand_Reg.f K s = some t := hK K (Nat.le_refl _)
  unfold P.operand_Reg.f at hK
  by_cases c1 : s.toList = ([115, 112] : List UInt8)
  ·exact .inl c1
  rw [if_neg c1] at hK
  by_cases c2 : s.toList = ([120, 122, 114] : List UInt8)
  ·exact .inr ⟨31, by decide, c2⟩
  rw [if_neg c2] at hK
  have no : ∀ {x y : Int × Bool × Int}, some x = some y → x.2.2 = 3 → y.2.2 = 0 → False := by
   intro x y e a b
   obtain rfl := Option.some.inj e
   rw [a] at b
   exact absurd b (by decide)
  by_cases c3 : (s.size : Int) < 2
  ·rw [if_pos c3] at hK; exact (no hK rfl h).elim
  rw [if_neg c3] at hK
  by_cases c4 : (s.size : Int) > 3
  ·rw [if_pos c4] at hK; exact (no hK rfl h).elim
  rw [if_neg c4, if_pos (by omega)] at hK
  by_cases c5 : bt s 0 = 120
  rotate_left
  ·rw [if_neg c5] at hK; exact (no hK rfl h).elim
  rw [if_pos c5, if_pos (by omega)] at hK
  obtain ⟨u, hu, hK⟩ := bM_ hK
  by_cases c6 : u.2 = 0
  ·rw [if_pos c6] at hK
   by_cases c7 : u.1 ≥ 31
   ·rw [if_pos c7] at hK; exact (no hK rfl h).elim
   rw [if_neg c7] at hK
   obtain ⟨x, hx, hK⟩ := bM_ hK
   by_cases c8 : x.toList = (s.extract 1 s.size).toList
   ·have h0 : 0 ≤ u.1 := by
     unfold P.num_Text.f P.strconv_FormatUint.f at hx
     rw [if_pos rfl] at hx
     by_cases q : 0 ≤ u.1 ∧ u.1 < 100
     ·exact q.1
     rw [if_neg q] at hx; exact absurd hx (by simp)
    have hv := List.all_eq_true.mp rn_text u.1.toNat (List.mem_range.mpr (by omega))
    rw [Int.toNat_of_nonneg h0, hx] at hv
    have hv := beq_iff_eq.mp hv
    simp only [Option.map_some, Option.some.injEq] at hv
    exact .inr ⟨u.1.toNat, by omega, by rw [cons_list s (by omega) c5, ← c8]; exact hv⟩
   rw [if_neg c8] at hK; exact (no hK rfl h).elim
  rw [if_neg c6] at hK; exact (no hK rfl h).elim
 rintro (h | ⟨j, hj, h⟩)
 ·have := Ev.one ht (b := (31, true, 0)) (Ev.congr (fun k => if_pos h) (Ev.now _))
  rw [this]
 have hv := beq_iff_eq.mp (List.all_eq_true.mp rn_reg j (List.mem_range.mpr hj))
 obtain ⟨u, hu, h2⟩ := Option.map_eq_some_iff.mp hv
 rw [← of_list h] at hu
 rw [Ev.one ht (Ev.of (fun k => P.operand_Reg.mono _ k) hu)]
 exact h2
theorem rreg_is (s : ByteArray) : EndsP (fun k => P.cleatref11_Reg.f k s) (fun t => t.2.2 = 0 ↔ IsReg s.toList) := by
 have go : ∀ (d n : Nat), n + d = 32 → EndsP (fun k => P.cleatref11_Reg.l0 k s (n : Int)) (fun t => t.2.2 = 0 ↔ ∃ j, n ≤ j ∧ j < 32 ∧ s.toList = rn j) := by
  intro d
  induction d with
  | zero =>
   intro n hn
   exact EndsP.step (fun k => P.cleatref11_Reg.l0.eq_2 _ _ _) (EndsP.ite (fun h => absurd h (by omega)) fun _ => EndsP.now _ ⟨fun h => absurd h (by decide), fun ⟨j, a, b, _⟩ => by omega⟩)
  | succ d ih =>
   intro n hn
   have hv := beq_iff_eq.mp (List.all_eq_true.mp rn_ref n (List.mem_range.mpr (by omega)))
   obtain ⟨u, hu, h2⟩ := Option.map_eq_some_iff.mp hv
   have hE : Ev (fun k => P.cleatref11_RegText.f k (n : Int) false) u := Ev.of (fun k => P.cleatref11_RegText.mono _ _ k) hu
   refine EndsP.step (fun k => P.cleatref11_Reg.l0.eq_2 _ _ _) (EndsP.ite (fun _ => EndsP.bind (q := fun t => t.1.toList = rn n) ⟨u, hE, h2⟩ fun a ha hq => EndsP.ite (fun c => EndsP.now _ ⟨fun _ => ⟨n, Nat.le_refl _, by omega, c.trans hq⟩, fun _ => rfl⟩) fun c => ?_) fun h => absurd (by omega) h)
   have e1 : wrap64 ((n : Int) + 1) = ((n + 1 : Nat) : Int) := by rw [wrap64_small _ (by omega) (by omega)]; rfl
   rw [e1]
   obtain ⟨r, hr, hi⟩ := ih (n + 1) (by omega)
   refine ⟨r, hr, hi.trans ⟨fun ⟨j, a, b, e⟩ => ⟨j, by omega, b, e⟩, fun ⟨j, a, b, e⟩ => ⟨j, ?_, b, e⟩⟩⟩
   rcases Nat.eq_or_lt_of_le a with rfl | h
   ·exact absurd (e.trans hq.symm) c
   exact h
 unfold P.cleatref11_Reg.f
 refine EndsP.ite (fun c => EndsP.now _ ⟨fun _ => .inl c, fun _ => rfl⟩) fun c => ?_
 obtain ⟨r, hr, hi⟩ := go 32 0 (by omega)
 exact ⟨r, hr, hi.trans ⟨fun ⟨j, _, b, e⟩ => .inr ⟨j, b, e⟩, fun h => h.elim (fun h => absurd h c) fun ⟨j, b, e⟩ => ⟨j, Nat.zero_le _, b, e⟩⟩⟩
def shs : List (List UInt8) := [[108, 115, 108], [108, 115, 114], [97, 115, 114], [114, 111, 114]]
theorem shift_is (s : ByteArray) : EndsP (fun k => P.cleatref11_shift.f k s) (fun t => t < 0 ↔ s.toList ∉ shs) := by
 have go : ∀ (d n : Nat), n + d = 4 → EndsP (fun k => P.cleatref11_shift.l0 k s [(⟨#[108, 115, 108]⟩ : ByteArray), (⟨#[108, 115, 114]⟩ : ByteArray), (⟨#[97, 115, 114]⟩ : ByteArray), (⟨#[114, 111, 114]⟩ : ByteArray)] (n : Int)) (fun t => t < 0 ↔ s.toList ∉ shs.drop n) := by
  intro d
  induction d with
  | zero =>
   intro n hn
   obtain rfl : n = 4 := by omega
   exact EndsP.step (fun k => P.cleatref11_shift.l0.eq_2 _ _ _ _) (EndsP.ite (fun h => absurd h (by decide)) fun _ => EndsP.now _ ⟨fun _ => by simp [shs], fun _ => by decide⟩)
  | succ d ih =>
   intro n hn
   refine EndsP.step (fun k => P.cleatref11_shift.l0.eq_2 _ _ _ _) (EndsP.ite (fun _ => EndsP.ite (fun _ => EndsP.ite (fun _ => ?_) fun h => absurd (by simp; omega) h) fun h => absurd (by omega) h) fun h => absurd (by omega) h)
   have hx : shs.drop n = (rdOf ByteArray.empty [(⟨#[108, 115, 108]⟩ : ByteArray), (⟨#[108, 115, 114]⟩ : ByteArray), (⟨#[97, 115, 114]⟩ : ByteArray), (⟨#[114, 111, 114]⟩ : ByteArray)] (n : Int)).toList :: shs.drop (n + 1) := by
    have : n = 0 ∨ n = 1 ∨ n = 2 ∨ n = 3 := by omega
    rcases this with rfl | rfl | rfl | rfl <;> (rw [Go.Lib.toList_data]; rfl)
   have e1 : wrap64 ((n : Int) + 1) = ((n + 1 : Nat) : Int) := by rw [wrap64_small _ (by omega) (by omega)]; rfl
   refine EndsP.ite (fun c => EndsP.now _ ⟨fun h => absurd h (by omega), fun h => absurd (by rw [hx, c]; exact List.mem_cons_self) h⟩) fun c => ?_
   rw [e1]
   obtain ⟨r, hr, hi⟩ := ih (n + 1) (by omega)
   refine ⟨r, hr, hi.trans ?_⟩
   rw [hx, List.mem_cons]
   exact ⟨fun h q => q.elim (fun e => c e.symm) h, fun h q => h (.inr q)⟩
 exact go 4 0 rfl
def isLq (c : Int) : Bool := P.cleatref09_letter.f c == some true
def isDq (c : Int) : Bool := P.cleatref09_digit.f c == some true
theorem byte_all : (List.range 256).all (fun c => P.cleatref09_letter.f (c : Int) == some (isLq c) && P.cleatref09_digit.f (c : Int) == some (isDq c) && P.lex_letter.f 9 (c : Int) == some (isLq c) && P.lex_digit.f (c : Int) == some (isDq c) && (decide (c < 128) || !(isLq c || isDq c))) = true := by kernel_rfl
theorem byte_of (s : ByteArray) (i : Nat) : ∃ c : Nat, c < 256 ∧ bt s (i : Int) = (c : Int) := by
 refine ⟨(bt s (i : Int)).toNat, ?_, ?_⟩
 ·have := bt_range s (i : Int); omega
 have := bt_range s (i : Int); omega
theorem byte_facts (s : ByteArray) (i : Nat) : P.cleatref09_letter.f (bt s (i : Int)) = some (isLq (bt s (i : Int))) ∧ P.cleatref09_digit.f (bt s (i : Int)) = some (isDq (bt s (i : Int))) ∧ Ev (fun k => P.lex_letter.f k (bt s (i : Int))) (isLq (bt s (i : Int))) ∧ P.lex_digit.f (bt s (i : Int)) = some (isDq (bt s (i : Int))) ∧ (128 ≤ bt s (i : Int) → isLq (bt s (i : Int)) = false ∧ isDq (bt s (i : Int)) = false) := by
 obtain ⟨c, hc, e⟩ := byte_of s i
 rw [e]
 have h := List.all_eq_true.mp byte_all c (List.mem_range.mpr hc)
 simp only [Bool.and_eq_true, beq_iff_eq, Bool.or_eq_true, decide_eq_true_eq, Bool.not_eq_true', Bool.or_eq_false_iff] at h
 obtain ⟨⟨⟨⟨h1, h2⟩, h3⟩, h4⟩, h5⟩ := h
 exact ⟨h1, h2, Ev.of (fun k => P.lex_letter.mono _ k) h3, h4, fun q => h5.elim (fun a => by omega) id⟩
def IsW (s : ByteArray) : Prop := 1 ≤ s.size ∧ s.size ≤ 31 ∧ isLq (bt s 0) = true ∧ ∀ i, i < s.size → isLq (bt s (i : Int)) = true ∨ isDq (bt s (i : Int)) = true
theorem word_is (s : ByteArray) : EndsP (fun k => P.lex_IsWord.f k s) (fun b => b = true ↔ IsW s) := by
 have go : ∀ (j i : Nat), i + j = s.size → EndsP (fun k => P.lex_IsWord.l0 k s i) (fun b => b = true ↔ ∀ q, i ≤ q → q < s.size → isLq (bt s (q : Int)) = true ∨ (q ≠ 0 ∧ isDq (bt s (q : Int)) = true)) := by
  intro j
  induction j with
  | zero =>
   intro i hi
   exact EndsP.step (fun k => P.lex_IsWord.l0.eq_2 _ _ _) (EndsP.ite (fun h => absurd h (by omega)) fun _ => EndsP.now _ ⟨fun _ q a b => by omega, fun _ => rfl⟩)
  | succ j ih =>
   intro i hi
   obtain ⟨_, _, hL, hD, hH⟩ := byte_facts s i
   have more : ∀ (g : Nat → Option Bool), (isLq (bt s (i : Int)) = true ∨ (i ≠ 0 ∧ isDq (bt s (i : Int)) = true)) → EndsP (fun k => P.lex_IsWord.l0 k s (i + 1)) (fun b => b = true ↔ ∀ q, i ≤ q → q < s.size → isLq (bt s (q : Int)) = true ∨ (q ≠ 0 ∧ isDq (bt s (q : Int)) = true)) := by
    intro _ h
    obtain ⟨r, hr, hx⟩ := ih (i + 1) (by omega)
    refine ⟨r, hr, hx.trans ⟨fun k q a b => ?_, fun k q a b => k q (by omega) b⟩⟩
    rcases Nat.eq_or_lt_of_le a with rfl | c
    ·exact h
    exact k q c b
   have none_ : ¬ (isLq (bt s (i : Int)) = true ∨ (i ≠ 0 ∧ isDq (bt s (i : Int)) = true)) → (false = true ↔ ∀ q, i ≤ q → q < s.size → isLq (bt s (q : Int)) = true ∨ (q ≠ 0 ∧ isDq (bt s (q : Int)) = true)) := fun h => ⟨fun e => absurd e (by decide), fun k => absurd (k i (Nat.le_refl _) (by omega)) h⟩
   refine EndsP.step (fun k => P.lex_IsWord.l0.eq_2 _ _ _) (EndsP.ite (fun _ => EndsP.ite (fun _ => EndsP.bind (q := fun t => t = isLq (bt s (i : Int))) ⟨_, hL, rfl⟩ fun t _ ht => EndsP.ite (fun c => more (fun _ => none) (.inl (ht ▸ c))) fun c => EndsP.ite (fun c0 => EndsP.now _ (none_ fun h => h.elim (fun h => c (ht.trans h)) fun h => h.1 c0)) fun c0 => ?_) fun c => EndsP.now _ (none_ fun h => ?_)) fun h => absurd (by omega) h)
   ·rw [hD]
    exact EndsP.ite (fun c1 => more (fun _ => none) (.inr ⟨c0, c1⟩)) fun c1 => EndsP.now _ (none_ fun h => h.elim (fun h => c (ht.trans h)) fun h => c1 h.2)
   have := hH (by omega)
   rcases h with h | h
   ·rw [this.1] at h; exact absurd h (by decide)
   rw [this.2] at h; exact absurd h.2 (by decide)
 unfold P.lex_IsWord.f
 refine EndsP.ite (fun c => EndsP.now _ ⟨fun e => absurd e (by decide), fun h => absurd h.1 (by omega)⟩) fun c => EndsP.ite (fun c1 => EndsP.now _ ⟨fun e => absurd e (by decide), fun h => absurd h.2.1 (by omega)⟩) fun c1 => ?_
 obtain ⟨r, hr, hx⟩ := go s.size 0 (by omega)
 refine ⟨r, hr, hx.trans ⟨fun h => ⟨by omega, by omega, ?_, fun i hi => (h i (Nat.zero_le _) hi).imp_right And.right⟩, fun h q _ hq => ?_⟩⟩
 ·exact (h 0 (Nat.le_refl _) (by omega)).elim id fun h => absurd rfl h.1
 rcases Nat.eq_zero_or_pos q with rfl | c2
 ·exact .inl h.2.2.1
 exact (h.2.2.2 q hq).imp_right fun h => ⟨by omega, h⟩
theorem rword_is (s : ByteArray) : EndsP (fun k => P.cleatref09_IsWord.f k s) (fun b => b = true ↔ IsW s) := by
 have go : ∀ (j i : Nat), i + j = s.size → s.size ≤ 31 → EndsP (fun k => P.cleatref09_run.l0 k s 0 (i : Int)) (fun t => t = (s.size : Int) ↔ ∀ q, i ≤ q → q < s.size → isLq (bt s (q : Int)) = true ∨ isDq (bt s (q : Int)) = true) := by
  intro j
  induction j with
  | zero =>
   intro i hi hs
   have e0 : wrap64 (0 + (i : Int)) = (i : Int) := by rw [wrap64_small _ (by omega) (by omega)]; omega
   refine EndsP.step (fun k => P.cleatref09_run.l0.eq_2 _ _ _ _) ?_
   rw [e0]
   exact EndsP.ite (fun h => absurd h (by omega)) fun _ => EndsP.now _ ⟨fun _ q a b => by omega, fun _ => by omega⟩
  | succ j ih =>
   intro i hi hs
   have e0 : wrap64 (0 + (i : Int)) = (i : Int) := by rw [wrap64_small _ (by omega) (by omega)]; omega
   have e1 : wrap64 ((i : Int) + 1) = ((i + 1 : Nat) : Int) := by rw [wrap64_small _ (by omega) (by omega)]; rfl
   obtain ⟨hL, hD, _, _, _⟩ := byte_facts s i
   have more : (isLq (bt s (i : Int)) = true ∨ isDq (bt s (i : Int)) = true) → EndsP (fun k => P.cleatref09_run.l0 k s 0 ((i + 1 : Nat) : Int)) (fun t => t = (s.size : Int) ↔ ∀ q, i ≤ q → q < s.size → isLq (bt s (q : Int)) = true ∨ isDq (bt s (q : Int)) = true) := by
    intro h
    obtain ⟨r, hr, hx⟩ := ih (i + 1) (by omega) hs
    refine ⟨r, hr, hx.trans ⟨fun k q a b => ?_, fun k q a b => k q (by omega) b⟩⟩
    rcases Nat.eq_or_lt_of_le a with rfl | c
    ·exact h
    exact k q c b
   refine EndsP.step (fun k => P.cleatref09_run.l0.eq_2 _ _ _ _) ?_
   rw [e0, e1, hL, hD]
   refine EndsP.ite (fun _ => EndsP.ite (fun _ => ?_) fun h => absurd (by omega) h) fun h => absurd (by omega) h
   refine EndsP.ite (fun c => more (.inr c)) fun c => EndsP.ite (fun c1 => more (.inl c1)) fun c1 => EndsP.now _ ⟨fun h => absurd h (by omega), fun h => ((h i (Nat.le_refl _) (by omega)).elim (fun x => absurd x c1) fun x => absurd x c)⟩
 unfold P.cleatref09_IsWord.f
 refine EndsP.ite (fun c => EndsP.ite (fun c1 => EndsP.ite (fun c2 => ?_) fun h => absurd (by omega) h) fun c1 => EndsP.now _ ⟨fun e => absurd e (by decide), fun h => absurd h.2.1 (by omega)⟩) fun c => EndsP.now _ ⟨fun e => absurd e (by decide), fun h => absurd h.1 (by omega)⟩
 rw [show (0 : Int) = ((0 : Nat) : Int) from rfl, (byte_facts s 0).1]
 refine EndsP.ite (fun c3 => ?_) fun c3 => EndsP.now _ ⟨fun e => absurd e (by decide), fun h => absurd h.2.2.1 c3⟩
 obtain ⟨r, hr, hx⟩ := go s.size 0 (by omega) (by omega)
 refine EndsP.bind (q := fun t => t = (s.size : Int) ↔ ∀ q, 0 ≤ q → q < s.size → isLq (bt s (q : Int)) = true ∨ isDq (bt s (q : Int)) = true) ⟨r, hr, hx⟩ fun t _ ht => EndsP.now _ ?_
 rw [beq_iff_eq]
 exact ht.trans ⟨fun h => ⟨by omega, by omega, c3, fun i hi => h i (Nat.zero_le _) hi⟩, fun h q _ hq => h.2.2.2 q hq⟩
theorem label_ends (s : ByteArray) : Ends (fun k => P.cleatref11_Label.f k s) := by
 have l0 : 2 ≤ s.size → s.size ≤ 5 → ∀ (d i : Nat) (v : Int), i + d + 1 = s.size → Ends (fun k => P.cleatref11_Label.l0 k s v (i : Int)) := by
  intro h2 h5 d
  have e0 : wrap64 ((s.size : Int) - 1) = (s.size : Int) - 1 := wrap64_small _ (by omega) (by omega)
  induction d with
  | zero =>
   intro i v hi
   refine Ends.step (fun k => P.cleatref11_Label.l0.eq_2 _ _ _ _) ?_
   rw [e0]
   exact Ends.ite (fun h => absurd h (by omega)) fun _ => Ends.ite (fun _ => Ends.ite (fun _ => Ends.ite (fun _ => Ends.now _) fun _ => Ends.ite (fun _ => Ends.now _) fun _ => Ends.now _) fun h => absurd (by omega) h) fun h => absurd (by omega) h
  | succ d ih =>
   intro i v hi
   have e1 : wrap64 ((i : Int) + 1) = ((i + 1 : Nat) : Int) := by rw [wrap64_small _ (by omega) (by omega)]; rfl
   refine Ends.step (fun k => P.cleatref11_Label.l0.eq_2 _ _ _ _) ?_
   rw [e0, e1]
   exact Ends.ite (fun _ => Ends.ite (fun _ => Ends.ite (fun _ => Ends.ite (fun _ => Ends.now _) fun _ => Ends.ite (fun _ => Ends.now _) fun _ => ih (i + 1) _ (by omega)) fun h => absurd (by omega) h) fun h => absurd (by omega) h) fun h => absurd (by omega) h
 have j0 : ∀ x : Bool, (x = false → 2 ≤ s.size ∧ s.size ≤ 5) → Ends (fun k => P.cleatref11_Label.j0 k s x) := fun x hx =>
  Ends.step (fun k => P.cleatref11_Label.j0.eq_2 _ _ _) (Ends.ite (fun _ => Ends.now _) fun h => by
   obtain ⟨a, b⟩ := hx (by simpa using h)
   exact l0 a b (s.size - 1) 0 0 (by omega))
 unfold P.cleatref11_Label.f
 exact Ends.ite (fun _ => j0 _ (fun h => by cases h)) fun _ => j0 _ (fun h => ⟨by omega, by have := of_decide_eq_false h; omega⟩)
def NameQ (s : ByteArray) : Prop := s.toList ∉ shs ∧ ¬ IsReg s.toList ∧ IsW s
theorem pname_is (s : ByteArray) : EndsP (fun k => P.local_IsName.f k s) (fun b => b = true ↔ NameQ s) := by
 obtain ⟨t, ht, htq⟩ := reg_is s
 obtain ⟨b, hb, hbq⟩ := word_is s
 have j0 : ∀ x : Bool, (x = true ↔ s.toList ∈ shs) → EndsP (fun k => P.local_IsName.j0 k s x) (fun b => b = true ↔ NameQ s) := by
  intro x hx
  refine EndsP.step (fun k => P.local_IsName.j0.eq_2 _ _ _) (EndsP.ite (fun c => EndsP.now _ ⟨fun h => absurd h (by decide), fun h => absurd (hx.1 c) h.1⟩) fun c => ?_)
  refine EndsP.bind (q := fun u => u = t) ⟨t, ht, rfl⟩ fun u _ hu => ?_
  subst hu
  refine EndsP.ite (fun c2 => EndsP.now _ ⟨fun h => absurd h (by decide), fun h => absurd (htq.1 c2) h.2.1⟩) fun c2 => ?_
  exact EndsP.bind (q := fun u => u = b) ⟨b, hb, rfl⟩ fun u _ hu => EndsP.now _ (by
   subst hu
   exact hbq.trans ⟨fun h => ⟨fun k => c (hx.2 k), fun k => c2 (htq.2 k), h⟩, fun h => h.2.2⟩)
 have mem : ∀ l : List UInt8, l ∈ shs → s.toList = l → ((s.toList == l) = true ↔ s.toList ∈ shs) := fun l hl e => by
  rw [beq_iff_eq]
  exact ⟨fun h => h ▸ hl, fun _ => e⟩
 unfold P.local_IsName.f
 refine EndsP.ite (fun c => j0 _ (mem _ (by simp [shs]) c)) fun c1 => EndsP.ite (fun c => j0 _ (mem _ (by simp [shs]) c)) fun c2 => EndsP.ite (fun c => j0 _ (mem _ (by simp [shs]) c)) fun c3 => j0 _ ?_
 rw [beq_iff_eq]
 constructor
 ·intro h
  rw [h]
  simp [shs]
 intro h
 simp only [shs, List.mem_cons, List.not_mem_nil, or_false] at h
 rcases h with h | h | h | h
 ·exact absurd h c1
 ·exact absurd h c2
 ·exact absurd h c3
 exact h
theorem rname_is (s : ByteArray) : EndsP (fun k => P.cleatref14_IsName.f k s) (fun b => b = true ↔ NameQ s) := by
 obtain ⟨l, hl⟩ := label_ends s
 obtain ⟨t, ht, htq⟩ := rreg_is s
 obtain ⟨b, hb, hbq⟩ := rword_is s
 obtain ⟨z, hz, hzq⟩ := shift_is s
 have hn : EndsP (fun k => P.cleatref11_named.f k 1 s 0) (fun b => b = true ↔ NameQ s) := by
  unfold P.cleatref11_named.f
  refine EndsP.bind (q := fun u => u = l) ⟨l, hl, rfl⟩ fun u _ hu => EndsP.bind (q := fun u => u = t) ⟨t, ht, rfl⟩ fun u2 _ hu2 => ?_
  subst hu hu2
  refine EndsP.ite (fun h => absurd h (by decide)) fun _ => EndsP.ite (fun _ => ?_) fun h => absurd rfl h
  refine EndsP.bind (q := fun u => u = b) ⟨b, hb, rfl⟩ fun u3 _ hu3 => ?_
  subst hu3
  refine EndsP.ite (fun c => ?_) fun c => EndsP.now _ ⟨fun h => absurd h (by decide), fun h => absurd (hbq.2 h.2.2) c⟩
  refine EndsP.ite (fun c2 => EndsP.now _ ⟨fun h => absurd h (by decide), fun h => absurd (htq.1 c2) h.2.1⟩) fun c2 => ?_
  refine EndsP.bind (q := fun u => u = z) ⟨z, hz, rfl⟩ fun u4 _ hu4 => EndsP.now _ ?_
  subst hu4
  rw [decide_eq_true_iff, hzq]
  exact ⟨fun h => ⟨h, fun k => c2 (htq.2 k), hbq.1 c⟩, fun h => h.1⟩
 unfold P.cleatref14_IsName.f P.cleatref11_Name.f
 exact EndsP.bind (EndsP.bind hn fun u _ hu => EndsP.now _ hu) fun u _ hu => EndsP.now _ hu
theorem names_one (s : ByteArray) : ∃ b, Ev (fun k => P.cleatref14_IsName.f k s) b ∧ Ev (fun k => P.local_IsName.f k s) b := by
 obtain ⟨a, ha, hq⟩ := rname_is s
 obtain ⟨b, hb, hq2⟩ := pname_is s
 have : a = b := by
  rw [Bool.eq_iff_iff, hq, hq2]
 subst this
 exact ⟨a, ha, hb⟩
end Go.Proofs.YtngmipfodjgmmaaGreatDoor.Pure
end
section
namespace Go.Proofs.YtngmipfodjgmmaaGreatDoor.Pure
open Go Go.RowKit Go.Lib Go.Shelf Wa Wb Wc
theorem ris_sec (s : Sc) (A : Option Addr) (c : Nat) (w : World) (hc : s.rels.length ≤ c) (hr : Kd.C P.k98 w A s.rels.length s.rels) :
 Calls Tryz.prog 60 #[.agg #[.string s.n, .int .i64 s.kd, .bool s.keep, .int .i64 s.al, .string s.data, .slice A s.rels.length c]] w (RIsPost s w) := by
 have HR := Azz.mk hr
 obtain ⟨nb, ⟨K, hK⟩, hn2⟩ := names_one s.n
 have HNm := Azz.mk (fun W => P.cleatref14_IsName.calls K _ nb W (hK K (Nat.le_refl _)))
 have HN2 := Azz.mk hn2
 have no : ¬ Right s → ∀ w', Below w.heap.size w w' → RIsPost s w (.returned (.bool false)) w' := fun h w' hb => ⟨false, rfl, isB_no h, hb⟩
 have HNo := Azz.mk no
 clear hr hK hn2 no
 go_enter Tryz.func60, Tryz.ntmps60
 go_wp2_with fail
 (with_reducible refine (HNm.out _).mono ?_)
 rintro en w1 ⟨rfl, hb⟩
 have HX := Azz.mk (kBB (blk_new w (.cells #[.string s.n, .int .i64 s.kd, .bool s.keep, .int .i64 s.al, .string s.data, .slice A s.rels.length c] 64)) hb)
 have HB := Azz.mk (bTT ((Below.refl _ w).alloc (Nat.le_refl _) _) hb)
 obtain ⟨z0, z1, z2, z3, z4, z5⟩ := cl6 HX.out
 clear hb HNm
 cases nb with
 | false =>
  go_wp2
  go_ret
  exact HNo.out (fun h => absurd (Ev.one h.name HN2.out) (by decide)) _ HB.out
 | true =>
  by_cases c0 : s.kd < 1
  ·have b0 : decide (s.kd < 1) = true := dT_ c0
   have HC := Azz.mk c0
   clear c0
   go_wp2
   go_ret
   exact HNo.out (fun h => by have := h.kind.1; have := HC.out; omega) _ HB.out
  have b0 : decide (s.kd < 1) = false := dF_ c0
  have HC0 := Azz.mk c0
  clear c0
  by_cases c1 : 3 < s.kd
  ·have b1 : decide (3 < s.kd) = true := dT_ c1
   have HC := Azz.mk c1
   clear c1
   go_wp2
   go_ret
   exact HNo.out (fun h => by have := h.kind.2; have := HC.out; omega) _ HB.out
  have b1 : decide (3 < s.kd) = false := dF_ c1
  have HC1 := Azz.mk c1
  clear c1
  by_cases c2 : s.al < 0
  ·have b2 : decide (s.al < 0) = true := dT_ c2
   have HC := Azz.mk c2
   clear c2
   go_wp2
   go_ret
   exact HNo.out (fun h => by have := h.al.1; have := HC.out; omega) _ HB.out
  have b2 : decide (s.al < 0) = false := dF_ c2
  have HC2 := Azz.mk c2
  clear c2
  by_cases c3 : 12 < s.al
  ·have b3 : decide (12 < s.al) = true := dT_ c3
   have HC := Azz.mk c3
   clear c3
   go_wp2
   go_ret
   exact HNo.out (fun h => by have := h.al.2; have := HC.out; omega) _ HB.out
  have b3 : decide (12 < s.al) = false := dF_ c3
  have HC3 := Azz.mk c3
  clear c3
  by_cases c4 : (4096 : Int) < (s.data.size : Int)
  ·have b4 : decide ((4096 : Int) < (s.data.size : Int)) = true := dT_ c4
   have HC := Azz.mk c4
   clear c4
   go_wp2
   go_ret
   exact HNo.out (fun h => by have := h.data; have := HC.out; omega) _ HB.out
  have b4 : decide ((4096 : Int) < (s.data.size : Int)) = false := dF_ c4
  have HC4 := Azz.mk c4
  clear c4
  by_cases c5 : (64 : Int) < (s.rels.length : Int)
  ·have b5 : decide ((64 : Int) < (s.rels.length : Int)) = true := dT_ c5
   have HC := Azz.mk c5
   clear c5
   go_wp2
   go_ret
   exact HNo.out (fun h => by have := h.rels; have := HC.out; omega) _ HB.out
  have b5 : decide ((64 : Int) < (s.rels.length : Int)) = false := dF_ c5
  have HC5 := Azz.mk c5
  clear c5
  go_wp2
  clear z0 z1 z2 z3 z4 z5
  go_loopw [3, 4] (fun v3 v4 wr => ∃ (i : Nat) (e : Int), i ≤ s.rels.length ∧ v4 = .int .i64 i ∧ v3 = .int .i64 e ∧ Azz ((0 ≤ e ∧ e ≤ 4096) ∧ (RelsOk s.kd s.data 0 s.rels ↔ RelsOk s.kd s.data e (s.rels.drop i))) ∧ Azz (wr.heap[w.heap.size]? = some (.cells #[.string s.n, .int .i64 s.kd, .bool s.keep, .int .i64 s.al, .string s.data, .slice A s.rels.length c] 64 (0, 0))) ∧ Azz (Below w.heap.size w wr)) (fun _ v _ => s.rels.length - (RowKit.intOf v).toNat)
  case atStart => exact ⟨0, 0, Nat.zero_le _, rfl, rfl, ⟨⟨by decide, by decide⟩, by rw [List.drop_zero]⟩, HX, HB⟩
  case round =>
   clear HX HB
   obtain ⟨i, e, hi, rfl, rfl, HE, HX, HB⟩ := hrel
   obtain ⟨z0, z1, z2, z3, z4, z5⟩ := cl6 HX.out
   have HL := Azz.mk (show s.rels.length ≤ 64 by have := HC5.out; omega)
   by_cases hlt : i < s.rels.length
   rotate_left
   ·obtain rfl : i = s.rels.length := by omega
    go_wp2
    go_ret
    refine ⟨true, rfl, (is_iff s).2 ⟨HN2.out, ⟨by have := HC0.out; omega, by have := HC1.out; omega⟩, ⟨by have := HC2.out; omega, by have := HC3.out; omega⟩, by have := HC4.out; omega, HL.out, HE.out.2.2 ?_⟩, HB.out⟩
    rw [List.drop_length]
    trivial
   obtain ⟨ad, ea, y0, y1, y2, y3⟩ := P.at_T98 (Kd.C_below HR.out HB.out) i (by omega) (by omega)
   subst ea
   rw [Int.toNat_natCast] at y0 y1 y2 y3
   have hdr := rd_drop s.rels i hlt
   obtain ⟨r, hr⟩ : ∃ r, P.rd_T98 s.rels i = r := ⟨_, rfl⟩
   rw [hr] at y0 y1 y2 y3 hdr
   have HDr := Azz.mk hdr
   have HRl := Azz.mk (rrel_any s r e HE.out.1.1 (by have := HC4.out; omega) (some ad) c)
   have HSz := Azz.mk (rsize_calls r.f1)
   have i0 : (0 : Int) ≤ (i : Int) := by omega
   have i1 : (i : Int) < s.rels.length := by omega
   clear hr hdr
   go_wp2
   go_region_held3 (fun w' => w'.cell? ⟨w.heap.size, 0, none⟩ = some (.string s.n) ∧ w'.cell? ⟨w.heap.size, 1, none⟩ = some (.int .i64 s.kd) ∧ w'.cell? ⟨w.heap.size, 2, none⟩ = some (.bool s.keep) ∧ w'.cell? ⟨w.heap.size, 3, none⟩ = some (.int .i64 s.al) ∧ w'.cell? ⟨w.heap.size, 4, none⟩ = some (.string s.data) ∧ w'.cell? ⟨w.heap.size, 5, none⟩ = some (.slice (some ad) s.rels.length c) ∧ w'.cell? (ad.add (i * 4)) = some (.int .i64 r.f0) ∧ w'.cell? ⟨(ad.add (i * 4)).block, (ad.add (i * 4)).off + 1, none⟩ = some (.int .i64 r.f1) ∧ w'.cell? ⟨(ad.add (i * 4)).block, (ad.add (i * 4)).off + 2, none⟩ = some (.int .i64 r.f2) ∧ w'.cell? ⟨(ad.add (i * 4)).block, (ad.add (i * 4)).off + 3, none⟩ = some (.int .i64 r.f3)) (first | go_keep | exact kp10 (by assumption) hb) (first | (go_at_call 72; (with_reducible refine (HRl.out _).mono ?_); rintro en w2 ⟨b, rfl, hgood, hb⟩; (have HGd := Azz.mk hgood)))
   have hb1 := (show Below wr.heap.size wr w2 from bTT (by repeat (first | exact Below.refl _ _ | apply bDD | apply bNN)) hb)
   have HX2 := Azz.mk (kBB HX.out hb1)
   have HB2 := Azz.mk (bTT HB.out hb1)
   replace y0 := kp1 y0 hb1
   replace y1 := kp1 y1 hb1
   clear hb hb1 HX HB z0 z1 z2 z3 z4 z5 y2 y3 HRl hgood
   cases b with
   | false =>
    go_wp2
    go_ret
    refine HNo.out (fun h => ?_) _ HB2.out
    have h2 := HE.out.2.1 h.each
    rw [HDr.out] at h2
    obtain ⟨a1, a2, a3, a4, _⟩ := h2
    exact absurd (HGd.out.2 ⟨a1, a2, a3, a4⟩) (by decide)
   | true =>
    obtain ⟨z0, z1, z2, z3, z4, z5⟩ := cl6 HX2.out
    clear z0 z1 z2 z3 z4
    have hL64 := HL.out
    go_wp2
    repeat (go_quiet (first | (go_at_call 73; (with_reducible refine (HSz.out _).mono ?_); rintro e w' ⟨rfl, ⟨nd, rfl⟩⟩; (try first | exact ⟨rfl, _, dd2⟩ | exact ⟨rfl, _, dd3⟩))); try go_wp2)
    obtain ⟨g1, g2, g3, g4⟩ : RelGood s r e := by simpa using HGd.out
    have hsz := sz_pos r
    have he0 := HE.out.1.1
    have ew : wrap64 (r.f0 + (if r.f1 = 1 then 8 else 4)) = r.f0 + szR r := by
     show wrap64 (r.f0 + szR r) = r.f0 + szR r
     have := HC4.out
     exact wrap64_small _ (by omega) (by omega)
    have HEw := Azz.mk ew
    have HG := Azz.mk (And.intro g1 (And.intro g2 (And.intro g3 g4)))
    clear g1 g2 g3 g4 hsz he0 ew
    go_roundw
    case rel =>
     obtain ⟨g1, g2, g3, g4⟩ := HG.out
     refine ⟨i + 1, r.f0 + szR r, by omega, by go_num, congrArg _ HEw.out, ⟨⟨?_, ?_⟩, ?_⟩, ⟨HX2.out⟩, ⟨bNN HB2.out _⟩⟩
     ·have := sz_pos r
      have := HE.out.1.1
      omega
     ·have := HC4.out
      omega
     rw [HE.out.2, HDr.out]
     exact ⟨fun h => h.2.2.2.2, fun h => ⟨g1, g2, g3, g4, h⟩⟩
    case measure => simp [RowKit.intOf]; omega
end Go.Proofs.YtngmipfodjgmmaaGreatDoor.Pure
end
section
namespace Go.Proofs.YtngmipfodjgmmaaGreatDoor.Reach
inductive RS (nd : Nat → List Nat) (R : Nat → Prop) : Nat → Prop
 | root {i : Nat} : R i → RS nd R i
 | step {i j : Nat} : RS nd R i → j ∈ nd i → RS nd R j
def sn (seen : List Bool) (i : Nat) : Prop := seen.getD i false = true
structure Sp (nd : Nat → List Nat) (R : Nat → Prop) (n : Nat) (seen : List Bool) (wait : List Nat) (at_ : Option (Nat × List Nat)) : Prop where
 len : seen.length = n
 sound : ∀ i, sn seen i → RS nd R i
 wseen : ∀ i ∈ wait, sn seen i
 clos : ∀ i, sn seen i → i ∈ wait ∨ (∃ p, at_ = some p ∧ i = p.1 ∧ ∀ j ∈ p.2, sn seen j) ∨ ∀ j ∈ nd i, sn seen j
def left (seen : List Bool) (wait : List Nat) : Nat := 2 * seen.count false + wait.length
theorem sn_lt {seen : List Bool} {i : Nat} (h : sn seen i) : i < seen.length := by
 unfold sn at h
 rw [List.getD_eq_getElem?_getD] at h
 by_cases c : i < seen.length
 ·exact c
 rw [List.getElem?_eq_none (by omega)] at h
 cases h
theorem sn_set {seen : List Bool} {k : Nat} (hk : k < seen.length) (i : Nat) : sn (seen.set k true) i ↔ i = k ∨ sn seen i := by
 unfold sn
 rw [List.getD_eq_getElem?_getD, List.getD_eq_getElem?_getD, List.getElem?_set]
 by_cases c : k = i
 ·subst c
  rw [if_pos rfl, if_pos hk]
  simp
 rw [if_neg c]
 constructor
 ·exact .inr
 rintro (e | h)
 ·exact absurd e.symm c
 exact h
theorem count_set {seen : List Bool} : ∀ {k : Nat}, k < seen.length → ¬ sn seen k → (seen.set k true).count false + 1 = seen.count false := by
 induction seen with
 | nil => intro k hk; exact absurd hk (Nat.not_lt_zero _)
 | cons b l ih =>
  intro k hk hn
  cases k with
  | zero =>
   have hb : b = false := by
    cases b with
    | false => rfl
    | true => exact absurd rfl hn
   subst hb
   simp
  | succ k =>
   have := ih (k := k) (by simpa using hk) (by intro h; exact hn (by unfold sn at h ⊢; simpa using h))
   rw [List.set_cons_succ, List.count_cons, List.count_cons]
   omega
theorem Sp.mark_old {nd R n seen wait a pre k} (h : Sp nd R n seen wait (some (a, pre))) (hk : sn seen k) : Sp nd R n seen wait (some (a, pre ++ [k])) := by
 refine ⟨h.len, h.sound, h.wseen, fun i hi => ?_⟩
 rcases h.clos i hi with c | ⟨p, e, c, d⟩ | c
 ·exact .inl c
 ·cases e
  refine .inr (.inl ⟨_, rfl, c, fun j hj => ?_⟩)
  rcases List.mem_append.1 hj with hj | hj
  ·exact d j hj
  rw [List.mem_singleton.1 hj]; exact hk
 exact .inr (.inr c)
theorem Sp.mark_new {nd R n seen wait a pre k} (h : Sp nd R n seen wait (some (a, pre))) (hk : k < n) (hr : RS nd R k) : Sp nd R n (seen.set k true) (wait ++ [k]) (some (a, pre ++ [k])) := by
 have hs := fun i => sn_set (seen := seen) (k := k) (by rw [h.len]; exact hk) i
 refine ⟨by rw [List.length_set]; exact h.len, fun i hi => ?_, fun i hi => ?_, fun i hi => ?_⟩
 ·rcases (hs i).1 hi with rfl | hi
  ·exact hr
  exact h.sound i hi
 ·rcases List.mem_append.1 hi with hi | hi
  ·exact (hs i).2 (.inr (h.wseen i hi))
  exact (hs i).2 (.inl (List.mem_singleton.1 hi))
 rcases (hs i).1 hi with rfl | hi
 ·exact .inl (List.mem_append.2 (.inr (List.mem_singleton.2 rfl)))
 rcases h.clos i hi with c | ⟨p, e, c, d⟩ | c
 ·exact .inl (List.mem_append.2 (.inl c))
 ·cases e
  refine .inr (.inl ⟨_, rfl, c, fun j hj => ?_⟩)
  rcases List.mem_append.1 hj with hj | hj
  ·exact (hs j).2 (.inr (d j hj))
  exact (hs j).2 (.inl (List.mem_singleton.1 hj))
 exact .inr (.inr fun j hj => (hs j).2 (.inr (c j hj)))
theorem Sp.take {nd R n seen wait k} (h : Sp nd R n seen (wait ++ [k]) none) : Sp nd R n seen wait (some (k, [])) ∧ RS nd R k ∧ k < n := by
 have hk : sn seen k := h.wseen k (List.mem_append.2 (.inr (List.mem_singleton.2 rfl)))
 refine ⟨⟨h.len, h.sound, fun i hi => h.wseen i (List.mem_append.2 (.inl hi)), fun i hi => ?_⟩, h.sound k hk, by rw [← h.len]; exact sn_lt hk⟩
 rcases h.clos i hi with c | ⟨p, e, _⟩ | c
 ·rcases List.mem_append.1 c with c | c
  ·exact .inl c
  exact .inr (.inl ⟨_, rfl, List.mem_singleton.1 c, fun j hj => by cases hj⟩)
 ·cases e
 exact .inr (.inr c)
theorem Sp.next {nd R n seen wait a} (h : Sp nd R n seen wait (some (a, nd a))) : Sp nd R n seen wait none := by
 refine ⟨h.len, h.sound, h.wseen, fun i hi => ?_⟩
 rcases h.clos i hi with c | ⟨p, e, c, d⟩ | c
 ·exact .inl c
 ·cases e
  subst c
  exact .inr (.inr d)
 exact .inr (.inr c)
theorem Sp.start (nd R n) : Sp nd R n (List.replicate n false) [] none := by
 have no : ∀ i, ¬ sn (List.replicate n false) i := by
  intro i h
  unfold sn at h
  rw [List.getD_eq_getElem?_getD, List.getElem?_replicate] at h
  split at h <;> cases h
 exact ⟨List.length_replicate, fun i h => absurd h (no i), fun i h => (List.not_mem_nil h).elim, fun i h => absurd h (no i)⟩
theorem Sp.root_new {nd R n seen wait k} (h : Sp nd R n seen wait none) (hk : k < n) (hr : R k) : Sp nd R n (seen.set k true) (wait ++ [k]) none := by
 have hs := fun i => sn_set (seen := seen) (k := k) (by rw [h.len]; exact hk) i
 refine ⟨by rw [List.length_set]; exact h.len, fun i hi => ?_, fun i hi => ?_, fun i hi => ?_⟩
 ·rcases (hs i).1 hi with rfl | hi
  ·exact .root hr
  exact h.sound i hi
 ·rcases List.mem_append.1 hi with hi | hi
  ·exact (hs i).2 (.inr (h.wseen i hi))
  exact (hs i).2 (.inl (List.mem_singleton.1 hi))
 rcases (hs i).1 hi with rfl | hi
 ·exact .inl (List.mem_append.2 (.inr (List.mem_singleton.2 rfl)))
 rcases h.clos i hi with c | ⟨p, e, _⟩ | c
 ·exact .inl (List.mem_append.2 (.inl c))
 ·cases e
 exact .inr (.inr fun j hj => (hs j).2 (.inr (c j hj)))
theorem Sp.done {nd R n seen} (h : Sp nd R n seen [] none) (hR : ∀ i, R i → sn seen i) (i : Nat) : sn seen i ↔ RS nd R i := by
 refine ⟨h.sound i, fun hr => ?_⟩
 induction hr with
 | root hr => exact hR _ hr
 | step _ hj ih =>
  rcases h.clos _ ih with c | ⟨p, e, _⟩ | c
  ·cases c
  ·cases e
  exact c _ hj
def Mk (seen : List Bool) (wait : List Nat) (k : Nat) (seen' : List Bool) (wait' : List Nat) : Prop := (sn seen k ∧ seen' = seen ∧ wait' = wait) ∨ (¬ sn seen k ∧ seen' = seen.set k true ∧ wait' = wait ++ [k])
theorem Mk.left {seen wait k seen' wait'} (h : Mk seen wait k seen' wait') (hk : k < seen.length) : left seen' wait' ≤ left seen wait ∧ seen'.length = seen.length ∧ sn seen' k ∧ ∀ i, sn seen i → sn seen' i := by
 rcases h with ⟨a, rfl, rfl⟩ | ⟨a, rfl, rfl⟩
 ·exact ⟨Nat.le_refl _, rfl, a, fun _ h => h⟩
 have := count_set hk a
 refine ⟨?_, List.length_set, (sn_set hk k).2 (.inl rfl), fun i h => (sn_set hk i).2 (.inr h)⟩
 unfold Reach.left
 rw [List.length_append, List.length_singleton]
 omega
theorem Sp.root {nd R n seen wait k seen' wait'} (h : Sp nd R n seen wait none) (hm : Mk seen wait k seen' wait') (hk : k < n) (hr : R k) : Sp nd R n seen' wait' none := by
 rcases hm with ⟨a, rfl, rfl⟩ | ⟨a, rfl, rfl⟩
 ·exact h
 exact h.root_new hk hr
theorem Sp.mark {nd R n seen wait a pre k seen' wait'} (h : Sp nd R n seen wait (some (a, pre))) (hm : Mk seen wait k seen' wait') (hk : k < n) (hr : RS nd R k) : Sp nd R n seen' wait' (some (a, pre ++ [k])) := by
 rcases hm with ⟨a, rfl, rfl⟩ | ⟨a, rfl, rfl⟩
 ·exact h.mark_old a
 exact h.mark_new hk hr
theorem left_start (n : Nat) : Reach.left (List.replicate n false) [] = 2 * n := by simp [Reach.left]
theorem RS.wider {nd} {R S : Nat → Prop} (h : ∀ i, R i → S i) {i : Nat} (hr : RS nd R i) : RS nd S i := by
 induction hr with
 | root h1 => exact .root (h _ h1)
 | step _ h2 ih => exact .step ih h2
theorem RS.or {nd} {R S : Nat → Prop} (i : Nat) : RS nd (fun i => R i ∨ S i) i ↔ RS nd R i ∨ RS nd S i := by
 constructor
 ·intro h
  induction h with
  | root h => exact h.imp .root .root
  | step _ h ih => exact ih.imp (fun k => .step k h) (fun k => .step k h)
 rintro (h | h)
 ·exact h.wider fun _ => .inl
 exact h.wider fun _ => .inr
end Go.Proofs.YtngmipfodjgmmaaGreatDoor.Reach
end
