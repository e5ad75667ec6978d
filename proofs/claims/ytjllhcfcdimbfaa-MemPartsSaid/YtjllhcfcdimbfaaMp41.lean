/- What is loaded as eight is what is loaded one by one: of the rows of regions; and the number of a text's bytes. -/
import Derived.Test.YtjllhcfcdimbfaaMp39
namespace Go.Proofs.Ytjllhcfcdimbfaa.P
open Go Go.RowKit Go.Lib Go.Shelf Go.Proofs.YtjllhcfcdimbfaaW.PrintWords Go.Proofs.YtjllhcfcdimbfaaW.PrintLast Go.Proofs.YtjllhcfcdimbfaaW.PrintMore
set_option linter.unusedVariables false
set_option linter.unusedSimpArgs false
theorem numv_cons_drop (l : List Nat) : ∀ i, i < l.length → numv (l.drop i) = l.getD i 0 + 256 * numv (l.drop (i + 1)) := by
  intro i hi
  rw [List.drop_eq_getElem_cons hi]
  simp only [numv]
  rw [List.getD_eq_getElem?_getD, List.getElem?_eq_getElem hi]
  rfl
/-- The eight bytes: what is loaded from each. -/
theorem ld_each {d : Array Rg} (hg : Good d) {a : Int} {k f : Nat} (h : hit d a 8 = some (k, f)) (i : Nat) (hi : i < 8) : ld d (a + i) 1 = ((((cut d[k]! f 8).getD i 0 : Nat) : Int), 0) := by
  obtain ⟨hk, ha, hf⟩ := hit_some hg h
  have := hit_of hg (k := k) (f := f + i) (n := 1) hk (by decide) (by omega)
  rw [show d[k]!.at_ + ((f + i : Nat) : Int) = a + i by omega] at this
  unfold ld
  rw [this]
  dsimp only
  have e : cut d[k]! (f + i) 1 = [(cut d[k]! f 8).getD i 0] := by
    rw [cut_get _ _ _ _ hf hi]
    unfold cut
    rw [List.drop_eq_getElem_cons (show f + i < d[k]!.bytes.length by omega), List.getD_eq_getElem?_getD, List.getElem?_eq_getElem (show f + i < d[k]!.bytes.length by omega)]
    rfl
  rw [e]
  simp [numv]
theorem wd_of {d : Array Rg} (hg : Good d) {a : Int} {k f : Nat} (h : hit d a 8 = some (k, f)) : (wd d a).2 ≠ 0 ∧ (wd d a).1 = 0 ∨ wd d a = (((numv ((cut d[k]! f 8).take 4) : Nat) : Int), 0) := by
  obtain ⟨hk, ha, hf⟩ := hit_some hg h
  have := hit_of hg (k := k) (f := f) (n := 4) hk (by decide) (by omega)
  rw [← ha] at this
  unfold wd
  by_cases c : a % 4 = 0
  · rw [if_pos c, this]
    dsimp only
    by_cases c2 : d[k]!.kind = 1
    · rw [if_pos c2]
      right
      unfold cut
      rw [List.take_take]
      rfl
    · rw [if_neg c2]
      exact .inl ⟨by decide, rfl⟩
  · rw [if_neg c]
    exact .inl ⟨by decide, rfl⟩
theorem str_size (l : List Nat) : (strOfNums (ints l)).size = l.length := by
  unfold strOfNums ints
  show (Array.size _) = _
  simp
theorem str_bt (l : List Nat) (hb : ∀ x ∈ l, x < 256) (i : Nat) (hi : i < l.length) : bt (strOfNums (ints l)) i = (l.getD i 0 : Nat) := by
  have h1 : i < (strOfNums (ints l)).size := by rw [str_size]; exact hi
  unfold bt
  rw [Int.toNat_natCast, dif_pos h1]
  have e : (strOfNums (ints l))[i] = UInt8.ofNat l[i] := by
    unfold strOfNums ints
    show (Array.mk _)[i] = _
    simp
  rw [e]
  have := hb _ (List.getElem_mem hi)
  rw [List.getD_eq_getElem?_getD, List.getElem?_eq_getElem hi]
  simp [UInt8.toNat_ofNat', Nat.mod_eq_of_lt this]
theorem power_eq (n : Nat) (hn : n < 64) : cleatref01_Power.f (n + 1) n = some ((2 ^ n : Nat) : Int) := by
  have go : ∀ (j i : Nat), i + j = n → cleatref01_Power.l0 (j + 1) n ((2 ^ i : Nat) : Int) i = some ((2 ^ n : Nat) : Int) := by
    intro j
    induction j with
    | zero =>
      intro i hi
      obtain rfl : i = n := by omega
      rw [cleatref01_Power.l0, if_neg (by omega)]
    | succ j ih =>
      intro i hi
      have hp : 2 ^ (i + 1) ≤ 2 ^ 63 := Nat.pow_le_pow_right (by decide) (by omega)
      have e1 : wrap64 ((i : Int) + 1) = ((i + 1 : Nat) : Int) := by unfold wrap64; omega
      have e2 : IntKind.u64.wrap (2 * ((2 ^ i : Nat) : Int)) = ((2 ^ (i + 1) : Nat) : Int) := by
        rw [u64_wrap, Nat.pow_succ]
        have : 2 ^ (i + 1) = 2 ^ i * 2 := Nat.pow_succ ..
        omega
      rw [cleatref01_Power.l0, if_pos (by omega), e1, e2]
      exact ih (i + 1) (by omega)
  exact go n 0 (by omega)
theorem Number_eq (l : List Nat) (hl : l.length ≤ 8) (hb : ∀ x ∈ l, x < 256) : ∃ k, cleatref07_Number.f k (strOfNums (ints l)) = some ((numv l : Nat) : Int) := by
  have sz := str_size l
  have go : ∀ (j i : Nat), i + j = l.length → ∃ k, cleatref07_Number.l0 k (strOfNums (ints l)) ((numv (l.take i) : Nat) : Int) i = some ((numv l : Nat) : Int) := by
    intro j
    induction j with
    | zero =>
      intro i hi
      exact ⟨1, by rw [cleatref07_Number.l0, if_neg (by omega), List.take_of_length_le (by omega)]⟩
    | succ j ih =>
      intro i hi
      obtain ⟨k, hk⟩ := ih (i + 1) (by omega)
      have e1 : wrap64 ((i : Int) + 1) = ((i + 1 : Nat) : Int) := by unfold wrap64; omega
      have e8 : wrap64 (8 * (i : Int)) = ((8 * i : Nat) : Int) := by unfold wrap64; omega
      have hp := power_eq (8 * i) (by omega)
      have hx : l.getD i 0 < 256 := by
        rw [List.getD_eq_getElem?_getD, List.getElem?_eq_getElem (by omega)]
        exact hb _ (List.getElem_mem _)
      have hn := numv_lt (l.take i) (fun x hx => hb x (List.mem_of_mem_take hx))
      rw [List.length_take, Nat.min_eq_left (by omega)] at hn
      have hpow : 2 ^ (8 * i) * 256 ≤ 2 ^ 64 := by
        rw [show 256 = 2 ^ 8 by decide, ← Nat.pow_add]
        exact Nat.pow_le_pow_right (by decide) (by omega)
      have hm1 : 2 ^ (8 * i) * l.getD i 0 + 2 ^ (8 * i) ≤ 2 ^ (8 * i) * 256 := by
        rw [← Nat.mul_succ]
        exact Nat.mul_le_mul_left _ hx
      have et : numv (l.take (i + 1)) = numv (l.take i) + 2 ^ (8 * i) * l.getD i 0 := by
        rw [List.take_succ_eq_append_getElem (by omega), numv_snoc, List.length_take, Nat.min_eq_left (by omega), List.getD_eq_getElem?_getD, List.getElem?_eq_getElem (by omega)]
        rfl
      refine ⟨k + (8 * i + 1) + 1, ?_⟩
      have hp' : cleatref01_Power.f (k + (8 * i + 1)) ((8 * i : Nat) : Int) = some ((2 ^ (8 * i) : Nat) : Int) := by
        have : ∀ m, cleatref01_Power.f (m + (8 * i + 1)) ((8 * i : Nat) : Int) = some ((2 ^ (8 * i) : Nat) : Int) := by
          intro m
          induction m with
          | zero => rw [Nat.zero_add]; exact hp
          | succ m ih => rw [Nat.succ_add]; exact cleatref01_Power.mono _ _ _ ih
        exact this k
      have hk' : cleatref07_Number.l0 (k + (8 * i + 1)) (strOfNums (ints l)) ((numv (l.take (i + 1)) : Nat) : Int) ((i + 1 : Nat) : Int) = some ((numv l : Nat) : Int) := by
        have : ∀ m, cleatref07_Number.l0 (k + m) (strOfNums (ints l)) ((numv (l.take (i + 1)) : Nat) : Int) ((i + 1 : Nat) : Int) = some ((numv l : Nat) : Int) := by
          intro m
          induction m with
          | zero => exact hk
          | succ m ih => exact cleatref07_Number.mono_l _ _ _ _ _ ih
        exact this _
      rw [cleatref07_Number.l0, if_pos (by omega), if_pos (by omega), if_pos (by omega), e8, hp', Option.bind_some, str_bt l hb i (by omega), e1]
      have w1 : IntKind.u64.wrap ((l.getD i 0 : Nat) : Int) = ((l.getD i 0 : Nat) : Int) := by rw [u64_wrap]; omega
      have w2 : IntKind.u64.wrap (((l.getD i 0 : Nat) : Int) * ((2 ^ (8 * i) : Nat) : Int)) = ((2 ^ (8 * i) * l.getD i 0 : Nat) : Int) := by
        rw [u64_wrap, ← Int.natCast_mul, Nat.mul_comm]
        omega
      have w3 : IntKind.u64.wrap (((numv (l.take i) : Nat) : Int) + ((2 ^ (8 * i) * l.getD i 0 : Nat) : Int)) = ((numv (l.take (i + 1)) : Nat) : Int) := by
        rw [u64_wrap, et]
        omega
      rw [w1, w2, w3]
      exact hk'
  obtain ⟨k, hk⟩ := go l.length 0 (by omega)
  exact ⟨k, by unfold cleatref07_Number.f; simpa [numv] using hk⟩
end Go.Proofs.Ytjllhcfcdimbfaa.P
