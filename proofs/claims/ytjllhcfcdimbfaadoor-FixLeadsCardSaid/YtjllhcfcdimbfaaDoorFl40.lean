/- The fields of words, read and made: what 'part', 'signed' and 'packed' are in whole numbers. -/
import Derived.Test.YtjllhcfcdimbfaaDoorFl39
import Derived.Test.YtjllhcfcdimbfaaDoorFl35
import Derived.Test.YtjllhcfcdimbfaaDoorFl31
namespace Go.Proofs.YtjllhcfcdimbfaaDoor.Pure
open Go Go.RowKit Go.Proofs.YtjllhcfcdimbfaaDoorW.PrintWords Go.Proofs.YtjllhcfcdimbfaaDoorW.PrintLast Go.Proofs.YtjllhcfcdimbfaaDoorW.PrintMore
set_option linter.unusedVariables false
set_option linter.unusedSimpArgs false
theorem pow_lt32 {n : Nat} (h : n < 32) : 2 ^ n < 4294967296 := Nat.pow_lt_pow_right (a := 2) (by decide) h
theorem wrap64_small (z : Int) (h : -9223372036854775808 ≤ z) (h2 : z < 9223372036854775808) : wrap64 z = z := by
  unfold wrap64
  omega
theorem i64_wrap (z : Int) (h : -9223372036854775808 ≤ z) (h2 : z < 9223372036854775808) : IntKind.i64.wrap z = z := by
  show (if (true && decide (z % 18446744073709551616 ≥ 9223372036854775808)) = true then z % 18446744073709551616 - 18446744073709551616 else z % 18446744073709551616) = z
  simp only [Bool.true_and, decide_eq_true_eq]
  split <;> omega
theorem field_ok (w a n : Nat) (hw : w < 4294967296) (hn : 1 ≤ n) (hn2 : n < 32) (ha : a + n ≤ 32) : P.bits_Field.f (w : Int) (a : Int) (n : Int) = some (((w / 2 ^ a % 2 ^ n : Nat) : Int), 0) := by
  unfold P.bits_Field.f P.bits_right.f
  have e1 : wrap64 (32 - (n : Int)) = 32 - n := wrap64_small _ (by omega) (by omega)
  rw [if_pos (by omega), if_pos (by omega), if_pos (by omega), e1, decide_eq_true (by omega), Option.bind_some, if_pos rfl, if_pos (by omega), if_pos (by omega)]
  have e2 : shr .u32 (w : Int) (a : Int) = ((w / 2 ^ a : Nat) : Int) := by
    unfold shr
    rw [Int.toNat_natCast, Nat.min_eq_left (by show a ≤ 32; omega)]
    push_cast
    rfl
  have hp := pow_lt32 hn2
  have hp1 : 1 ≤ 2 ^ n := Nat.one_le_two_pow
  have e3 : ((shl .u32 1 (n : Int)) - 1) % 4294967296 = ((2 ^ n - 1 : Nat) : Int) := by
    unfold shl
    rw [Int.toNat_natCast, Nat.min_eq_left (by show n ≤ 32; omega)]
    have : IntKind.u32.wrap (1 * (2 : Int) ^ n) = ((2 ^ n : Nat) : Int) := by
      rw [Int.one_mul]
      have := wrap_u32 (2 ^ n) hp
      push_cast at this ⊢
      exact this
    rw [this]
    omega
  rw [e2, e3, bits_and _ _ (Nat.lt_of_le_of_lt (Nat.div_le_self _ _) hw) (by omega), Nat.and_two_pow_sub_one_eq_mod]
theorem fld_ok (w a n : Nat) (hw : w < 4294967296) (hn : 1 ≤ n) (hn2 : n < 32) (ha : a + n ≤ 32) : P.fld (w : Int) (a : Int) (n : Int) = ((w / 2 ^ a % 2 ^ n : Nat) : Int) := by
  unfold P.fld P.code_part.f
  rw [field_ok w a n hw hn hn2 ha]
  have h1 : w / 2 ^ a % 2 ^ n < 2 ^ n := Nat.mod_lt _ (Nat.two_pow_pos n)
  have h2 := pow_lt32 hn2
  rw [Option.bind_some, Option.getD_some]
  exact wrap64_small _ (by omega) (by omega)
/-- A number of n bits as one with a sign. -/
def sgn (n v : Nat) : Int := if v < 2 ^ (n - 1) then (v : Int) else (v : Int) - 2 ^ n
theorem signed_ok (v n : Nat) (hn : 1 ≤ n) (hn2 : n < 32) (hv : v < 2 ^ n) : P.bits_Signed.f 1 (v : Int) (n : Int) = some (sgn n v, 0) := by
  unfold P.bits_Signed.f
  rw [if_neg (by omega), decide_eq_false (by omega), P.bits_Signed.j0, if_neg (by simp), if_pos (by omega)]
  have e2 : ∀ a : Nat, a < 32 → shr .u32 (v : Int) (a : Int) = ((v / 2 ^ a : Nat) : Int) := by
    intro a ha
    unfold shr
    rw [Int.toNat_natCast, Nat.min_eq_left (by show a ≤ 32; omega)]
    push_cast
    rfl
  have e3 : wrap64 ((n : Int) - 1) = ((n - 1 : Nat) : Int) := by rw [wrap64_small _ (by omega) (by omega)]; omega
  have hp := pow_lt32 hn2
  have hp2 : 2 ^ n = 2 * 2 ^ (n - 1) := by rw [← Nat.pow_succ']; congr 1; omega
  rw [e2 n hn2, Nat.div_eq_of_lt hv, if_pos (show ((0 : Nat) : Int) = 0 from rfl), e3, if_pos (by omega), e2 (n - 1) (by omega)]
  have e4 : shl .i64 1 (n : Int) = ((2 ^ n : Nat) : Int) := by
    unfold shl
    rw [Int.toNat_natCast, Nat.min_eq_left (by show n ≤ 64; omega), Int.one_mul]
    have : ((2 : Int) ^ n) = ((2 ^ n : Nat) : Int) := by push_cast; rfl
    rw [this, i64_wrap _ (by omega) (by omega)]
  unfold sgn
  by_cases h : v < 2 ^ (n - 1)
  · rw [if_pos h, Nat.div_eq_of_lt h, if_neg (by decide), wrap64_small _ (by omega) (by omega)]
  · rw [if_neg h]
    have e5 : v / 2 ^ (n - 1) = 1 := by
      rw [Nat.div_eq_iff (Nat.two_pow_pos _)]
      omega
    rw [e5, if_pos (show ((1 : Nat) : Int) = 1 from rfl), wrap64_small (v : Int) (by omega) (by omega), e4, wrap64_small _ (by omega) (by omega)]
    push_cast
    rfl
theorem sfl_ok (w a n : Nat) (hw : w < 4294967296) (hn : 1 ≤ n) (hn2 : n < 32) (ha : a + n ≤ 32) : P.sfl (w : Int) (a : Int) (n : Int) = sgn n (w / 2 ^ a % 2 ^ n) := by
  unfold P.sfl P.code_signed.f
  rw [field_ok w a n hw hn hn2 ha]
  simp only [Option.bind_some]
  rw [signed_ok _ n hn hn2 (Nat.mod_lt _ (Nat.two_pow_pos n))]
  rfl
/-- A number with a sign, packed into n bits. -/
theorem pk_ok (v : Int) (n : Nat) (hn : 1 ≤ n) (hn2 : n < 32) (h1 : -(2 ^ (n - 1) : Nat) ≤ v) (h2 : v < (2 ^ (n - 1) : Nat)) : P.pk v (n : Int) = v % (2 ^ n : Nat) := by
  have hp := pow_lt32 hn2
  have hp2 : 2 ^ n = 2 * 2 ^ (n - 1) := by rw [← Nat.pow_succ']; congr 1; omega
  have hp1 : 1 ≤ 2 ^ (n - 1) := Nat.one_le_two_pow
  unfold P.pk P.bits_Pack.f
  rw [if_neg (by omega), decide_eq_false (by omega), P.bits_Pack.j0, if_neg (by simp)]
  have e3 : wrap64 ((n : Int) - 1) = ((n - 1 : Nat) : Int) := by rw [wrap64_small _ (by omega) (by omega)]; omega
  have e4 : shl .i64 1 ((n - 1 : Nat) : Int) = ((2 ^ (n - 1) : Nat) : Int) := by
    unfold shl
    rw [Int.toNat_natCast, Nat.min_eq_left (by show n - 1 ≤ 64; omega), Int.one_mul]
    have : ((2 : Int) ^ (n - 1)) = ((2 ^ (n - 1) : Nat) : Int) := by push_cast; rfl
    rw [this, i64_wrap _ (by omega) (by omega)]
  have e5 : ((shl .u32 1 (n : Int)) - 1) % 4294967296 = ((2 ^ n - 1 : Nat) : Int) := by
    unfold shl
    rw [Int.toNat_natCast, Nat.min_eq_left (by show n ≤ 32; omega)]
    have : IntKind.u32.wrap (1 * (2 : Int) ^ n) = ((2 ^ n : Nat) : Int) := by
      rw [Int.one_mul]
      have := wrap_u32 (2 ^ n) hp
      push_cast at this ⊢
      exact this
    rw [this]
    omega
  rw [e3, if_pos (by omega), e4, wrap64_small _ (by omega) (by omega), if_neg (by omega), wrap64_small _ (by omega) (by omega), if_neg (by omega), if_pos (by omega), e5]
  obtain ⟨m, hm⟩ : ∃ m : Nat, v % 4294967296 = (m : Int) := ⟨(v % 4294967296).toNat, by omega⟩
  rw [hm, bits_and m _ (by omega) (by omega), Nat.and_two_pow_sub_one_eq_mod]
  show ((m % 2 ^ n : Nat) : Int) = _
  have hd : ((2 ^ n : Nat) : Int) ∣ 4294967296 := by
    refine ⟨((2 ^ (32 - n) : Nat) : Int), ?_⟩
    have e : (2 ^ n * 2 ^ (32 - n) : Nat) = 4294967296 := by rw [← Nat.pow_add, show n + (32 - n) = 32 by omega]
    have e' := congrArg (Nat.cast (R := Int)) e
    rw [Int.natCast_mul] at e'
    exact e'.symm
  rw [← Int.emod_emod_of_dvd v hd, hm]
  push_cast
  rfl
end Go.Proofs.YtjllhcfcdimbfaaDoor.Pure
