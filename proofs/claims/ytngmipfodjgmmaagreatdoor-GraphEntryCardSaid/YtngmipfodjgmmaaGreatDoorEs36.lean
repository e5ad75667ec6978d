/- Walks and plain laws of this claim, a part. -/
import Derived.Test.YtngmipfodjgmmaaGreatDoorEs35
namespace Go.Proofs.YtngmipfodjgmmaaGreatDoor.Pure
open Go Go.RowKit Go.Proofs.YtngmipfodjgmmaaGreatDoorW.PrintWords Go.Proofs.YtngmipfodjgmmaaGreatDoorW.PrintLast Go.Proofs.YtngmipfodjgmmaaGreatDoorW.PrintMore
set_option linter.unusedVariables false
set_option linter.unusedSimpArgs false
theorem pow_lt32 {n : Nat} (h : n < 32) : 2 ^ n < 4294967296 := Nat.pow_lt_pow_right (a := 2) (by decide) h
theorem wrap64_small (z : Int) (h : -9223372036854775808 ≤ z) (h2 : z < 9223372036854775808) : wrap64 z = z := by
 unfold wrap64
 omega
theorem field_ok (w a n : Nat) (hw : w < 4294967296) (hn : 1 ≤ n) (hn2 : n < 32) (ha : a + n ≤ 32) : P.bits_Field.f (w : Int) (a : Int) (n : Int) = some (((w / 2 ^ a % 2 ^ n : Nat) : Int), 0) := by
 unfold P.bits_Field.f P.bits_right.f
 have e1 : wrap64 (32 - (n : Int)) = 32 - n := wrap64_small _ (by omega) (by omega)
 rw [if_pos (by omega), if_pos (by omega), if_pos (by omega), e1, decide_eq_true (by omega), Option.bind_some, if_pos rfl, if_pos (by omega), if_pos (by omega)]
 have e2 : shr .u32 (w : Int) (a : Int) = ((w / 2 ^ a : Nat) : Int) := by
  unfold shr
  rw [Int.toNat_natCast, Nat.min_eq_left (by show a ≤ 32; omega)]
  push_cast
  rfl
 have hp := pow_lt32 hn2
 have hp1 : 1 ≤ 2 ^ n := Nat.one_le_two_pow
 have e3 : ((shl .u32 1 (n : Int)) - 1) % 4294967296 = ((2 ^ n - 1 : Nat) : Int) := by
  unfold shl
  rw [Int.toNat_natCast, Nat.min_eq_left (by show n ≤ 32; omega)]
  have : IntKind.u32.wrap (1 * (2 : Int) ^ n) = ((2 ^ n : Nat) : Int) := by
   rw [Int.one_mul]
   have := wrap_u32 (2 ^ n) hp
   push_cast at this ⊢
   exact this
  rw [this]
  omega
 rw [e2, e3, bits_and _ _ (Nat.lt_of_le_of_lt (Nat.div_le_self _ _) hw) (by omega), Nat.and_two_pow_sub_one_eq_mod]
theorem fld_ok (w a n : Nat) (hw : w < 4294967296) (hn : 1 ≤ n) (hn2 : n < 32) (ha : a + n ≤ 32) : P.fld (w : Int) (a : Int) (n : Int) = ((w / 2 ^ a % 2 ^ n : Nat) : Int) := by
 unfold P.fld P.code_part.f
 rw [field_ok w a n hw hn hn2 ha]
 have h1 : w / 2 ^ a % 2 ^ n < 2 ^ n := Nat.mod_lt _ (Nat.two_pow_pos n)
 have h2 := pow_lt32 hn2
 rw [Option.bind_some, Option.getD_some]
 exact wrap64_small _ (by omega) (by omega)
end Go.Proofs.YtngmipfodjgmmaaGreatDoor.Pure
