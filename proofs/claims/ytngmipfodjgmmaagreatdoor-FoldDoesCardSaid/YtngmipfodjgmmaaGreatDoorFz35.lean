/- Walks and plain laws of this claim, a part. -/
import Derived.Test.YtngmipfodjgmmaaGreatDoorFz33
set_option maxRecDepth 100000
set_option maxHeartbeats 8000000
set_option linter.unusedVariables false
set_option linter.unusedSimpArgs false
section
namespace Go.Proofs.YtngmipfodjgmmaaGreatDoor.Pure
open Go Go.RowKit Wa Wb Wc
theorem pow_lt32 {n : Nat} (h : n < 32) : 2 ^ n < 4294967296 := Nat.pow_lt_pow_right (a := 2) (by decide) h
theorem wrap64_small (z : Int) (h : -9223372036854775808 ≤ z) (h2 : z < 9223372036854775808) : wrap64 z = z := by
 unfold wrap64
 omega
theorem i64_wrap (z : Int) (h : -9223372036854775808 ≤ z) (h2 : z < 9223372036854775808) : IntKind.i64.wrap z = z := by
 show (if (true && decide (z % 18446744073709551616 ≥ 9223372036854775808)) = true then z % 18446744073709551616 - 18446744073709551616 else z % 18446744073709551616) = z
 simp only [Bool.true_and, decide_eq_true_eq]
 split <;> omega
theorem field_ok (w a n : Nat) (hw : w < 4294967296) (hn : 1 ≤ n) (hn2 : n < 32) (ha : a + n ≤ 32) : P.bits_Field.f (w : Int) (a : Int) (n : Int) = some (((w / 2 ^ a % 2 ^ n : Nat) : Int), 0) := by
 unfold P.bits_Field.f P.bits_right.f
 have e1 : wrap64 (32 - (n : Int)) = 32 - n := wrap64_small _ (by omega) (by omega)
 rw [if_pos (by omega), if_pos (by omega), if_pos (by omega), e1, dT_ (by omega), Option.bind_some, if_pos rfl, if_pos (by omega), if_pos (by omega)]
 have e2 : shr .u32 (w : Int) (a : Int) = ((w / 2 ^ a : Nat) : Int) := by
  unfold shr
  rw [Int.toNat_natCast, Nat.min_eq_left (by show a ≤ 32; omega)]
  push_cast
  rfl
 have hp := pow_lt32 hn2
 have hp1 : 1 ≤ 2 ^ n := Nat.one_le_two_pow
 have e3 : ((shl .u32 1 (n : Int)) - 1) % 4294967296 = ((2 ^ n - 1 : Nat) : Int) := by
  unfold shl
  rw [Int.toNat_natCast, Nat.min_eq_left (by show n ≤ 32; omega)]
  have : IntKind.u32.wrap (1 * (2 : Int) ^ n) = ((2 ^ n : Nat) : Int) := by
   rw [Int.one_mul]
   have := wrap_u32 (2 ^ n) hp
   push_cast at this ⊢
   exact this
  rw [this]
  omega
 rw [e2, e3, bits_and _ _ (Nat.lt_of_le_of_lt (Nat.div_le_self _ _) hw) (by omega), Nat.and_two_pow_sub_one_eq_mod]
theorem fld_ok (w a n : Nat) (hw : w < 4294967296) (hn : 1 ≤ n) (hn2 : n < 32) (ha : a + n ≤ 32) : P.fld (w : Int) (a : Int) (n : Int) = ((w / 2 ^ a % 2 ^ n : Nat) : Int) := by
 unfold P.fld P.code_part.f
 rw [field_ok w a n hw hn hn2 ha]
 have h1 : w / 2 ^ a % 2 ^ n < 2 ^ n := Nat.mod_lt _ (Nat.two_pow_pos n)
 have h2 := pow_lt32 hn2
 rw [Option.bind_some, Option.getD_some]
 exact wrap64_small _ (by omega) (by omega)
def sgn (n v : Nat) : Int := if v < 2 ^ (n - 1) then (v : Int) else (v : Int) - 2 ^ n
theorem signed_ok (v n : Nat) (hn : 1 ≤ n) (hn2 : n < 32) (hv : v < 2 ^ n) : P.bits_Signed.f 1 (v : Int) (n : Int) = some (sgn n v, 0) := by
 unfold P.bits_Signed.f
 rw [if_neg (by omega), dF_ (by omega), P.bits_Signed.j0, if_neg (by simp), if_pos (by omega)]
 have e2 : ∀ a : Nat, a < 32 → shr .u32 (v : Int) (a : Int) = ((v / 2 ^ a : Nat) : Int) := by
  intro a ha
  unfold shr
  rw [Int.toNat_natCast, Nat.min_eq_left (by show a ≤ 32; omega)]
  push_cast
  rfl
 have e3 : wrap64 ((n : Int) - 1) = ((n - 1 : Nat) : Int) := by rw [wrap64_small _ (by omega) (by omega)]; omega
 have hp := pow_lt32 hn2
 have hp2 : 2 ^ n = 2 * 2 ^ (n - 1) := by rw [← Nat.pow_succ']; congr 1; omega
 rw [e2 n hn2, Nat.div_eq_of_lt hv, if_pos (show ((0 : Nat) : Int) = 0 from rfl), e3, if_pos (by omega), e2 (n - 1) (by omega)]
 have e4 : shl .i64 1 (n : Int) = ((2 ^ n : Nat) : Int) := by
  unfold shl
  rw [Int.toNat_natCast, Nat.min_eq_left (by show n ≤ 64; omega), Int.one_mul]
  have : ((2 : Int) ^ n) = ((2 ^ n : Nat) : Int) := by push_cast; rfl
  rw [this, i64_wrap _ (by omega) (by omega)]
 unfold sgn
 by_cases h : v < 2 ^ (n - 1)
 ·rw [if_pos h, Nat.div_eq_of_lt h, if_neg (by decide), wrap64_small _ (by omega) (by omega)]
 rw [if_neg h]
 have e5 : v / 2 ^ (n - 1) = 1 := by
  rw [Nat.div_eq_iff (Nat.two_pow_pos _)]
  omega
 rw [e5, if_pos (show ((1 : Nat) : Int) = 1 from rfl), wrap64_small (v : Int) (by omega) (by omega), e4, wrap64_small _ (by omega) (by omega)]
 push_cast
 rfl
theorem sfl_ok (w a n : Nat) (hw : w < 4294967296) (hn : 1 ≤ n) (hn2 : n < 32) (ha : a + n ≤ 32) : P.sfl (w : Int) (a : Int) (n : Int) = sgn n (w / 2 ^ a % 2 ^ n) := by
 unfold P.sfl P.code_signed.f
 rw [field_ok w a n hw hn hn2 ha]
 simp only [Option.bind_some]
 rw [signed_ok _ n hn hn2 (Nat.mod_lt _ (Nat.two_pow_pos n))]
 rfl
end Go.Proofs.YtngmipfodjgmmaaGreatDoor.Pure
end
section
namespace Go.Proofs.YtngmipfodjgmmaaGreatDoor.P
open Go.RowKit Wa Wb Wc
attribute [local go_sem] max2_int min2_int max_two min_two max_three min_three max_four min_four
mutual
def inst_has.j0 : Nat → Int → Bool → Option (Bool × Bool × Bool × Bool)
 | 0, _, _ => none
 | k + 1, x6, x7 => if x7 = true then (some (true, false, false, false)) else (if x6 = 2 then (inst_has.j1 k x6 (x6 == 2)) else (if x6 = 3 then (inst_has.j1 k x6 (x6 == 3)) else (if x6 = 7 then (inst_has.j1 k x6 (x6 == 7)) else (inst_has.j1 k x6 (x6 == 8)))))
def inst_has.j1 : Nat → Int → Bool → Option (Bool × Bool × Bool × Bool)
 | 0, _, _ => none
 | k + 1, x6, x11 => if x11 = true then (some (true, true, false, false)) else (if x6 = 4 then (inst_has.j2 k x6 (x6 == 4)) else (if x6 = 5 then (inst_has.j2 k x6 (x6 == 5)) else (inst_has.j2 k x6 (x6 == 16))))
def inst_has.j2 : Nat → Int → Bool → Option (Bool × Bool × Bool × Bool)
 | 0, _, _ => none
 | k + 1, x6, x16 => if x16 = true then (some (true, true, true, false)) else (if x6 = 6 then (some (true, true, true, true)) else (if x6 = 13 then (some (false, true, false, false)) else (some (false, false, false, false))))
end
def inst_has.f (k : Nat) (a0 : Int) : Option (Bool × Bool × Bool × Bool) := if a0 = 1 then (inst_has.j0 k a0 (a0 == 1)) else (if a0 = 9 then (inst_has.j0 k a0 (a0 == 9)) else (inst_has.j0 k a0 (a0 == 10)))
theorem inst_has.mono_l : ∀ k, (∀ y0 y1, LeO (inst_has.j0 k y0 y1) (inst_has.j0 (k + 1) y0 y1)) ∧ (∀ y0 y1, LeO (inst_has.j1 k y0 y1) (inst_has.j1 (k + 1) y0 y1)) ∧ (∀ y0 y1, LeO (inst_has.j2 k y0 y1) (inst_has.j2 (k + 1) y0 y1))
 | 0 => ⟨fun _ _ r h => by simp [inst_has.j0] at h, fun _ _ r h => by simp [inst_has.j1] at h, fun _ _ r h => by simp [inst_has.j2] at h⟩
 | k + 1 => by
  obtain ⟨ih0, ih1, ih2⟩ := inst_has.mono_l k
  refine ⟨?_, ?_, ?_⟩
  ·intro y0 y1
   unfold inst_has.j0
   repeat' first
   | (with_reducible exact ih0 _ _)
   | (with_reducible exact ih1 _ _)
   | (with_reducible exact ih2 _ _)
   | (with_reducible exact LeO.refl _)
   | (with_reducible exact LeO.none _)
   | (with_reducible refine LeO.ite ?_ ?_)
   | (with_reducible refine LeO.bind ?_ (fun _ => ?_))
  ·intro y0 y1
   unfold inst_has.j1
   repeat' first
   | (with_reducible exact ih0 _ _)
   | (with_reducible exact ih1 _ _)
   | (with_reducible exact ih2 _ _)
   | (with_reducible exact LeO.refl _)
   | (with_reducible exact LeO.none _)
   | (with_reducible refine LeO.ite ?_ ?_)
   | (with_reducible refine LeO.bind ?_ (fun _ => ?_))
  intro y0 y1
  unfold inst_has.j2
  repeat' first
  | (with_reducible exact ih0 _ _)
  | (with_reducible exact ih1 _ _)
  | (with_reducible exact ih2 _ _)
  | (with_reducible exact LeO.refl _)
  | (with_reducible exact LeO.none _)
  | (with_reducible refine LeO.ite ?_ ?_)
  | (with_reducible refine LeO.bind ?_ (fun _ => ?_))
theorem inst_has.mono : ∀ a0 k, LeO (inst_has.f k a0) (inst_has.f (k + 1) a0) := by
 intro a0 k
 obtain ⟨ih0, ih1, ih2⟩ := inst_has.mono_l k
 unfold inst_has.f
 repeat' first
  | (with_reducible exact ih0 _ _)
  | (with_reducible exact ih1 _ _)
  | (with_reducible exact ih2 _ _)
  | (with_reducible exact LeO.refl _)
  | (with_reducible exact LeO.none _)
  | (with_reducible refine LeO.ite ?_ ?_)
  | (with_reducible refine LeO.bind ?_ (fun _ => ?_))
theorem inst_has.calls (k : Nat) (a0 : Int) (r1 : Bool) (r2 : Bool) (r3 : Bool) (r4 : Bool) (w : World) (h : inst_has.f k a0 = some (r1, r2, r3, r4)) :
 Calls Tryz.prog 122 #[.int .i64 a0] w fun e w' => e = .returned (.tuple #[.bool r1, .bool r2, .bool r3, .bool r4]) ∧ Drawn0 w w' := by
 have H : (if a0 = 1 then (inst_has.j0 k a0 (a0 == 1)) else (if a0 = 9 then (inst_has.j0 k a0 (a0 == 9)) else (inst_has.j0 k a0 (a0 == 10)))) = some (r1, r2, r3, r4) := h
 clear h
 have HC2 := Azz.mk H
 clear H
 go_enter Tryz.func122, Tryz.ntmps122
 go_upto_if 7 with (fail)
 go_cut [7] (fun v7 wc => ∃ (kq : Nat) (x7_1 : Bool), v7 = .bool x7_1 ∧ Azz (inst_has.j0 kq a0 x7_1 = some (r1, r2, r3, r4)) ∧ Azz (kq ≤ k) ∧ Drawn0 w wc)
 case first =>
  have H := HC2.out
  clear HC2
  by_cases c3 : a0 = 1
  ·rw [if_pos c3] at H
   obtain ⟨c3b0, c3b1⟩ := be_ c3
   clear c3
   (first | rw [c3b0] | (simp only [i64_w, i32_w]; rw [c3b0]) | skip)
   have H' := Azz.mk H
   clear H
   go_wp2
   go_meet
   case rel => exact ⟨_, ((a0 == 1)), eqS, H', ⟨leS⟩, d0S⟩
  rw [if_neg c3] at H
  obtain ⟨c3b0, c3b1⟩ := bn_ c3
  (first | rw [c3b0] | (simp only [i64_w, i32_w]; rw [c3b0]) | skip)
  by_cases c4 : a0 = 9
  ·rw [if_pos c4] at H
   obtain ⟨c4b0, c4b1⟩ := be_ c4
   clear c4
   have H' := Azz.mk H
   clear H
   go_wp2
   go_meet
   case rel => exact ⟨_, ((a0 == 9)), eqS, H', ⟨leS⟩, d0S⟩
  rw [if_neg c4] at H
  obtain ⟨c4b0, c4b1⟩ := bn_ c4
  have H' := Azz.mk H
  clear H
  go_wp2
  go_meet
  case rel => exact ⟨_, ((a0 == 10)), eqS, H', ⟨leS⟩, d0S⟩
 case rest =>
  clear HC2
  try clear c1
  try clear p2
  try clear c3
  try clear c3b0
  try clear c3b1
  try clear c4
  try clear c4b0
  try clear c4b1
  obtain ⟨kq, x7_1, rfl, HA, HJ1, ⟨mc1, rfl⟩⟩ := hcut
  cases kq with
  | zero => exact absurd HA.out (by simp [inst_has.j0])
  | succ kj1 =>
   have H := HA.out
   clear HA
   simp only [inst_has.j0] at H
   by_cases c5 : x7_1 = true
   ·subst c5
    rw [if_pos rfl] at H
    simp only [sJ_, pJ_] at H
    obtain ⟨rfl, rfl, rfl, rfl⟩ := H
    go_wp2
    refine bodyPost_ret (results_list (rs := [.tmp 2, .tmp 3, .tmp 4, .tmp 5]) rfl (by simp) (.tmp (.tmp (.tmp (.tmp .nil))))) rfl ?_
    exact ⟨by first | rfl | (simp; done) | (simp [*]; done), d0S⟩
   replace c5 := Bool.eq_false_iff.mpr c5
   subst c5
   rw [if_neg nFT] at H
   have HC6 := Azz.mk H
   clear H
   go_upto_if 11 with (fail)
   go_cut [11] (fun v11 wc => ∃ (kq : Nat) (x11_5 : Bool), v11 = .bool x11_5 ∧ Azz (inst_has.j1 kq a0 x11_5 = some (r1, r2, r3, r4)) ∧ Azz (kq ≤ kj1) ∧ Drawn0 w wc)
   case first =>
    have H := HC6.out
    clear HC6
    by_cases c7 : a0 = 2
    ·rw [if_pos c7] at H
     obtain ⟨c7b0, c7b1⟩ := be_ c7
     clear c7
     (first | rw [c7b0] | (simp only [i64_w, i32_w]; rw [c7b0]) | skip)
     have H' := Azz.mk H
     clear H
     go_wp2
     go_meet
     case rel => exact ⟨_, ((a0 == 2)), eqS, H', ⟨by have := HJ1.out; first | omega | exact Nat.le_refl _⟩, d0S⟩
    rw [if_neg c7] at H
    obtain ⟨c7b0, c7b1⟩ := bn_ c7
    (first | rw [c7b0] | (simp only [i64_w, i32_w]; rw [c7b0]) | skip)
    by_cases c8 : a0 = 3
    ·rw [if_pos c8] at H
     obtain ⟨c8b0, c8b1⟩ := be_ c8
     clear c8
     have H' := Azz.mk H
     clear H
     go_wp2
     go_meet
     case rel => exact ⟨_, ((a0 == 3)), eqS, H', ⟨by have := HJ1.out; first | omega | exact Nat.le_refl _⟩, d0S⟩
    rw [if_neg c8] at H
    obtain ⟨c8b0, c8b1⟩ := bn_ c8
    by_cases c9 : a0 = 7
    ·rw [if_pos c9] at H
     obtain ⟨c9b0, c9b1⟩ := be_ c9
     clear c9
     have H' := Azz.mk H
     clear H
     go_wp2
     go_meet
     case rel => exact ⟨_, ((a0 == 7)), eqS, H', ⟨by have := HJ1.out; first | omega | exact Nat.le_refl _⟩, d0S⟩
    rw [if_neg c9] at H
    obtain ⟨c9b0, c9b1⟩ := bn_ c9
    have H' := Azz.mk H
    clear H
    go_wp2
    go_meet
    case rel => exact ⟨_, ((a0 == 8)), eqS, H', ⟨by have := HJ1.out; first | omega | exact Nat.le_refl _⟩, d0S⟩
   case rest =>
    clear HC6
    try clear c1
    try clear p2
    try clear c3
    try clear c3b0
    try clear c3b1
    try clear c4
    try clear c4b0
    try clear c4b1
    try clear c5
    try clear c7
    try clear c7b0
    try clear c7b1
    try clear c8
    try clear c8b0
    try clear c8b1
    try clear c9
    try clear c9b0
    try clear c9b1
    try clear p2
    obtain ⟨kq, x11_5, rfl, HA, HJ5, ⟨mc5, rfl⟩⟩ := hcut
    cases kq with
    | zero => exact absurd HA.out (by simp [inst_has.j1])
    | succ kj5 =>
     have H := HA.out
     clear HA
     simp only [inst_has.j1] at H
     by_cases c10 : x11_5 = true
     ·subst c10
      rw [if_pos rfl] at H
      simp only [sJ_, pJ_] at H
      obtain ⟨rfl, rfl, rfl, rfl⟩ := H
      go_wp2
      refine bodyPost_ret (results_list (rs := [.tmp 2, .tmp 3, .tmp 4, .tmp 5]) rfl (by simp) (.tmp (.tmp (.tmp (.tmp .nil))))) rfl ?_
      exact ⟨by first | rfl | (simp; done) | (simp [*]; done), d0S⟩
     replace c10 := Bool.eq_false_iff.mpr c10
     subst c10
     rw [if_neg nFT] at H
     have HC11 := Azz.mk H
     clear H
     go_upto_if 16 with (fail)
     go_cut [16] (fun v16 wc => ∃ (kq : Nat) (x16_10 : Bool), v16 = .bool x16_10 ∧ Azz (inst_has.j2 kq a0 x16_10 = some (r1, r2, r3, r4)) ∧ Azz (kq ≤ kj5) ∧ Drawn0 w wc)
     case first =>
      have H := HC11.out
      clear HC11
      by_cases c12 : a0 = 4
      ·rw [if_pos c12] at H
       obtain ⟨c12b0, c12b1⟩ := be_ c12
       clear c12
       (first | rw [c12b0] | (simp only [i64_w, i32_w]; rw [c12b0]) | skip)
       have H' := Azz.mk H
       clear H
       go_wp2
       go_meet
       case rel => exact ⟨_, ((a0 == 4)), eqS, H', ⟨by have := HJ1.out; have := HJ5.out; first | omega | exact Nat.le_refl _⟩, d0S⟩
      rw [if_neg c12] at H
      obtain ⟨c12b0, c12b1⟩ := bn_ c12
      (first | rw [c12b0] | (simp only [i64_w, i32_w]; rw [c12b0]) | skip)
      by_cases c13 : a0 = 5
      ·rw [if_pos c13] at H
       obtain ⟨c13b0, c13b1⟩ := be_ c13
       clear c13
       have H' := Azz.mk H
       clear H
       go_wp2
       go_meet
       case rel => exact ⟨_, ((a0 == 5)), eqS, H', ⟨by have := HJ1.out; have := HJ5.out; first | omega | exact Nat.le_refl _⟩, d0S⟩
      rw [if_neg c13] at H
      obtain ⟨c13b0, c13b1⟩ := bn_ c13
      have H' := Azz.mk H
      clear H
      go_wp2
      go_meet
      case rel => exact ⟨_, ((a0 == 16)), eqS, H', ⟨by have := HJ1.out; have := HJ5.out; first | omega | exact Nat.le_refl _⟩, d0S⟩
     case rest =>
      clear HC11
      try clear c1
      try clear p2
      try clear c3
      try clear c3b0
      try clear c3b1
      try clear c4
      try clear c4b0
      try clear c4b1
      try clear c5
      try clear c7
      try clear c7b0
      try clear c7b1
      try clear c8
      try clear c8b0
      try clear c8b1
      try clear c9
      try clear c9b0
      try clear c9b1
      try clear c10
      try clear c12
      try clear c12b0
      try clear c12b1
      try clear c13
      try clear c13b0
      try clear c13b1
      try clear p2
      obtain ⟨kq, x16_10, rfl, HA, HJ10, ⟨mc10, rfl⟩⟩ := hcut
      cases kq with
      | zero => exact absurd HA.out (by simp [inst_has.j2])
      | succ kj10 =>
       have H := HA.out
       clear HA
       simp only [inst_has.j2] at H
       by_cases c14 : x16_10 = true
       ·subst c14
        rw [if_pos rfl] at H
        simp only [sJ_, pJ_] at H
        obtain ⟨rfl, rfl, rfl, rfl⟩ := H
        go_wp2
        refine bodyPost_ret (results_list (rs := [.tmp 2, .tmp 3, .tmp 4, .tmp 5]) rfl (by simp) (.tmp (.tmp (.tmp (.tmp .nil))))) rfl ?_
        exact ⟨by first | rfl | (simp; done) | (simp [*]; done), d0S⟩
       replace c14 := Bool.eq_false_iff.mpr c14
       subst c14
       rw [if_neg nFT] at H
       by_cases c15 : a0 = 6
       ·rw [if_pos c15] at H
        obtain ⟨c15b0, c15b1⟩ := be_ c15
        clear c15
        simp only [sJ_, pJ_] at H
        obtain ⟨rfl, rfl, rfl, rfl⟩ := H
        go_wp2
        refine bodyPost_ret (results_list (rs := [.tmp 2, .tmp 3, .tmp 4, .tmp 5]) rfl (by simp) (.tmp (.tmp (.tmp (.tmp .nil))))) rfl ?_
        exact ⟨by first | rfl | (simp; done) | (simp [*]; done), d0S⟩
       rw [if_neg c15] at H
       obtain ⟨c15b0, c15b1⟩ := bn_ c15
       by_cases c16 : a0 = 13
       ·rw [if_pos c16] at H
        obtain ⟨c16b0, c16b1⟩ := be_ c16
        clear c16
        simp only [sJ_, pJ_] at H
        obtain ⟨rfl, rfl, rfl, rfl⟩ := H
        go_wp2
        refine bodyPost_ret (results_list (rs := [.tmp 2, .tmp 3, .tmp 4, .tmp 5]) rfl (by simp) (.tmp (.tmp (.tmp (.tmp .nil))))) rfl ?_
        exact ⟨by first | rfl | (simp; done) | (simp [*]; done), d0S⟩
       rw [if_neg c16] at H
       obtain ⟨c16b0, c16b1⟩ := bn_ c16
       simp only [sJ_, pJ_] at H
       obtain ⟨rfl, rfl, rfl, rfl⟩ := H
       go_wp2
       refine bodyPost_ret (results_list (rs := [.tmp 2, .tmp 3, .tmp 4, .tmp 5]) rfl (by simp) (.tmp (.tmp (.tmp (.tmp .nil))))) rfl ?_
       exact ⟨by first | rfl | (simp; done) | (simp [*]; done), d0S⟩
def inst_register.f (a0 : Int) (a1 : Bool) : Option (Bool) := if a1 = true then (if a0 ≥ 0 then (some (decide (a0 ≤ 31))) else (some false)) else (some (a0 == 0))
theorem inst_register.calls (a0 : Int) (a1 : Bool) (r : Bool) (w : World) (h : inst_register.f a0 a1 = some r) :
 Calls Tryz.prog 123 #[.int .i64 a0, .bool a1] w fun e w' => e = .returned (.bool r) ∧ Drawn0 w w' := by
 have H : (if a1 = true then (if a0 ≥ 0 then (some (decide (a0 ≤ 31))) else (some false)) else (some (a0 == 0))) = some r := h
 clear h
 by_cases c3 : a1 = true
 ·subst c3
  rw [if_pos rfl] at H
  by_cases c4 : a0 ≥ 0
  ·rw [if_pos c4] at H
   have c4b0 := dT_ c4
   clear c4
   obtain rfl := sI H
   go_enter Tryz.func123, Tryz.ntmps123
   go_wp2
   go_ret
   exact ⟨by first | rfl | (simp; done) | (simp [*]; done), d0S⟩
  rw [if_neg c4] at H
  have c4b0 := dF_ c4
  clear c4
  obtain rfl := sI H
  go_enter Tryz.func123, Tryz.ntmps123
  go_wp2
  go_ret
  exact ⟨by first | rfl | (simp; done) | (simp [*]; done), d0S⟩
 replace c3 := Bool.eq_false_iff.mpr c3
 subst c3
 rw [if_neg nFT] at H
 obtain rfl := sI H
 go_enter Tryz.func123, Tryz.ntmps123
 go_wp2
 go_ret
 exact ⟨by first | rfl | (simp; done) | (simp [*]; done), d0S⟩
def mask_Size.l0 : Nat → Int → Int → Option Int
 | 0, _, _ => none
 | k + 1, v, x => if x < 64 then ((bits_Rotate.f 3 v x 64).bind fun t => (if t.1 = v then some x else mask_Size.l0 k v (x * 2))) else some x
def mask_Size.f (a0 : Int) : Option Int := mask_Size.l0 7 a0 2
theorem mask_Size.calls (a0 : Int) (r : Int) (w : World) (h : mask_Size.f a0 = some r) :
 Calls Tryz.prog 166 #[.int .u64 a0] w fun e w' => e = .returned (.int .i64 r) ∧ Below w.heap.size w w' := by
 unfold mask_Size.f at h
 have H' := Azz.mk h
 clear h
 go_enter Tryz.func166, Tryz.ntmps166
 go_wp2_with (first | (go_at_call 178; refine (mask_sizes.calls _).mono ?_; rintro e w' ⟨rfl, rfl⟩) | (go_at_call 181; refine (mask_sizes1.calls _ 1 _ (by go_simp) (by go_simp) (by omega) (by omega)).mono ?_; rintro e w' ⟨rfl, rfl⟩))
 go_loopg [4, 5, 6] 7 (fun kq v4 v5 v6 w' => ∃ (x : Int), v4 = .int .i64 x ∧ (2 ≤ x ∧ x ≤ 128) ∧ Azz (mask_Size.l0 kq a0 x = some r) ∧ ∃ m : Nat, w' = (w.alloc (Obj.cells #[Value.int IntKind.i64 x] 3)).drewN m)
 case atStart => exact ⟨2, rfl, by omega, H', 0, rfl⟩
 case round =>
  clear H'
  obtain ⟨x, rfl, ⟨hx0, hx1⟩, HA, m, rfl⟩ := hrel
  cases gk with
  | zero => exact absurd HA.out (by simp [mask_Size.l0])
  | succ k1 =>
   have H := HA.out
   clear HA
   simp only [mask_Size.l0] at H
   by_cases c1 : x < 64
   ·rw [if_pos c1] at H
    have b1 : decide (x < 64) = true := dT_ c1
    obtain ⟨⟨t1, t2⟩, HE, H⟩ := bM_ H
    have arm : ∀ W, Calls Tryz.prog 180 #[.int .u64 a0, .int .i64 x, .int .i64 64] W fun e w' => e = .returned (.tuple #[.int .u64 t1, .int .i64 t2]) ∧ Drawn0 W w' := fun W => bits_Rotate.calls 3 a0 x 64 t1 t2 W HE
    have ARM := Azz.mk arm
    clear arm HE
    (try dsimp only at H)
    by_cases c2 : t1 = a0
    ·rw [if_pos c2] at H
     have b2 : (t1 == a0) = true := beq_iff_eq.mpr c2
     clear c2
     obtain rfl := sI H
     go_wp2_with (first | (go_at_call 180; refine (ARM.out _).mono ?_; rintro e w' ⟨rfl, ⟨nd, rfl⟩⟩))
     go_ret
     refine ⟨rfl, ?_⟩
     repeat (first | exact Below.refl _ _ | apply bAA | apply bNN | apply bDD | (refine bSS ?_ (by simp)))
    rw [if_neg c2] at H
    have b2 : (t1 == a0) = false := bF_ c2
    clear c2
    have H' := Azz.mk H
    clear H
    go_wp2_with (first | (go_at_call 180; refine (ARM.out _).mono ?_; rintro e w' ⟨rfl, ⟨nd, rfl⟩⟩) | (go_at_call 181; refine (mask_sizes1.calls _ x _ (by go_simp) (by go_simp) (by omega) (by omega)).mono ?_; rintro e w' ⟨rfl, rfl⟩))
    go_roundg k1
    case measure => omega
    case rel => exact ⟨x * 2, rfl, by omega, H', _, by simpa using set_own w 3 (.int .i64 x) (.int .i64 (x * 2)) _⟩
   rw [if_neg c1] at H
   have b1 : decide (x < 64) = false := dF_ c1
   obtain rfl := sI H
   go_wp2
   go_ret
   refine ⟨rfl, ?_⟩
   repeat (first | exact Below.refl _ _ | apply bAA | apply bNN | apply bDD | (refine bSS ?_ (by simp)))
def mask_Ones.l0 : Nat → Int → Int → Option (Int)
 | 0, _, _ => none
 | k + 1, x0, x3 => if x0 = 0 then (some x3) else (mask_Ones.l0 k (Go.bits .and .u64 x0 (IntKind.u64.wrap (x0 - 1))) (wrap64 (x3 + 1)))
def mask_Ones.f (k : Nat) (a0 : Int) : Option (Int) := mask_Ones.l0 k a0 0
theorem mask_Ones.mono_l : ∀ k, (∀ y0 y1, LeO (mask_Ones.l0 k y0 y1) (mask_Ones.l0 (k + 1) y0 y1))
 | 0 => fun _ _ r h => by simp [mask_Ones.l0] at h
 | k + 1 => by
  have ih0 := mask_Ones.mono_l k
  intro y0 y1
  unfold mask_Ones.l0
  repeat' first
  | (with_reducible exact ih0 _ _)
  | (with_reducible exact LeO.refl _)
  | (with_reducible exact LeO.none _)
  | (with_reducible refine LeO.ite ?_ ?_)
  | (with_reducible refine LeO.bind ?_ (fun _ => ?_))
theorem mask_Ones.mono : ∀ a0 k, LeO (mask_Ones.f k a0) (mask_Ones.f (k + 1) a0) := by
 intro a0 k
 have ih0 := mask_Ones.mono_l k
 unfold mask_Ones.f
 repeat' first
  | (with_reducible exact ih0 _ _)
  | (with_reducible exact LeO.refl _)
  | (with_reducible exact LeO.none _)
  | (with_reducible refine LeO.ite ?_ ?_)
  | (with_reducible refine LeO.bind ?_ (fun _ => ?_))
theorem mask_Ones.calls (k : Nat) (a0 : Int) (r : Int) (w : World) (h : mask_Ones.f k a0 = some r) :
 Calls Tryz.prog 168 #[.int .u64 a0] w fun e w' => e = .returned (.int .i64 r) ∧ Drawn0 w w' := by
 have H : (mask_Ones.l0 k a0 0) = some r := h
 clear h
 have H' := Azz.mk H
 clear H
 go_enter Tryz.func168, Tryz.ntmps168
 go_wp2
 go_loopg [0, 3] k (fun kq v0 v3 w' => ∃ (x0_1 : Int) (x3_1 : Int), v0 = .int .u64 x0_1 ∧ v3 = .int .i64 x3_1 ∧ Azz (mask_Ones.l0 kq x0_1 x3_1 = some r) ∧ Azz (kq ≤ k) ∧ Drawn0 w w')
 case atStart => exact ⟨(a0), (0), eqS, eqS, H', ⟨Nat.le_refl _⟩, d0S⟩
 case round =>
  clear H'
  try clear c1
  obtain ⟨x0_1, x3_1, rfl, rfl, HA, HK1, ⟨m1, rfl⟩⟩ := hrel
  cases gk with
  | zero => exact absurd HA.out (by simp [mask_Ones.l0])
  | succ k1 =>
   have H := HA.out
   clear HA
   simp only [mask_Ones.l0] at H
   by_cases c2 : x0_1 = 0
   ·rw [if_pos c2] at H
    obtain ⟨c2b0, c2b1⟩ := be_ c2
    clear c2
    obtain rfl := sI H
    go_wp2
    go_ret
    exact ⟨by first | rfl | (simp; done) | (simp [*]; done), d0S⟩
   rw [if_neg c2] at H
   obtain ⟨c2b0, c2b1⟩ := bn_ c2
   have H' := Azz.mk H
   clear H
   go_wp2
   go_roundg k1
   case measure => have := HK1.out; omega
   case rel => exact ⟨(Go.bits .and .u64 x0_1 (IntKind.u64.wrap (x0_1 - 1))), (wrap64 (x3_1 + 1)), eqS, eqS, H', ⟨by have := HK1.out; omega⟩, d0S⟩
end Go.Proofs.YtngmipfodjgmmaaGreatDoor.P
end
