/- Walks and plain laws of this claim, a part. -/
import Derived.Test.YtngmipfodjgmmaaGreatDoorFz46
set_option maxRecDepth 100000
set_option maxHeartbeats 8000000
set_option linter.unusedVariables false
set_option linter.unusedSimpArgs false
namespace Go.Proofs.YtngmipfodjgmmaaGreatDoor.P
open Go.RowKit Wa Wb Wc
attribute [local go_sem] max2_int min2_int max_two min_two max_three min_three max_four min_four
mutual
def cleatref01_Rotate.j0 : Nat → Int → Int → Int → Bool → Option (Int × Int)
 | 0, _, _, _, _ => none
 | k + 1, x0, x1, x2, x40 => if x40 = true then (some (0, 1)) else ((cleatref01_Small.f k x0 x2).bind fun t245 => (if t245 = true then (cleatref01_Rotate.l0 k x0 x1 x2 0 0) else (some (0, 4))))
def cleatref01_Rotate.l0 : Nat → Int → Int → Int → Int → Int → Option (Int × Int)
 | 0, _, _, _, _, _ => none
 | k + 1, x0, x1, x2, x8, x9 => if x9 < x2 then (if x2 = 0 then (none) else ((cleatref01_Bit.f k x0 (Int.tmod (wrap64 (x9 + x1)) x2)).bind fun t246 => (if t246 = true then ((cleatref01_Power.f k x9).bind fun t247 => (cleatref01_Rotate.l0 k x0 x1 x2 (IntKind.u64.wrap (x8 + t247)) (wrap64 (x9 + 1)))) else (cleatref01_Rotate.l0 k x0 x1 x2 x8 (wrap64 (x9 + 1)))))) else (some (x8, 0))
end
def cleatref01_Rotate.f (k : Nat) (a0 : Int) (a1 : Int) (a2 : Int) : Option (Int × Int) := if a2 = 2 then (if a1 < 0 then (cleatref01_Rotate.j0 k a0 a1 a2 true) else (cleatref01_Rotate.j0 k a0 a1 a2 (decide (a1 ≥ a2)))) else (if a2 = 4 then (if a1 < 0 then (cleatref01_Rotate.j0 k a0 a1 a2 true) else (cleatref01_Rotate.j0 k a0 a1 a2 (decide (a1 ≥ a2)))) else (if a2 = 8 then (if a1 < 0 then (cleatref01_Rotate.j0 k a0 a1 a2 true) else (cleatref01_Rotate.j0 k a0 a1 a2 (decide (a1 ≥ a2)))) else (if a2 = 16 then (if a1 < 0 then (cleatref01_Rotate.j0 k a0 a1 a2 true) else (cleatref01_Rotate.j0 k a0 a1 a2 (decide (a1 ≥ a2)))) else (if a2 = 32 then (if a1 < 0 then (cleatref01_Rotate.j0 k a0 a1 a2 true) else (cleatref01_Rotate.j0 k a0 a1 a2 (decide (a1 ≥ a2)))) else (if a2 = 64 then (if a1 < 0 then (cleatref01_Rotate.j0 k a0 a1 a2 true) else (cleatref01_Rotate.j0 k a0 a1 a2 (decide (a1 ≥ a2)))) else (cleatref01_Rotate.j0 k a0 a1 a2 true))))))
theorem cleatref01_Rotate.calls (k : Nat) (a0 : Int) (a1 : Int) (a2 : Int) (r1 : Int) (r2 : Int) (w : World) (h : cleatref01_Rotate.f k a0 a1 a2 = some (r1, r2)) :
 Calls Tryz.prog 171 #[.int .u64 a0, .int .i64 a1, .int .i64 a2] w fun e w' => e = .returned (.tuple #[.int .u64 r1, .int .i64 r2]) ∧ Drawn0 w w' := by
 have H : (if a2 = 2 then (if a1 < 0 then (cleatref01_Rotate.j0 k a0 a1 a2 true) else (cleatref01_Rotate.j0 k a0 a1 a2 (decide (a1 ≥ a2)))) else (if a2 = 4 then (if a1 < 0 then (cleatref01_Rotate.j0 k a0 a1 a2 true) else (cleatref01_Rotate.j0 k a0 a1 a2 (decide (a1 ≥ a2)))) else (if a2 = 8 then (if a1 < 0 then (cleatref01_Rotate.j0 k a0 a1 a2 true) else (cleatref01_Rotate.j0 k a0 a1 a2 (decide (a1 ≥ a2)))) else (if a2 = 16 then (if a1 < 0 then (cleatref01_Rotate.j0 k a0 a1 a2 true) else (cleatref01_Rotate.j0 k a0 a1 a2 (decide (a1 ≥ a2)))) else (if a2 = 32 then (if a1 < 0 then (cleatref01_Rotate.j0 k a0 a1 a2 true) else (cleatref01_Rotate.j0 k a0 a1 a2 (decide (a1 ≥ a2)))) else (if a2 = 64 then (if a1 < 0 then (cleatref01_Rotate.j0 k a0 a1 a2 true) else (cleatref01_Rotate.j0 k a0 a1 a2 (decide (a1 ≥ a2)))) else (cleatref01_Rotate.j0 k a0 a1 a2 true))))))) = some (r1, r2) := h
 clear h
 have HC4 := Azz.mk H
 clear H
 go_enter Tryz.func171, Tryz.ntmps171
 go_upto_region 1 with (fail)
 go_cut [40] (fun v40 wc => ∃ (kq : Nat) (x40_3 : Bool), v40 = .bool x40_3 ∧ Azz (cleatref01_Rotate.j0 kq a0 a1 a2 x40_3 = some (r1, r2)) ∧ Azz (kq ≤ k) ∧ Drawn0 w wc)
 case first =>
  have H := HC4.out
  clear HC4
  by_cases c5 : a2 = 2
  ·rw [if_pos c5] at H
   obtain ⟨c5b0, c5b1⟩ := be_ c5
   clear c5
   (first | rw [c5b0] | (simp only [i64_w, i32_w]; rw [c5b0]) | skip)
   by_cases c6 : a1 < 0
   ·rw [if_pos c6] at H
    have c6b0 := dT_ c6
    clear c6
    have H' := Azz.mk H
    clear H
    go_wp2
    go_meet
    case rel => exact ⟨_, (true), eqS, H', ⟨leS⟩, d0S⟩
   rw [if_neg c6] at H
   have c6b0 := dF_ c6
   clear c6
   have H' := Azz.mk H
   clear H
   go_wp2
   go_meet
   case rel => exact ⟨_, (decide (a1 ≥ a2)), eqS, H', ⟨leS⟩, d0S⟩
  rw [if_neg c5] at H
  obtain ⟨c5b0, c5b1⟩ := bn_ c5
  (first | rw [c5b0] | (simp only [i64_w, i32_w]; rw [c5b0]) | skip)
  by_cases c7 : a2 = 4
  ·rw [if_pos c7] at H
   obtain ⟨c7b0, c7b1⟩ := be_ c7
   clear c7
   by_cases c8 : a1 < 0
   ·rw [if_pos c8] at H
    have c8b0 := dT_ c8
    clear c8
    have H' := Azz.mk H
    clear H
    go_wp2
    go_meet
    case rel => exact ⟨_, (true), eqS, H', ⟨leS⟩, d0S⟩
   rw [if_neg c8] at H
   have c8b0 := dF_ c8
   clear c8
   have H' := Azz.mk H
   clear H
   go_wp2
   go_meet
   case rel => exact ⟨_, (decide (a1 ≥ a2)), eqS, H', ⟨leS⟩, d0S⟩
  rw [if_neg c7] at H
  obtain ⟨c7b0, c7b1⟩ := bn_ c7
  by_cases c9 : a2 = 8
  ·rw [if_pos c9] at H
   obtain ⟨c9b0, c9b1⟩ := be_ c9
   clear c9
   by_cases c10 : a1 < 0
   ·rw [if_pos c10] at H
    have c10b0 := dT_ c10
    clear c10
    have H' := Azz.mk H
    clear H
    go_wp2
    go_meet
    case rel => exact ⟨_, (true), eqS, H', ⟨leS⟩, d0S⟩
   rw [if_neg c10] at H
   have c10b0 := dF_ c10
   clear c10
   have H' := Azz.mk H
   clear H
   go_wp2
   go_meet
   case rel => exact ⟨_, (decide (a1 ≥ a2)), eqS, H', ⟨leS⟩, d0S⟩
  rw [if_neg c9] at H
  obtain ⟨c9b0, c9b1⟩ := bn_ c9
  by_cases c11 : a2 = 16
  ·rw [if_pos c11] at H
   obtain ⟨c11b0, c11b1⟩ := be_ c11
   clear c11
   by_cases c12 : a1 < 0
   ·rw [if_pos c12] at H
    have c12b0 := dT_ c12
    clear c12
    have H' := Azz.mk H
    clear H
    go_wp2
    go_meet
    case rel => exact ⟨_, (true), eqS, H', ⟨leS⟩, d0S⟩
   rw [if_neg c12] at H
   have c12b0 := dF_ c12
   clear c12
   have H' := Azz.mk H
   clear H
   go_wp2
   go_meet
   case rel => exact ⟨_, (decide (a1 ≥ a2)), eqS, H', ⟨leS⟩, d0S⟩
  rw [if_neg c11] at H
  obtain ⟨c11b0, c11b1⟩ := bn_ c11
  by_cases c13 : a2 = 32
  ·rw [if_pos c13] at H
   obtain ⟨c13b0, c13b1⟩ := be_ c13
   clear c13
   by_cases c14 : a1 < 0
   ·rw [if_pos c14] at H
    have c14b0 := dT_ c14
    clear c14
    have H' := Azz.mk H
    clear H
    go_wp2
    go_meet
    case rel => exact ⟨_, (true), eqS, H', ⟨leS⟩, d0S⟩
   rw [if_neg c14] at H
   have c14b0 := dF_ c14
   clear c14
   have H' := Azz.mk H
   clear H
   go_wp2
   go_meet
   case rel => exact ⟨_, (decide (a1 ≥ a2)), eqS, H', ⟨leS⟩, d0S⟩
  rw [if_neg c13] at H
  obtain ⟨c13b0, c13b1⟩ := bn_ c13
  by_cases c15 : a2 = 64
  ·rw [if_pos c15] at H
   obtain ⟨c15b0, c15b1⟩ := be_ c15
   clear c15
   by_cases c16 : a1 < 0
   ·rw [if_pos c16] at H
    have c16b0 := dT_ c16
    clear c16
    have H' := Azz.mk H
    clear H
    go_wp2
    go_meet
    case rel => exact ⟨_, (true), eqS, H', ⟨leS⟩, d0S⟩
   rw [if_neg c16] at H
   have c16b0 := dF_ c16
   clear c16
   have H' := Azz.mk H
   clear H
   go_wp2
   go_meet
   case rel => exact ⟨_, (decide (a1 ≥ a2)), eqS, H', ⟨leS⟩, d0S⟩
  rw [if_neg c15] at H
  obtain ⟨c15b0, c15b1⟩ := bn_ c15
  have H' := Azz.mk H
  clear H
  go_wp2
  go_meet
  case rel => exact ⟨_, (true), eqS, H', ⟨leS⟩, d0S⟩
 case rest =>
  clear HC4
  try clear c1
  try clear p2
  try clear c5
  try clear c5b0
  try clear c5b1
  try clear c6
  try clear c6b0
  try clear c7
  try clear c7b0
  try clear c7b1
  try clear c8
  try clear c8b0
  try clear c9
  try clear c9b0
  try clear c9b1
  try clear c10
  try clear c10b0
  try clear c11
  try clear c11b0
  try clear c11b1
  try clear c12
  try clear c12b0
  try clear c13
  try clear c13b0
  try clear c13b1
  try clear c14
  try clear c14b0
  try clear c15
  try clear c15b0
  try clear c15b1
  try clear c16
  try clear c16b0
  obtain ⟨kq, x40_3, rfl, HA, HJ3, ⟨mc3, rfl⟩⟩ := hcut
  cases kq with
  | zero => exact absurd HA.out (by simp [cleatref01_Rotate.j0])
  | succ kj3 =>
   have H := HA.out
   clear HA
   simp only [cleatref01_Rotate.j0] at H
   by_cases c17 : x40_3 = true
   ·subst c17
    rw [if_pos rfl] at H
    simp only [sJ_, pJ_] at H
    obtain ⟨rfl, rfl⟩ := H
    go_wp2
    go_ret2
    exact ⟨by first | rfl | (simp; done) | (simp [*]; done), d0S⟩
   replace c17 := Bool.eq_false_iff.mpr c17
   subst c17
   rw [if_neg nFT] at H
   obtain ⟨t245, A18, H⟩ := bnd H
   (try dsimp only at H)
   by_cases c19 : t245 = true
   rotate_left
   ·replace c19 := Bool.eq_false_iff.mpr c19
    subst c19
    rw [if_neg nFT] at H
    simp only [sJ_, pJ_] at H
    obtain ⟨rfl, rfl⟩ := H
    go_wp2_with (first | ((with_reducible refine g_c (f := 172) rfl ?_); refine gM (some 43) rfl rfl Tryz.func172 #[.int .u64 a0, .int .i64 a2] rfl ?_; (with_reducible refine (cleatref01_Small.calls kj3 a0 a2 false _ A18.out).mono ?_); rintro e w' ⟨rfl, ⟨nd, rfl⟩⟩; refine ⟨_, rfl, ?_⟩))
    go_ret2
    exact ⟨by first | rfl | (simp; done) | (simp [*]; done), d0S⟩
   subst c19
   rw [if_pos rfl] at H
   have H' := Azz.mk H
   clear H
   go_wp2_with (first | ((with_reducible refine g_c (f := 172) rfl ?_); refine gM (some 43) rfl rfl Tryz.func172 #[.int .u64 a0, .int .i64 a2] rfl ?_; (with_reducible refine (cleatref01_Small.calls kj3 a0 a2 true _ A18.out).mono ?_); rintro e w' ⟨rfl, ⟨nd, rfl⟩⟩; refine ⟨_, rfl, ?_⟩))
   go_loopg [8, 9] kj3 (fun kq v8 v9 w' => ∃ (x8_2 : Int) (x9_2 : Int), v8 = .int .u64 x8_2 ∧ v9 = .int .i64 x9_2 ∧ Azz (cleatref01_Rotate.l0 kq a0 a1 a2 x8_2 x9_2 = some (r1, r2)) ∧ Azz (kq ≤ kj3) ∧ Drawn0 w w')
   case atStart => exact ⟨(0), (0), eqS, eqS, H', ⟨Nat.le_refl _⟩, d0S⟩
   case round =>
    clear H'
    try clear c1
    try clear p2
    try clear c3
    try clear c5
    try clear c5b0
    try clear c5b1
    try clear c6
    try clear c6b0
    try clear c7
    try clear c7b0
    try clear c7b1
    try clear c8
    try clear c8b0
    try clear c9
    try clear c9b0
    try clear c9b1
    try clear c10
    try clear c10b0
    try clear c11
    try clear c11b0
    try clear c11b1
    try clear c12
    try clear c12b0
    try clear c13
    try clear c13b0
    try clear c13b1
    try clear c14
    try clear c14b0
    try clear c15
    try clear c15b0
    try clear c15b1
    try clear c16
    try clear c16b0
    try clear c17
    try clear c19
    try clear p2
    obtain ⟨x8_2, x9_2, rfl, rfl, HA, HK2, ⟨m2, rfl⟩⟩ := hrel
    cases gk with
    | zero => exact absurd HA.out (by simp [cleatref01_Rotate.l0])
    | succ k2 =>
     have H := HA.out
     clear HA
     simp only [cleatref01_Rotate.l0] at H
     by_cases c20 : x9_2 < a2
     rotate_left
     ·rw [if_neg c20] at H
      have c20b0 := dF_ c20
      clear c20
      simp only [sJ_, pJ_] at H
      obtain ⟨rfl, rfl⟩ := H
      go_wp2
      go_ret2
      exact ⟨by first | rfl | (simp; done) | (simp [*]; done), d0S⟩
     rw [if_pos c20] at H
     have c20b0 := dT_ c20
     clear c20
     by_cases c21 : a2 = 0
     ·rw [if_pos c21] at H
      exact absurd H (by simp)
     rw [if_neg c21] at H
     obtain ⟨c21b0, c21b1⟩ := bn_ c21
     obtain ⟨t246, A22, H⟩ := bnd H
     (try dsimp only at H)
     by_cases c23 : t246 = true
     ·subst c23
      rw [if_pos rfl] at H
      obtain ⟨t247, A24, H⟩ := bnd H
      (try dsimp only at H)
      have H' := Azz.mk H
      clear H
      go_wp2_with (first | ((with_reducible refine g_c (f := 170) rfl ?_); refine gM (some 56) rfl rfl Tryz.func170 #[.int .u64 a0, .int .i64 (Int.tmod (wrap64 (x9_2 + a1)) a2)] rfl ?_; (with_reducible refine (cleatref01_Bit.calls k2 a0 (Int.tmod (wrap64 (x9_2 + a1)) a2) true _ A22.out).mono ?_); rintro e w' ⟨rfl, ⟨nd, rfl⟩⟩; refine ⟨_, rfl, ?_⟩) | ((with_reducible refine g_c (f := 90) rfl ?_); refine gM (some 59) rfl rfl Tryz.func90 #[.int .i64 x9_2] rfl ?_; (with_reducible refine (cleatref01_Power.calls k2 x9_2 t247 _ A24.out).mono ?_); rintro e w' ⟨rfl, ⟨nd, rfl⟩⟩; refine ⟨_, rfl, ?_⟩))
      go_roundg k2
      case measure => have := HJ3.out; have := HK2.out; omega
      case rel => exact ⟨(IntKind.u64.wrap (x8_2 + t247)), (wrap64 (x9_2 + 1)), eqS, eqS, H', ⟨by have := HJ3.out; have := HK2.out; omega⟩, d0S⟩
     replace c23 := Bool.eq_false_iff.mpr c23
     subst c23
     rw [if_neg nFT] at H
     have H' := Azz.mk H
     clear H
     go_wp2_with (first | ((with_reducible refine g_c (f := 170) rfl ?_); refine gM (some 56) rfl rfl Tryz.func170 #[.int .u64 a0, .int .i64 (Int.tmod (wrap64 (x9_2 + a1)) a2)] rfl ?_; (with_reducible refine (cleatref01_Bit.calls k2 a0 (Int.tmod (wrap64 (x9_2 + a1)) a2) false _ A22.out).mono ?_); rintro e w' ⟨rfl, ⟨nd, rfl⟩⟩; refine ⟨_, rfl, ?_⟩))
     go_roundg k2
     case measure => have := HJ3.out; have := HK2.out; omega
     case rel => exact ⟨(x8_2), (wrap64 (x9_2 + 1)), eqS, eqS, H', ⟨by have := HJ3.out; have := HK2.out; omega⟩, d0S⟩
def cleatref02_row.l0 : Nat → Int → Int → Int → Int → Int → Option (Int)
 | 0, _, _, _, _, _ => none
 | k + 1, x0, x1, x2, x7, x8 => if x8 < x0 then ((cleatref01_Power.f k x8).bind fun t248 => (cleatref02_row.l0 k x0 x1 x2 (IntKind.u64.wrap (x7 + t248)) (wrap64 (x8 + 1)))) else ((cleatref01_Rotate.f k x7 x1 x2).bind fun bt249 => (some bt249.1))
def cleatref02_row.f (k : Nat) (a0 : Int) (a1 : Int) (a2 : Int) : Option (Int) := cleatref02_row.l0 k a0 a1 a2 0 0
theorem cleatref02_row.calls (k : Nat) (a0 : Int) (a1 : Int) (a2 : Int) (r : Int) (w : World) (h : cleatref02_row.f k a0 a1 a2 = some r) :
 Calls Tryz.prog 154 #[.int .i64 a0, .int .i64 a1, .int .i64 a2] w fun e w' => e = .returned (.int .u64 r) ∧ Drawn0 w w' := by
 have H : (cleatref02_row.l0 k a0 a1 a2 0 0) = some r := h
 clear h
 have H' := Azz.mk H
 clear H
 go_enter Tryz.func154, Tryz.ntmps154
 go_wp2
 go_loopg [7, 8] k (fun kq v7 v8 w' => ∃ (x7_1 : Int) (x8_1 : Int), v7 = .int .u64 x7_1 ∧ v8 = .int .i64 x8_1 ∧ Azz (cleatref02_row.l0 kq a0 a1 a2 x7_1 x8_1 = some r) ∧ Azz (kq ≤ k) ∧ Drawn0 w w')
 case atStart => exact ⟨(0), (0), eqS, eqS, H', ⟨Nat.le_refl _⟩, d0S⟩
 case round =>
  clear H'
  try clear c1
  try clear p2
  obtain ⟨x7_1, x8_1, rfl, rfl, HA, HK1, ⟨m1, rfl⟩⟩ := hrel
  cases gk with
  | zero => exact absurd HA.out (by simp [cleatref02_row.l0])
  | succ k1 =>
   have H := HA.out
   clear HA
   simp only [cleatref02_row.l0] at H
   by_cases c4 : x8_1 < a0
   ·rw [if_pos c4] at H
    have c4b0 := dT_ c4
    clear c4
    obtain ⟨t248, A5, H⟩ := bnd H
    (try dsimp only at H)
    have H' := Azz.mk H
    clear H
    go_wp2_with (first | ((with_reducible refine g_c (f := 90) rfl ?_); refine gM (some 18) rfl rfl Tryz.func90 #[.int .i64 x8_1] rfl ?_; (with_reducible refine (cleatref01_Power.calls k1 x8_1 t248 _ A5.out).mono ?_); rintro e w' ⟨rfl, ⟨nd, rfl⟩⟩; refine ⟨_, rfl, ?_⟩))
    go_roundg k1
    case measure => have := HK1.out; omega
    case rel => exact ⟨(IntKind.u64.wrap (x7_1 + t248)), (wrap64 (x8_1 + 1)), eqS, eqS, H', ⟨by have := HK1.out; omega⟩, d0S⟩
   rw [if_neg c4] at H
   have c4b0 := dF_ c4
   clear c4
   obtain ⟨⟨t249, t250⟩, A6, H⟩ := bnd H
   (try dsimp only at H)
   obtain rfl := sI H
   go_wp2_with (first | ((with_reducible refine g_c (f := 171) rfl ?_); refine gM (some 24) rfl rfl Tryz.func171 #[.int .u64 x7_1, .int .i64 a1, .int .i64 a2] rfl ?_; (with_reducible refine (cleatref01_Rotate.calls k1 x7_1 a1 a2 t249 t250 _ A6.out).mono ?_); rintro e w' ⟨rfl, ⟨nd, rfl⟩⟩; refine ⟨_, rfl, ?_⟩))
   go_ret
   exact ⟨by first | rfl | (simp; done) | (simp [*]; done), d0S⟩
end Go.Proofs.YtngmipfodjgmmaaGreatDoor.P
