/- Walks and plain laws of this claim, a part. -/
import Derived.Test.YtngmipfodjgmmaaGreatDoorFz47
set_option maxRecDepth 100000
set_option maxHeartbeats 8000000
set_option linter.unusedVariables false
set_option linter.unusedSimpArgs false
namespace Go.Proofs.YtngmipfodjgmmaaGreatDoor.P
open Go.RowKit Wa Wb Wc
attribute [local go_sem] max2_int min2_int max_two min_two max_three min_three max_four min_four
mutual
def cleatref02_Decode.j0 : Nat → Int → Int → Int → Bool → Option (Int × Int)
 | 0, _, _, _, _ => none
 | k + 1, x0, x1, x2, x31 => if x31 = true then (some (0, 1)) else (cleatref02_Decode.l0 k x0 x1 x2 2)
def cleatref02_Decode.l0 : Nat → Int → Int → Int → Int → Option (Int × Int)
 | 0, _, _, _, _ => none
 | k + 1, x0, x1, x2, x8 => if x8 ≤ 64 then (if x8 < 64 then (cleatref02_Decode.j2 k x0 x1 x2 x8 (wrap64 ((wrap64 (x2 - (wrap64 (64 - (wrap64 (2 * x8)))))) + 1))) else (cleatref02_Decode.j2 k x0 x1 x2 x8 (wrap64 (x2 + 1)))) else (some (0, 3))
def cleatref02_Decode.j2 : Nat → Int → Int → Int → Int → Int → Option (Int × Int)
 | 0, _, _, _, _, _ => none
 | k + 1, x0, x1, x2, x8, x9 => if ((x0 == 1) == (x8 == 64)) = true then (if x9 ≥ 1 then (if x9 < x8 then (cleatref02_Decode.j3 k x0 x1 x2 x8 x9 (decide (x1 < x8))) else (cleatref02_Decode.j3 k x0 x1 x2 x8 x9 false)) else (cleatref02_Decode.j3 k x0 x1 x2 x8 x9 false)) else (cleatref02_Decode.j3 k x0 x1 x2 x8 x9 false)
def cleatref02_Decode.j3 : Nat → Int → Int → Int → Int → Int → Bool → Option (Int × Int)
 | 0, _, _, _, _, _, _ => none
 | k + 1, x0, x1, x2, x8, x9, x64 => if x64 = true then ((cleatref02_row.f k x9 x1 x8).bind fun t251 => ((cleatref02_again.f k t251 x8).bind fun t252 => (some (t252, 0)))) else (cleatref02_Decode.l0 k x0 x1 x2 (wrap64 (2 * x8)))
end
def cleatref02_Decode.f (k : Nat) (a0 : Int) (a1 : Int) (a2 : Int) : Option (Int × Int) := if a0 < 0 then (cleatref02_Decode.j0 k a0 a1 a2 true) else (if a0 > 1 then (cleatref02_Decode.j0 k a0 a1 a2 true) else (if a1 < 0 then (cleatref02_Decode.j0 k a0 a1 a2 true) else (if a1 > 63 then (cleatref02_Decode.j0 k a0 a1 a2 true) else (if a2 < 0 then (cleatref02_Decode.j0 k a0 a1 a2 true) else (cleatref02_Decode.j0 k a0 a1 a2 (decide (a2 > 63)))))))
theorem cleatref02_Decode.calls (k : Nat) (a0 : Int) (a1 : Int) (a2 : Int) (r1 : Int) (r2 : Int) (w : World) (h : cleatref02_Decode.f k a0 a1 a2 = some (r1, r2)) :
 Calls Tryz.prog 134 #[.int .i64 a0, .int .i64 a1, .int .i64 a2] w fun e w' => e = .returned (.tuple #[.int .u64 r1, .int .i64 r2]) ∧ Drawn0 w w' := by
 have H : (if a0 < 0 then (cleatref02_Decode.j0 k a0 a1 a2 true) else (if a0 > 1 then (cleatref02_Decode.j0 k a0 a1 a2 true) else (if a1 < 0 then (cleatref02_Decode.j0 k a0 a1 a2 true) else (if a1 > 63 then (cleatref02_Decode.j0 k a0 a1 a2 true) else (if a2 < 0 then (cleatref02_Decode.j0 k a0 a1 a2 true) else (cleatref02_Decode.j0 k a0 a1 a2 (decide (a2 > 63)))))))) = some (r1, r2) := h
 clear h
 have HC4 := Azz.mk H
 clear H
 go_enter Tryz.func134, Tryz.ntmps134
 go_upto_region 1 with (fail)
 go_cut [31] (fun v31 wc => ∃ (kq : Nat) (x31_3 : Bool), v31 = .bool x31_3 ∧ Azz (cleatref02_Decode.j0 kq a0 a1 a2 x31_3 = some (r1, r2)) ∧ Azz (kq ≤ k) ∧ Drawn0 w wc)
 case first =>
  have H := HC4.out
  clear HC4
  by_cases c5 : a0 < 0
  ·rw [if_pos c5] at H
   have c5b0 := dT_ c5
   clear c5
   (first | rw [c5b0] | (simp only [i64_w, i32_w]; rw [c5b0]) | skip)
   have H' := Azz.mk H
   clear H
   go_wp2
   go_meet
   case rel => exact ⟨_, (true), eqS, H', ⟨leS⟩, d0S⟩
  rw [if_neg c5] at H
  have c5b0 := dF_ c5
  clear c5
  (first | rw [c5b0] | (simp only [i64_w, i32_w]; rw [c5b0]) | skip)
  by_cases c6 : a0 > 1
  ·rw [if_pos c6] at H
   have c6b0 := dT_ c6
   clear c6
   have H' := Azz.mk H
   clear H
   go_wp2
   go_meet
   case rel => exact ⟨_, (true), eqS, H', ⟨leS⟩, d0S⟩
  rw [if_neg c6] at H
  have c6b0 := dF_ c6
  clear c6
  by_cases c7 : a1 < 0
  ·rw [if_pos c7] at H
   have c7b0 := dT_ c7
   clear c7
   have H' := Azz.mk H
   clear H
   go_wp2
   go_meet
   case rel => exact ⟨_, (true), eqS, H', ⟨leS⟩, d0S⟩
  rw [if_neg c7] at H
  have c7b0 := dF_ c7
  clear c7
  by_cases c8 : a1 > 63
  ·rw [if_pos c8] at H
   have c8b0 := dT_ c8
   clear c8
   have H' := Azz.mk H
   clear H
   go_wp2
   go_meet
   case rel => exact ⟨_, (true), eqS, H', ⟨leS⟩, d0S⟩
  rw [if_neg c8] at H
  have c8b0 := dF_ c8
  clear c8
  by_cases c9 : a2 < 0
  ·rw [if_pos c9] at H
   have c9b0 := dT_ c9
   clear c9
   have H' := Azz.mk H
   clear H
   go_wp2
   go_meet
   case rel => exact ⟨_, (true), eqS, H', ⟨leS⟩, d0S⟩
  rw [if_neg c9] at H
  have c9b0 := dF_ c9
  clear c9
  have H' := Azz.mk H
  clear H
  go_wp2
  go_meet
  case rel => exact ⟨_, (decide (a2 > 63)), eqS, H', ⟨leS⟩, d0S⟩
 case rest =>
  clear HC4
  try clear c1
  try clear p2
  try clear c5
  try clear c5b0
  try clear c6
  try clear c6b0
  try clear c7
  try clear c7b0
  try clear c8
  try clear c8b0
  try clear c9
  try clear c9b0
  obtain ⟨kq, x31_3, rfl, HA, HJ3, ⟨mc3, rfl⟩⟩ := hcut
  cases kq with
  | zero => exact absurd HA.out (by simp [cleatref02_Decode.j0])
  | succ kj3 =>
   have H := HA.out
   clear HA
   simp only [cleatref02_Decode.j0] at H
   by_cases c10 : x31_3 = true
   ·subst c10
    rw [if_pos rfl] at H
    simp only [sJ_, pJ_] at H
    obtain ⟨rfl, rfl⟩ := H
    go_wp2
    go_ret2
    exact ⟨by first | rfl | (simp; done) | (simp [*]; done), d0S⟩
   replace c10 := Bool.eq_false_iff.mpr c10
   subst c10
   rw [if_neg nFT] at H
   have H' := Azz.mk H
   clear H
   go_wp2
   go_loopg [8] kj3 (fun kq v8 w' => ∃ (x8_2 : Int), v8 = .int .i64 x8_2 ∧ Azz (cleatref02_Decode.l0 kq a0 a1 a2 x8_2 = some (r1, r2)) ∧ Azz (kq ≤ kj3) ∧ Drawn0 w w')
   case atStart => exact ⟨(2), eqS, H', ⟨Nat.le_refl _⟩, d0S⟩
   case round =>
    clear H'
    try clear c1
    try clear p2
    try clear c3
    try clear c5
    try clear c5b0
    try clear c6
    try clear c6b0
    try clear c7
    try clear c7b0
    try clear c8
    try clear c8b0
    try clear c9
    try clear c9b0
    try clear c10
    try clear p2
    obtain ⟨x8_2, rfl, HA, HK2, ⟨m2, rfl⟩⟩ := hrel
    cases gk with
    | zero => exact absurd HA.out (by simp [cleatref02_Decode.l0])
    | succ k2 =>
     have H := HA.out
     clear HA
     simp only [cleatref02_Decode.l0] at H
     by_cases c11 : x8_2 ≤ 64
     rotate_left
     ·rw [if_neg c11] at H
      have c11b0 := dF_ c11
      clear c11
      simp only [sJ_, pJ_] at H
      obtain ⟨rfl, rfl⟩ := H
      go_wp2
      go_ret2
      exact ⟨by first | rfl | (simp; done) | (simp [*]; done), d0S⟩
     rw [if_pos c11] at H
     have c11b0 := dT_ c11
     clear c11
     have HC12 := Azz.mk H
     clear H
     go_upto_if 39 with (fail)
     go_cut [9] (fun v9 wc => ∃ (kq : Nat) (x9_11 : Int), v9 = .int .i64 x9_11 ∧ Azz (cleatref02_Decode.j2 kq a0 a1 a2 x8_2 x9_11 = some (r1, r2)) ∧ Azz (kq ≤ k2) ∧ Drawn0 w wc)
     case first =>
      have H := HC12.out
      clear HC12
      by_cases c13 : x8_2 < 64
      ·rw [if_pos c13] at H
       have c13b0 := dT_ c13
       clear c13
       (first | rw [c13b0] | (simp only [i64_w, i32_w]; rw [c13b0]) | skip)
       have H' := Azz.mk H
       clear H
       go_wp2
       go_meet
       case rel => exact ⟨_, (wrap64 ((wrap64 (a2 - (wrap64 (64 - (wrap64 (2 * x8_2)))))) + 1)), eqS, H', ⟨by have := HJ3.out; have := HK2.out; first | omega | exact Nat.le_refl _⟩, d0S⟩
      rw [if_neg c13] at H
      have c13b0 := dF_ c13
      clear c13
      (first | rw [c13b0] | (simp only [i64_w, i32_w]; rw [c13b0]) | skip)
      have H' := Azz.mk H
      clear H
      go_wp2
      go_meet
      case rel => exact ⟨_, (wrap64 (a2 + 1)), eqS, H', ⟨by have := HJ3.out; have := HK2.out; first | omega | exact Nat.le_refl _⟩, d0S⟩
     case rest =>
      clear HC12
      try clear c1
      try clear p2
      try clear c3
      try clear c5
      try clear c5b0
      try clear c6
      try clear c6b0
      try clear p6
      try clear c7
      try clear c7b0
      try clear c8
      try clear c8b0
      try clear c9
      try clear c9b0
      try clear c10
      try clear c11
      try clear c11b0
      try clear c13
      try clear c13b0
      try clear p2
      obtain ⟨kq, x9_11, rfl, HA, HJ11, ⟨mc11, rfl⟩⟩ := hcut
      cases kq with
      | zero => exact absurd HA.out (by simp [cleatref02_Decode.j2])
      | succ kj11 =>
       have H := HA.out
       clear HA
       simp only [cleatref02_Decode.j2] at H
       have HC14 := Azz.mk H
       clear H
       go_upto_region 9 with (fail)
       go_cut [64] (fun v64 wc => ∃ (kq : Nat) (x64_13 : Bool), v64 = .bool x64_13 ∧ Azz (cleatref02_Decode.j3 kq a0 a1 a2 x8_2 x9_11 x64_13 = some (r1, r2)) ∧ Azz (kq ≤ kj11) ∧ Drawn0 w wc)
       case first =>
        have H := HC14.out
        clear HC14
        by_cases c15 : ((a0 == 1) == (x8_2 == 64)) = true
        rotate_left
        ·rw [if_neg c15] at H
         have c15b0 : ((a0 == 1) == (x8_2 == 64)) = false := by simpa using c15
         (try (have c15b1 : decide ((a0 == 1) = (x8_2 == 64)) = false := by simpa using c15))
         (try (have c15b2 : ((a0 == 1) == (x8_2 == 64)) = false := by simpa using c15))
         (try (have c15b3 : ¬ ((a0 == 1) = (x8_2 == 64)) := by simpa using c15))
         clear c15
         (first | rw [c15b0] | (simp only [i64_w, i32_w]; rw [c15b0]) | skip)
         have H' := Azz.mk H
         clear H
         go_wp2
         go_meet
         case rel => exact ⟨_, (false), eqS, H', ⟨by have := HJ3.out; have := HK2.out; have := HJ11.out; first | omega | exact Nat.le_refl _⟩, d0S⟩
        rw [if_pos c15] at H
        have c15b0 : ((a0 == 1) == (x8_2 == 64)) = true := c15
        (try (have c15b1 : decide ((a0 == 1) = (x8_2 == 64)) = true := by simpa using c15))
        (try (have c15b2 : ((a0 == 1) == (x8_2 == 64)) = true := by simpa using c15))
        clear c15
        (first | rw [c15b0] | (simp only [i64_w, i32_w]; rw [c15b0]) | skip)
        by_cases c16 : x9_11 ≥ 1
        ·rw [if_pos c16] at H
         have c16b0 := dT_ c16
         clear c16
         by_cases c17 : x9_11 < x8_2
         ·rw [if_pos c17] at H
          have c17b0 := dT_ c17
          clear c17
          have H' := Azz.mk H
          clear H
          go_wp2
          go_meet
          case rel => exact ⟨_, (decide (a1 < x8_2)), eqS, H', ⟨by have := HJ3.out; have := HK2.out; have := HJ11.out; first | omega | exact Nat.le_refl _⟩, d0S⟩
         rw [if_neg c17] at H
         have c17b0 := dF_ c17
         clear c17
         have H' := Azz.mk H
         clear H
         go_wp2
         go_meet
         case rel => exact ⟨_, (false), eqS, H', ⟨by have := HJ3.out; have := HK2.out; have := HJ11.out; first | omega | exact Nat.le_refl _⟩, d0S⟩
        rw [if_neg c16] at H
        have c16b0 := dF_ c16
        clear c16
        have H' := Azz.mk H
        clear H
        go_wp2
        go_meet
        case rel => exact ⟨_, (false), eqS, H', ⟨by have := HJ3.out; have := HK2.out; have := HJ11.out; first | omega | exact Nat.le_refl _⟩, d0S⟩
       case rest =>
        clear HC14
        try clear c1
        try clear p2
        try clear c3
        try clear c5
        try clear c5b0
        try clear c6
        try clear c6b0
        try clear p6
        try clear c7
        try clear c7b0
        try clear c8
        try clear c8b0
        try clear c9
        try clear c9b0
        try clear c10
        try clear c11
        try clear c11b0
        try clear c13
        try clear c13b0
        try clear c15
        try clear c15b0
        try clear c15b1
        try clear c15b2
        try clear c16
        try clear c16b0
        try clear c17
        try clear c17b0
        try clear p2
        try clear p6
        obtain ⟨kq, x64_13, rfl, HA, HJ13, ⟨mc13, rfl⟩⟩ := hcut
        cases kq with
        | zero => exact absurd HA.out (by simp [cleatref02_Decode.j3])
        | succ kj13 =>
         have H := HA.out
         clear HA
         simp only [cleatref02_Decode.j3] at H
         by_cases c18 : x64_13 = true
         ·subst c18
          rw [if_pos rfl] at H
          obtain ⟨t251, A19, H⟩ := bnd H
          (try dsimp only at H)
          obtain ⟨t252, A20, H⟩ := bnd H
          (try dsimp only at H)
          simp only [sJ_, pJ_] at H
          obtain ⟨rfl, rfl⟩ := H
          go_wp2_with (first | ((with_reducible refine g_c (f := 154) rfl ?_); refine gM (some 68) rfl rfl Tryz.func154 #[.int .i64 x9_11, .int .i64 a1, .int .i64 x8_2] rfl ?_; (with_reducible refine (cleatref02_row.calls kj13 x9_11 a1 x8_2 t251 _ A19.out).mono ?_); rintro e w' ⟨rfl, ⟨nd, rfl⟩⟩; refine ⟨_, rfl, ?_⟩) | ((with_reducible refine g_c (f := 153) rfl ?_); refine gM (some 70) rfl rfl Tryz.func153 #[.int .u64 t251, .int .i64 x8_2] rfl ?_; (with_reducible refine (cleatref02_again.calls kj13 t251 x8_2 t252 _ A20.out).mono ?_); rintro e w' ⟨rfl, ⟨nd, rfl⟩⟩; refine ⟨_, rfl, ?_⟩))
          go_ret2
          exact ⟨by first | rfl | (simp; done) | (simp [*]; done), d0S⟩
         replace c18 := Bool.eq_false_iff.mpr c18
         subst c18
         rw [if_neg nFT] at H
         have H' := Azz.mk H
         clear H
         go_wp2
         go_roundg kj13
         case measure => have := HJ3.out; have := HK2.out; have := HJ11.out; have := HJ13.out; omega
         case rel => exact ⟨(wrap64 (2 * x8_2)), eqS, H', ⟨by have := HJ3.out; have := HK2.out; have := HJ11.out; have := HJ13.out; omega⟩, d0S⟩
def cleatref01_Signed.j0 : Nat → Int → Int → Bool → Option (Int × Int)
 | 0, _, _, _ => none
 | k + 1, x0, x1, x11 => if x11 = true then (some (0, 1)) else ((cleatref01_Small.f k (IntKind.u64.wrap (x0)) x1).bind fun t253 => (if t253 = true then ((cleatref01_Bit.f k (IntKind.u64.wrap (x0)) (wrap64 (x1 - 1))).bind fun t254 => (if t254 = true then ((cleatref01_Power.f k x1).bind fun t255 => (some (wrap64 ((wrap64 (x0)) - (wrap64 (t255))), 0))) else (some (wrap64 (x0), 0)))) else (some (0, 4))))
def cleatref01_Signed.f (k : Nat) (a0 : Int) (a1 : Int) : Option (Int × Int) := if a1 < 1 then (cleatref01_Signed.j0 k a0 a1 true) else (cleatref01_Signed.j0 k a0 a1 (decide (a1 > 32)))
theorem cleatref01_Signed.calls (k : Nat) (a0 : Int) (a1 : Int) (r1 : Int) (r2 : Int) (w : World) (h : cleatref01_Signed.f k a0 a1 = some (r1, r2)) :
 Calls Tryz.prog 155 #[.int .u32 a0, .int .i64 a1] w fun e w' => e = .returned (.tuple #[.int .i64 r1, .int .i64 r2]) ∧ Drawn0 w w' := by
 have H : (if a1 < 1 then (cleatref01_Signed.j0 k a0 a1 true) else (cleatref01_Signed.j0 k a0 a1 (decide (a1 > 32)))) = some (r1, r2) := h
 clear h
 have HC3 := Azz.mk H
 clear H
 go_enter Tryz.func155, Tryz.ntmps155
 go_upto_region 1 with (fail)
 go_cut [11] (fun v11 wc => ∃ (kq : Nat) (x11_2 : Bool), v11 = .bool x11_2 ∧ Azz (cleatref01_Signed.j0 kq a0 a1 x11_2 = some (r1, r2)) ∧ Azz (kq ≤ k) ∧ Drawn0 w wc)
 case first =>
  have H := HC3.out
  clear HC3
  by_cases c4 : a1 < 1
  ·rw [if_pos c4] at H
   have c4b0 := dT_ c4
   clear c4
   (first | rw [c4b0] | (simp only [i64_w, i32_w]; rw [c4b0]) | skip)
   have H' := Azz.mk H
   clear H
   go_wp2
   go_meet
   case rel => exact ⟨_, (true), eqS, H', ⟨leS⟩, d0S⟩
  rw [if_neg c4] at H
  have c4b0 := dF_ c4
  clear c4
  (first | rw [c4b0] | (simp only [i64_w, i32_w]; rw [c4b0]) | skip)
  have H' := Azz.mk H
  clear H
  go_wp2
  go_meet
  case rel => exact ⟨_, (decide (a1 > 32)), eqS, H', ⟨leS⟩, d0S⟩
 case rest =>
  clear HC3
  try clear c1
  try clear p2
  try clear c4
  try clear c4b0
  obtain ⟨kq, x11_2, rfl, HA, HJ2, ⟨mc2, rfl⟩⟩ := hcut
  cases kq with
  | zero => exact absurd HA.out (by simp [cleatref01_Signed.j0])
  | succ kj2 =>
   have H := HA.out
   clear HA
   simp only [cleatref01_Signed.j0] at H
   by_cases c5 : x11_2 = true
   ·subst c5
    rw [if_pos rfl] at H
    simp only [sJ_, pJ_] at H
    obtain ⟨rfl, rfl⟩ := H
    go_wp2
    go_ret2
    exact ⟨by first | rfl | (simp; done) | (simp [*]; done), d0S⟩
   replace c5 := Bool.eq_false_iff.mpr c5
   subst c5
   rw [if_neg nFT] at H
   obtain ⟨t253, A6, H⟩ := bnd H
   (try dsimp only at H)
   by_cases c7 : t253 = true
   ·subst c7
    rw [if_pos rfl] at H
    obtain ⟨t254, A8, H⟩ := bnd H
    (try dsimp only at H)
    by_cases c9 : t254 = true
    ·subst c9
     rw [if_pos rfl] at H
     obtain ⟨t255, A10, H⟩ := bnd H
     (try dsimp only at H)
     simp only [sJ_, pJ_] at H
     obtain ⟨rfl, rfl⟩ := H
     go_wp2_with (first | ((with_reducible refine g_c (f := 172) rfl ?_); refine gM (some 15) rfl rfl Tryz.func172 #[.int .u64 (IntKind.u64.wrap (a0)), .int .i64 a1] rfl ?_; (with_reducible refine (cleatref01_Small.calls kj2 (IntKind.u64.wrap (a0)) a1 true _ A6.out).mono ?_); rintro e w' ⟨rfl, ⟨nd, rfl⟩⟩; refine ⟨_, rfl, ?_⟩) | ((with_reducible refine g_c (f := 170) rfl ?_); refine gM (some 21) rfl rfl Tryz.func170 #[.int .u64 (IntKind.u64.wrap (a0)), .int .i64 (wrap64 (a1 - 1))] rfl ?_; (with_reducible refine (cleatref01_Bit.calls kj2 (IntKind.u64.wrap (a0)) (wrap64 (a1 - 1)) true _ A8.out).mono ?_); rintro e w' ⟨rfl, ⟨nd, rfl⟩⟩; refine ⟨_, rfl, ?_⟩) | ((with_reducible refine g_c (f := 90) rfl ?_); refine gM (some 25) rfl rfl Tryz.func90 #[.int .i64 a1] rfl ?_; (with_reducible refine (cleatref01_Power.calls kj2 a1 t255 _ A10.out).mono ?_); rintro e w' ⟨rfl, ⟨nd, rfl⟩⟩; refine ⟨_, rfl, ?_⟩))
     go_ret2
     exact ⟨by first | rfl | (simp; done) | (simp [*]; done), d0S⟩
    replace c9 := Bool.eq_false_iff.mpr c9
    subst c9
    rw [if_neg nFT] at H
    simp only [sJ_, pJ_] at H
    obtain ⟨rfl, rfl⟩ := H
    go_wp2_with (first | ((with_reducible refine g_c (f := 172) rfl ?_); refine gM (some 15) rfl rfl Tryz.func172 #[.int .u64 (IntKind.u64.wrap (a0)), .int .i64 a1] rfl ?_; (with_reducible refine (cleatref01_Small.calls kj2 (IntKind.u64.wrap (a0)) a1 true _ A6.out).mono ?_); rintro e w' ⟨rfl, ⟨nd, rfl⟩⟩; refine ⟨_, rfl, ?_⟩) | ((with_reducible refine g_c (f := 170) rfl ?_); refine gM (some 21) rfl rfl Tryz.func170 #[.int .u64 (IntKind.u64.wrap (a0)), .int .i64 (wrap64 (a1 - 1))] rfl ?_; (with_reducible refine (cleatref01_Bit.calls kj2 (IntKind.u64.wrap (a0)) (wrap64 (a1 - 1)) false _ A8.out).mono ?_); rintro e w' ⟨rfl, ⟨nd, rfl⟩⟩; refine ⟨_, rfl, ?_⟩))
    go_ret2
    exact ⟨by first | rfl | (simp; done) | (simp [*]; done), d0S⟩
   replace c7 := Bool.eq_false_iff.mpr c7
   subst c7
   rw [if_neg nFT] at H
   simp only [sJ_, pJ_] at H
   obtain ⟨rfl, rfl⟩ := H
   go_wp2_with (first | ((with_reducible refine g_c (f := 172) rfl ?_); refine gM (some 15) rfl rfl Tryz.func172 #[.int .u64 (IntKind.u64.wrap (a0)), .int .i64 a1] rfl ?_; (with_reducible refine (cleatref01_Small.calls kj2 (IntKind.u64.wrap (a0)) a1 false _ A6.out).mono ?_); rintro e w' ⟨rfl, ⟨nd, rfl⟩⟩; refine ⟨_, rfl, ?_⟩))
   go_ret2
   exact ⟨by first | rfl | (simp; done) | (simp [*]; done), d0S⟩
def cleatref05_signed.f (k : Nat) (a0 : Int) (a1 : Int) : Option (Int) := (cleatref01_Signed.f k a0 a1).bind fun bt256 => (some bt256.1)
theorem cleatref05_signed.calls (k : Nat) (a0 : Int) (a1 : Int) (r : Int) (w : World) (h : cleatref05_signed.f k a0 a1 = some r) :
 Calls Tryz.prog 135 #[.int .u32 a0, .int .i64 a1] w fun e w' => e = .returned (.int .i64 r) ∧ Drawn0 w w' := by
 have H : ((cleatref01_Signed.f k a0 a1).bind fun bt256 => (some bt256.1)) = some r := h
 clear h
 obtain ⟨⟨t256, t257⟩, A3, H⟩ := bnd H
 (try dsimp only at H)
 obtain rfl := sI H
 go_enter Tryz.func135, Tryz.ntmps135
 go_wp2_with (first | ((with_reducible refine g_c (f := 155) rfl ?_); refine gM (some 10) rfl rfl Tryz.func155 #[.int .u32 a0, .int .i64 a1] rfl ?_; (with_reducible refine (cleatref01_Signed.calls k a0 a1 t256 t257 _ A3.out).mono ?_); rintro e w' ⟨rfl, ⟨nd, rfl⟩⟩; refine ⟨_, rfl, ?_⟩))
 go_ret
 exact ⟨by first | rfl | (simp; done) | (simp [*]; done), d0S⟩
end Go.Proofs.YtngmipfodjgmmaaGreatDoor.P
