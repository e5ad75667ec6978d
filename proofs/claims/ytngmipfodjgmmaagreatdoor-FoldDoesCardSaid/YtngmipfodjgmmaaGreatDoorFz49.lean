/- Walks and plain laws of this claim, a part. -/
import Derived.Test.YtngmipfodjgmmaaGreatDoorFz47
set_option maxRecDepth 100000
set_option maxHeartbeats 8000000
set_option linter.unusedVariables false
set_option linter.unusedSimpArgs false
namespace Go.Proofs.YtngmipfodjgmmaaGreatDoor.P
open Go.RowKit Wa Wb Wc
attribute [local go_sem] max2_int min2_int max_two min_two max_three min_three max_four min_four
def cleatref04_reg.f (k : Nat) (a0 : Int) (a1 : ByteArray) (a2 : Int) : Option (Bool) := (cleatref04_Has.f k a0 a1).bind fun t295 => (if t295 = true then (if a2 ≥ 0 then (some (decide (a2 ≤ 31))) else (some false)) else (some (a2 == 0)))
theorem cleatref04_reg.calls (k : Nat) (a0 : Int) (a1 : ByteArray) (a2 : Int) (r : Bool) (w : World) (h : cleatref04_reg.f k a0 a1 a2 = some r) :
 Calls Tryz.prog 136 #[.int .i64 a0, .string a1, .int .i64 a2] w fun e w' => e = .returned (.bool r) ∧ Below w.heap.size w w' := by
 have HB := Azz.mk (Below.refl w.heap.size w)
 have H : ((cleatref04_Has.f k a0 a1).bind fun t295 => (if t295 = true then (if a2 ≥ 0 then (some (decide (a2 ≤ 31))) else (some false)) else (some (a2 == 0)))) = some r := h
 clear h
 obtain ⟨t295, A4, H⟩ := bnd H
 (try dsimp only at H)
 by_cases c5 : t295 = true
 ·subst c5
  rw [if_pos rfl] at H
  by_cases c6 : a2 ≥ 0
  ·rw [if_pos c6] at H
   have c6b0 := dT_ c6
   clear c6
   obtain rfl := sI H
   go_enter Tryz.func136, Tryz.ntmps136
   go_wp2_with (first | ((with_reducible refine g_c (f := 133) rfl ?_); refine gM (some 9) rfl rfl Tryz.func133 #[.int .i64 a0, .string a1] rfl ?_; (with_reducible refine (cleatref04_Has.calls k a0 a1 true _ A4.out).mono ?_); rintro e w7 ⟨rfl, hb⟩; refine ⟨_, rfl, ?_⟩; have n0_ := Azz.mk (bTT (by with_reducible repeat first | exact HB.out | apply bAA | apply bNN | apply bDD) hb); clear HB; have HB := n0_; clear n0_; (try clear hb); (try clear hb2); (try clear hk); (try clear hi)))
   go_ret
   exact ⟨eqB, by repeat (first | (with_reducible first | exact HB.out | apply bAA | apply bNN | apply bDD) | exact HB.out)⟩
  rw [if_neg c6] at H
  have c6b0 := dF_ c6
  clear c6
  obtain rfl := sI H
  go_enter Tryz.func136, Tryz.ntmps136
  go_wp2_with (first | ((with_reducible refine g_c (f := 133) rfl ?_); refine gM (some 9) rfl rfl Tryz.func133 #[.int .i64 a0, .string a1] rfl ?_; (with_reducible refine (cleatref04_Has.calls k a0 a1 true _ A4.out).mono ?_); rintro e w8 ⟨rfl, hb⟩; refine ⟨_, rfl, ?_⟩; have n0_ := Azz.mk (bTT (by with_reducible repeat first | exact HB.out | apply bAA | apply bNN | apply bDD) hb); clear HB; have HB := n0_; clear n0_; (try clear hb); (try clear hb2); (try clear hk); (try clear hi)))
  go_ret
  exact ⟨eqB, by repeat (first | (with_reducible first | exact HB.out | apply bAA | apply bNN | apply bDD) | exact HB.out)⟩
 replace c5 := Bool.eq_false_iff.mpr c5
 subst c5
 rw [if_neg nFT] at H
 obtain rfl := sI H
 go_enter Tryz.func136, Tryz.ntmps136
 go_wp2_with (first | ((with_reducible refine g_c (f := 133) rfl ?_); refine gM (some 9) rfl rfl Tryz.func133 #[.int .i64 a0, .string a1] rfl ?_; (with_reducible refine (cleatref04_Has.calls k a0 a1 false _ A4.out).mono ?_); rintro e w9 ⟨rfl, hb⟩; refine ⟨_, rfl, ?_⟩; have n0_ := Azz.mk (bTT (by with_reducible repeat first | exact HB.out | apply bAA | apply bNN | apply bDD) hb); clear HB; have HB := n0_; clear n0_; (try clear hb); (try clear hb2); (try clear hk); (try clear hi)))
 go_ret
 exact ⟨eqB, by repeat (first | (with_reducible first | exact HB.out | apply bAA | apply bNN | apply bDD) | exact HB.out)⟩
def cleatref01_Low.f (k : Nat) (a0 : Int) (a1 : Int) : Option (Int) := if a1 ≤ 0 then (some 0) else (if a1 ≥ 64 then (some a0) else ((cleatref01_Power.f k a1).bind fun t296 => (if t296 = 0 then (none) else (some (Int.tmod a0 t296)))))
theorem cleatref01_Low.calls (k : Nat) (a0 : Int) (a1 : Int) (r : Int) (w : World) (h : cleatref01_Low.f k a0 a1 = some r) :
 Calls Tryz.prog 175 #[.int .u64 a0, .int .i64 a1] w fun e w' => e = .returned (.int .u64 r) ∧ Drawn0 w w' := by
 have H : (if a1 ≤ 0 then (some 0) else (if a1 ≥ 64 then (some a0) else ((cleatref01_Power.f k a1).bind fun t296 => (if t296 = 0 then (none) else (some (Int.tmod a0 t296)))))) = some r := h
 clear h
 by_cases c3 : a1 ≤ 0
 ·rw [if_pos c3] at H
  have c3b0 := dT_ c3
  clear c3
  obtain rfl := sI H
  go_enter Tryz.func175, Tryz.ntmps175
  go_wp2
  go_ret
  exact ⟨by first | rfl | (simp; done) | (simp [*]; done), d0S⟩
 rw [if_neg c3] at H
 have c3b0 := dF_ c3
 clear c3
 by_cases c4 : a1 ≥ 64
 ·rw [if_pos c4] at H
  have c4b0 := dT_ c4
  clear c4
  obtain rfl := sI H
  go_enter Tryz.func175, Tryz.ntmps175
  go_wp2
  go_ret
  exact ⟨by first | rfl | (simp; done) | (simp [*]; done), d0S⟩
 rw [if_neg c4] at H
 have c4b0 := dF_ c4
 clear c4
 obtain ⟨t296, A5, H⟩ := bnd H
 (try dsimp only at H)
 by_cases c6 : t296 = 0
 ·rw [if_pos c6] at H
  exact absurd H (by simp)
 rw [if_neg c6] at H
 obtain ⟨c6b0, c6b1⟩ := bn_ c6
 obtain rfl := sI H
 go_enter Tryz.func175, Tryz.ntmps175
 go_wp2_with (first | ((with_reducible refine g_c (f := 90) rfl ?_); refine gM (some 12) rfl rfl Tryz.func90 #[.int .i64 a1] rfl ?_; (with_reducible refine (cleatref01_Power.calls k a1 t296 _ A5.out).mono ?_); rintro e w' ⟨rfl, ⟨nd, rfl⟩⟩; refine ⟨_, rfl, ?_⟩))
 go_ret
 exact ⟨by first | rfl | (simp; done) | (simp [*]; done), d0S⟩
def cleatref02_Size.l0 : Nat → Int → Int → Option (Int)
 | 0, _, _ => none
 | k + 1, x0, x3 => if x3 < 64 then ((cleatref01_Low.f k x0 x3).bind fun t297 => ((cleatref02_again.f k t297 x3).bind fun t298 => (if t298 = x0 then (some x3) else (cleatref02_Size.l0 k x0 (wrap64 (2 * x3)))))) else (some 64)
def cleatref02_Size.f (k : Nat) (a0 : Int) : Option (Int) := cleatref02_Size.l0 k a0 2
theorem cleatref02_Size.calls (k : Nat) (a0 : Int) (r : Int) (w : World) (h : cleatref02_Size.f k a0 = some r) :
 Calls Tryz.prog 173 #[.int .u64 a0] w fun e w' => e = .returned (.int .i64 r) ∧ Drawn0 w w' := by
 have H : (cleatref02_Size.l0 k a0 2) = some r := h
 clear h
 have H' := Azz.mk H
 clear H
 go_enter Tryz.func173, Tryz.ntmps173
 go_wp2
 go_loopg [3] k (fun kq v3 w' => ∃ (x3_1 : Int), v3 = .int .i64 x3_1 ∧ Azz (cleatref02_Size.l0 kq a0 x3_1 = some r) ∧ Azz (kq ≤ k) ∧ Drawn0 w w')
 case atStart => exact ⟨(2), eqS, H', ⟨Nat.le_refl _⟩, d0S⟩
 case round =>
  clear H'
  try clear c1
  obtain ⟨x3_1, rfl, HA, HK1, ⟨m1, rfl⟩⟩ := hrel
  cases gk with
  | zero => exact absurd HA.out (by simp [cleatref02_Size.l0])
  | succ k1 =>
   have H := HA.out
   clear HA
   simp only [cleatref02_Size.l0] at H
   by_cases c2 : x3_1 < 64
   ·rw [if_pos c2] at H
    have c2b0 := dT_ c2
    clear c2
    obtain ⟨t297, A3, H⟩ := bnd H
    (try dsimp only at H)
    obtain ⟨t298, A4, H⟩ := bnd H
    (try dsimp only at H)
    by_cases c5 : t298 = a0
    ·rw [if_pos c5] at H
     obtain ⟨c5b0, c5b1⟩ := be_ c5
     clear c5
     obtain rfl := sI H
     go_wp2_with (first | ((with_reducible refine g_c (f := 175) rfl ?_); refine gM (some 10) rfl rfl Tryz.func175 #[.int .u64 a0, .int .i64 x3_1] rfl ?_; (with_reducible refine (cleatref01_Low.calls k1 a0 x3_1 t297 _ A3.out).mono ?_); rintro e w' ⟨rfl, ⟨nd, rfl⟩⟩; refine ⟨_, rfl, ?_⟩) | ((with_reducible refine g_c (f := 153) rfl ?_); refine gM (some 12) rfl rfl Tryz.func153 #[.int .u64 t297, .int .i64 x3_1] rfl ?_; (with_reducible refine (cleatref02_again.calls k1 t297 x3_1 t298 _ A4.out).mono ?_); rintro e w' ⟨rfl, ⟨nd, rfl⟩⟩; refine ⟨_, rfl, ?_⟩))
     go_ret
     exact ⟨by first | rfl | (simp; done) | (simp [*]; done), d0S⟩
    rw [if_neg c5] at H
    obtain ⟨c5b0, c5b1⟩ := bn_ c5
    have H' := Azz.mk H
    clear H
    go_wp2_with (first | ((with_reducible refine g_c (f := 175) rfl ?_); refine gM (some 10) rfl rfl Tryz.func175 #[.int .u64 a0, .int .i64 x3_1] rfl ?_; (with_reducible refine (cleatref01_Low.calls k1 a0 x3_1 t297 _ A3.out).mono ?_); rintro e w' ⟨rfl, ⟨nd, rfl⟩⟩; refine ⟨_, rfl, ?_⟩) | ((with_reducible refine g_c (f := 153) rfl ?_); refine gM (some 12) rfl rfl Tryz.func153 #[.int .u64 t297, .int .i64 x3_1] rfl ?_; (with_reducible refine (cleatref02_again.calls k1 t297 x3_1 t298 _ A4.out).mono ?_); rintro e w' ⟨rfl, ⟨nd, rfl⟩⟩; refine ⟨_, rfl, ?_⟩))
    go_roundg k1
    case measure => have := HK1.out; omega
    case rel => exact ⟨(wrap64 (2 * x3_1)), eqS, H', ⟨by have := HK1.out; omega⟩, d0S⟩
   rw [if_neg c2] at H
   have c2b0 := dF_ c2
   clear c2
   obtain rfl := sI H
   go_wp2
   go_ret
   exact ⟨by first | rfl | (simp; done) | (simp [*]; done), d0S⟩
def cleatref02_Ones.l0 : Nat → Int → Int → Int → Option (Int)
 | 0, _, _, _ => none
 | k + 1, x0, x3, x4 => if x4 < 64 then ((cleatref01_Bit.f k x0 x4).bind fun t299 => (if t299 = true then (cleatref02_Ones.l0 k x0 (wrap64 (x3 + 1)) (wrap64 (x4 + 1))) else (cleatref02_Ones.l0 k x0 x3 (wrap64 (x4 + 1))))) else (some x3)
def cleatref02_Ones.f (k : Nat) (a0 : Int) : Option (Int) := cleatref02_Ones.l0 k a0 0 0
theorem cleatref02_Ones.calls (k : Nat) (a0 : Int) (r : Int) (w : World) (h : cleatref02_Ones.f k a0 = some r) :
 Calls Tryz.prog 174 #[.int .u64 a0] w fun e w' => e = .returned (.int .i64 r) ∧ Drawn0 w w' := by
 have H : (cleatref02_Ones.l0 k a0 0 0) = some r := h
 clear h
 have H' := Azz.mk H
 clear H
 go_enter Tryz.func174, Tryz.ntmps174
 go_wp2
 go_loopg [3, 4] k (fun kq v3 v4 w' => ∃ (x3_1 : Int) (x4_1 : Int), v3 = .int .i64 x3_1 ∧ v4 = .int .i64 x4_1 ∧ Azz (cleatref02_Ones.l0 kq a0 x3_1 x4_1 = some r) ∧ Azz (kq ≤ k) ∧ Drawn0 w w')
 case atStart => exact ⟨(0), (0), eqS, eqS, H', ⟨Nat.le_refl _⟩, d0S⟩
 case round =>
  clear H'
  try clear c1
  obtain ⟨x3_1, x4_1, rfl, rfl, HA, HK1, ⟨m1, rfl⟩⟩ := hrel
  cases gk with
  | zero => exact absurd HA.out (by simp [cleatref02_Ones.l0])
  | succ k1 =>
   have H := HA.out
   clear HA
   simp only [cleatref02_Ones.l0] at H
   by_cases c2 : x4_1 < 64
   ·rw [if_pos c2] at H
    have c2b0 := dT_ c2
    clear c2
    obtain ⟨t299, A3, H⟩ := bnd H
    (try dsimp only at H)
    by_cases c4 : t299 = true
    ·subst c4
     rw [if_pos rfl] at H
     have H' := Azz.mk H
     clear H
     go_wp2_with (first | ((with_reducible refine g_c (f := 170) rfl ?_); refine gM (some 11) rfl rfl Tryz.func170 #[.int .u64 a0, .int .i64 x4_1] rfl ?_; (with_reducible refine (cleatref01_Bit.calls k1 a0 x4_1 true _ A3.out).mono ?_); rintro e w' ⟨rfl, ⟨nd, rfl⟩⟩; refine ⟨_, rfl, ?_⟩))
     go_roundg k1
     case measure => have := HK1.out; omega
     case rel => exact ⟨(wrap64 (x3_1 + 1)), (wrap64 (x4_1 + 1)), eqS, eqS, H', ⟨by have := HK1.out; omega⟩, d0S⟩
    replace c4 := Bool.eq_false_iff.mpr c4
    subst c4
    rw [if_neg nFT] at H
    have H' := Azz.mk H
    clear H
    go_wp2_with (first | ((with_reducible refine g_c (f := 170) rfl ?_); refine gM (some 11) rfl rfl Tryz.func170 #[.int .u64 a0, .int .i64 x4_1] rfl ?_; (with_reducible refine (cleatref01_Bit.calls k1 a0 x4_1 false _ A3.out).mono ?_); rintro e w' ⟨rfl, ⟨nd, rfl⟩⟩; refine ⟨_, rfl, ?_⟩))
    go_roundg k1
    case measure => have := HK1.out; omega
    case rel => exact ⟨(x3_1), (wrap64 (x4_1 + 1)), eqS, eqS, H', ⟨by have := HK1.out; omega⟩, d0S⟩
   rw [if_neg c2] at H
   have c2b0 := dF_ c2
   clear c2
   obtain rfl := sI H
   go_wp2
   go_ret
   exact ⟨by first | rfl | (simp; done) | (simp [*]; done), d0S⟩
mutual
def cleatref02_Encode.l0 : Nat → Int → Int → Int → Int → Option (Int × Int × Int × Int)
 | 0, _, _, _, _ => none
 | k + 1, x0, x6, x7, x8 => if x8 < x6 then (if x7 > 0 then (cleatref02_Encode.j1 k x0 x6 x7 x8 (decide (x7 < x6))) else (cleatref02_Encode.j1 k x0 x6 x7 x8 false)) else (cleatref02_Encode.j1 k x0 x6 x7 x8 false)
def cleatref02_Encode.j1 : Nat → Int → Int → Int → Int → Bool → Option (Int × Int × Int × Int)
 | 0, _, _, _, _, _ => none
 | k + 1, x0, x6, x7, x8, x26 => if x26 = true then ((cleatref02_row.f k x7 x8 x6).bind fun t303 => ((cleatref01_Low.f k x0 x6).bind fun t304 => (if t303 = t304 then (if x6 = 64 then (some (1, x8, wrap64 (x7 - 1), 0)) else (some (0, x8, wrap64 ((wrap64 ((wrap64 (x7 - 1)) + 64)) - (wrap64 (2 * x6))), 0))) else (cleatref02_Encode.l0 k x0 x6 x7 (wrap64 (x8 + 1)))))) else (some (0, 0, 0, 3))
end
def cleatref02_Encode.f (k : Nat) (a0 : Int) : Option (Int × Int × Int × Int) := (cleatref02_Size.f k a0).bind fun t300 => ((cleatref01_Low.f k a0 t300).bind fun t301 => ((cleatref02_Ones.f k t301).bind fun t302 => (cleatref02_Encode.l0 k a0 t300 t302 0)))
theorem cleatref02_Encode.calls (k : Nat) (a0 : Int) (r1 : Int) (r2 : Int) (r3 : Int) (r4 : Int) (w : World) (h : cleatref02_Encode.f k a0 = some (r1, r2, r3, r4)) :
 Calls Tryz.prog 156 #[.int .u64 a0] w fun e w' => e = .returned (.tuple #[.int .i64 r1, .int .i64 r2, .int .i64 r3, .int .i64 r4]) ∧ Drawn0 w w' := by
 have H : ((cleatref02_Size.f k a0).bind fun t300 => ((cleatref01_Low.f k a0 t300).bind fun t301 => ((cleatref02_Ones.f k t301).bind fun t302 => (cleatref02_Encode.l0 k a0 t300 t302 0)))) = some (r1, r2, r3, r4) := h
 clear h
 obtain ⟨t300, A2, H⟩ := bnd H
 (try dsimp only at H)
 obtain ⟨t301, A3, H⟩ := bnd H
 (try dsimp only at H)
 obtain ⟨t302, A4, H⟩ := bnd H
 (try dsimp only at H)
 have H' := Azz.mk H
 clear H
 go_enter Tryz.func156, Tryz.ntmps156
 go_wp2_with (first | ((with_reducible refine g_c (f := 173) rfl ?_); refine gM (some 10) rfl rfl Tryz.func173 #[.int .u64 a0] rfl ?_; (with_reducible refine (cleatref02_Size.calls k a0 t300 _ A2.out).mono ?_); rintro e w' ⟨rfl, ⟨nd, rfl⟩⟩; refine ⟨_, rfl, ?_⟩) | ((with_reducible refine g_c (f := 175) rfl ?_); refine gM (some 13) rfl rfl Tryz.func175 #[.int .u64 a0, .int .i64 t300] rfl ?_; (with_reducible refine (cleatref01_Low.calls k a0 t300 t301 _ A3.out).mono ?_); rintro e w' ⟨rfl, ⟨nd, rfl⟩⟩; refine ⟨_, rfl, ?_⟩) | ((with_reducible refine g_c (f := 174) rfl ?_); refine gM (some 14) rfl rfl Tryz.func174 #[.int .u64 t301] rfl ?_; (with_reducible refine (cleatref02_Ones.calls k t301 t302 _ A4.out).mono ?_); rintro e w' ⟨rfl, ⟨nd, rfl⟩⟩; refine ⟨_, rfl, ?_⟩))
 go_loopg [8] k (fun kq v8 w' => ∃ (x8_1 : Int), v8 = .int .i64 x8_1 ∧ Azz (cleatref02_Encode.l0 kq a0 t300 t302 x8_1 = some (r1, r2, r3, r4)) ∧ Azz (kq ≤ k) ∧ Drawn0 w w')
 case atStart => exact ⟨(0), eqS, H', ⟨Nat.le_refl _⟩, d0S⟩
 case round =>
  clear H'
  try clear c1
  try clear p2
  obtain ⟨x8_1, rfl, HA, HK1, ⟨m1, rfl⟩⟩ := hrel
  cases gk with
  | zero => exact absurd HA.out (by simp [cleatref02_Encode.l0])
  | succ k1 =>
   have H := HA.out
   clear HA
   simp only [cleatref02_Encode.l0] at H
   have HC5 := Azz.mk H
   clear H
   go_upto_region 4 with (fail)
   go_cut [26] (fun v26 wc => ∃ (kq : Nat) (x26_4 : Bool), v26 = .bool x26_4 ∧ Azz (cleatref02_Encode.j1 kq a0 t300 t302 x8_1 x26_4 = some (r1, r2, r3, r4)) ∧ Azz (kq ≤ k1) ∧ Drawn0 w wc)
   case first =>
    have H := HC5.out
    clear HC5
    by_cases c6 : x8_1 < t300
    ·rw [if_pos c6] at H
     have c6b0 := dT_ c6
     clear c6
     (first | rw [c6b0] | (simp only [i64_w, i32_w]; rw [c6b0]) | skip)
     by_cases c7 : t302 > 0
     ·rw [if_pos c7] at H
      have c7b0 := dT_ c7
      clear c7
      have H' := Azz.mk H
      clear H
      go_wp2
      go_meet
      case rel => exact ⟨_, (decide (t302 < t300)), eqS, H', ⟨by have := HK1.out; first | omega | exact Nat.le_refl _⟩, d0S⟩
     rw [if_neg c7] at H
     have c7b0 := dF_ c7
     clear c7
     have H' := Azz.mk H
     clear H
     go_wp2
     go_meet
     case rel => exact ⟨_, (false), eqS, H', ⟨by have := HK1.out; first | omega | exact Nat.le_refl _⟩, d0S⟩
    rw [if_neg c6] at H
    have c6b0 := dF_ c6
    clear c6
    (first | rw [c6b0] | (simp only [i64_w, i32_w]; rw [c6b0]) | skip)
    have H' := Azz.mk H
    clear H
    go_wp2
    go_meet
    case rel => exact ⟨_, (false), eqS, H', ⟨by have := HK1.out; first | omega | exact Nat.le_refl _⟩, d0S⟩
   case rest =>
    clear HC5
    try clear c1
    try clear p2
    try clear c6
    try clear c6b0
    try clear c7
    try clear c7b0
    try clear p2
    obtain ⟨kq, x26_4, rfl, HA, HJ4, ⟨mc4, rfl⟩⟩ := hcut
    cases kq with
    | zero => exact absurd HA.out (by simp [cleatref02_Encode.j1])
    | succ kj4 =>
     have H := HA.out
     clear HA
     simp only [cleatref02_Encode.j1] at H
     by_cases c8 : x26_4 = true
     rotate_left
     ·replace c8 := Bool.eq_false_iff.mpr c8
      subst c8
      rw [if_neg nFT] at H
      simp only [sJ_, pJ_] at H
      obtain ⟨rfl, rfl, rfl, rfl⟩ := H
      go_wp2
      refine bodyPost_ret (results_list (rs := [.tmp 2, .tmp 3, .tmp 4, .tmp 5]) rfl (by simp) (.tmp (.tmp (.tmp (.tmp .nil))))) rfl ?_
      exact ⟨by first | rfl | (simp; done) | (simp [*]; done), d0S⟩
     subst c8
     rw [if_pos rfl] at H
     obtain ⟨t303, A9, H⟩ := bnd H
     (try dsimp only at H)
     obtain ⟨t304, A10, H⟩ := bnd H
     (try dsimp only at H)
     by_cases c11 : t303 = t304
     ·rw [if_pos c11] at H
      obtain ⟨c11b0, c11b1⟩ := be_ c11
      clear c11
      by_cases c12 : t300 = 64
      ·rw [if_pos c12] at H
       obtain ⟨c12b0, c12b1⟩ := be_ c12
       clear c12
       simp only [sJ_, pJ_] at H
       obtain ⟨rfl, rfl, rfl, rfl⟩ := H
       go_wp2_with (first | ((with_reducible refine g_c (f := 154) rfl ?_); refine gM (some 32) rfl rfl Tryz.func154 #[.int .i64 t302, .int .i64 x8_1, .int .i64 t300] rfl ?_; (with_reducible refine (cleatref02_row.calls kj4 t302 x8_1 t300 t303 _ A9.out).mono ?_); rintro e w' ⟨rfl, ⟨nd, rfl⟩⟩; refine ⟨_, rfl, ?_⟩) | ((with_reducible refine g_c (f := 175) rfl ?_); refine gM (some 35) rfl rfl Tryz.func175 #[.int .u64 a0, .int .i64 t300] rfl ?_; (with_reducible refine (cleatref01_Low.calls kj4 a0 t300 t304 _ A10.out).mono ?_); rintro e w' ⟨rfl, ⟨nd, rfl⟩⟩; refine ⟨_, rfl, ?_⟩))
       refine bodyPost_ret (results_list (rs := [.tmp 2, .tmp 3, .tmp 4, .tmp 5]) rfl (by simp) (.tmp (.tmp (.tmp (.tmp .nil))))) rfl ?_
       exact ⟨by first | rfl | (simp; done) | (simp [*]; done), d0S⟩
      rw [if_neg c12] at H
      obtain ⟨c12b0, c12b1⟩ := bn_ c12
      simp only [sJ_, pJ_] at H
      obtain ⟨rfl, rfl, rfl, rfl⟩ := H
      go_wp2_with (first | ((with_reducible refine g_c (f := 154) rfl ?_); refine gM (some 32) rfl rfl Tryz.func154 #[.int .i64 t302, .int .i64 x8_1, .int .i64 t300] rfl ?_; (with_reducible refine (cleatref02_row.calls kj4 t302 x8_1 t300 t303 _ A9.out).mono ?_); rintro e w' ⟨rfl, ⟨nd, rfl⟩⟩; refine ⟨_, rfl, ?_⟩) | ((with_reducible refine g_c (f := 175) rfl ?_); refine gM (some 35) rfl rfl Tryz.func175 #[.int .u64 a0, .int .i64 t300] rfl ?_; (with_reducible refine (cleatref01_Low.calls kj4 a0 t300 t304 _ A10.out).mono ?_); rintro e w' ⟨rfl, ⟨nd, rfl⟩⟩; refine ⟨_, rfl, ?_⟩))
      refine bodyPost_ret (results_list (rs := [.tmp 2, .tmp 3, .tmp 4, .tmp 5]) rfl (by simp) (.tmp (.tmp (.tmp (.tmp .nil))))) rfl ?_
      exact ⟨by first | rfl | (simp; done) | (simp [*]; done), d0S⟩
     rw [if_neg c11] at H
     obtain ⟨c11b0, c11b1⟩ := bn_ c11
     have H' := Azz.mk H
     clear H
     go_wp2_with (first | ((with_reducible refine g_c (f := 154) rfl ?_); refine gM (some 32) rfl rfl Tryz.func154 #[.int .i64 t302, .int .i64 x8_1, .int .i64 t300] rfl ?_; (with_reducible refine (cleatref02_row.calls kj4 t302 x8_1 t300 t303 _ A9.out).mono ?_); rintro e w' ⟨rfl, ⟨nd, rfl⟩⟩; refine ⟨_, rfl, ?_⟩) | ((with_reducible refine g_c (f := 175) rfl ?_); refine gM (some 35) rfl rfl Tryz.func175 #[.int .u64 a0, .int .i64 t300] rfl ?_; (with_reducible refine (cleatref01_Low.calls kj4 a0 t300 t304 _ A10.out).mono ?_); rintro e w' ⟨rfl, ⟨nd, rfl⟩⟩; refine ⟨_, rfl, ?_⟩))
     go_roundg kj4
     case measure => have := HK1.out; have := HJ4.out; omega
     case rel => exact ⟨(wrap64 (x8_1 + 1)), eqS, H', ⟨by have := HK1.out; have := HJ4.out; omega⟩, d0S⟩
def cleatref02_Is.f (k : Nat) (a0 : Int) : Option (Bool) := (cleatref02_Encode.f k a0).bind fun bt305 => (some (bt305.2.2.2 == 0))
theorem cleatref02_Is.calls (k : Nat) (a0 : Int) (r : Bool) (w : World) (h : cleatref02_Is.f k a0 = some r) :
 Calls Tryz.prog 137 #[.int .u64 a0] w fun e w' => e = .returned (.bool r) ∧ Drawn0 w w' := by
 have H : ((cleatref02_Encode.f k a0).bind fun bt305 => (some (bt305.2.2.2 == 0))) = some r := h
 clear h
 obtain ⟨⟨t305, t306, t307, t308⟩, A2, H⟩ := bnd H
 (try dsimp only at H)
 obtain rfl := sI H
 go_enter Tryz.func137, Tryz.ntmps137
 go_wp2_with (first | ((with_reducible refine g_c (f := 156) rfl ?_); refine gM (some 9) rfl rfl Tryz.func156 #[.int .u64 a0] rfl ?_; (with_reducible refine (cleatref02_Encode.calls k a0 t305 t306 t307 t308 _ A2.out).mono ?_); rintro e w' ⟨rfl, ⟨nd, rfl⟩⟩; refine ⟨_, rfl, ?_⟩))
 go_ret
 exact ⟨by first | rfl | (simp; done) | (simp [*]; done), d0S⟩
def cleatref04_between.f (a0 : Int) (a1 : Int) (a2 : Int) (a3 : Int) : Option (Bool) := if a0 ≥ a1 then (if a0 ≤ a2 then (if a3 = 0 then (none) else (some ((Int.tmod a0 a3) == 0))) else (some false)) else (some false)
theorem cleatref04_between.calls (a0 : Int) (a1 : Int) (a2 : Int) (a3 : Int) (r : Bool) (w : World) (h : cleatref04_between.f a0 a1 a2 a3 = some r) :
 Calls Tryz.prog 157 #[.int .i64 a0, .int .i64 a1, .int .i64 a2, .int .i64 a3] w fun e w' => e = .returned (.bool r) ∧ Drawn0 w w' := by
 have H : (if a0 ≥ a1 then (if a0 ≤ a2 then (if a3 = 0 then (none) else (some ((Int.tmod a0 a3) == 0))) else (some false)) else (some false)) = some r := h
 clear h
 by_cases c5 : a0 ≥ a1
 ·rw [if_pos c5] at H
  have c5b0 := dT_ c5
  clear c5
  by_cases c6 : a0 ≤ a2
  ·rw [if_pos c6] at H
   have c6b0 := dT_ c6
   clear c6
   by_cases c7 : a3 = 0
   ·rw [if_pos c7] at H
    exact absurd H (by simp)
   rw [if_neg c7] at H
   obtain ⟨c7b0, c7b1⟩ := bn_ c7
   obtain rfl := sI H
   go_enter Tryz.func157, Tryz.ntmps157
   go_wp2
   go_ret
   exact ⟨by first | rfl | (simp; done) | (simp [*]; done), d0S⟩
  rw [if_neg c6] at H
  have c6b0 := dF_ c6
  clear c6
  obtain rfl := sI H
  go_enter Tryz.func157, Tryz.ntmps157
  go_wp2
  go_ret
  exact ⟨by first | rfl | (simp; done) | (simp [*]; done), d0S⟩
 rw [if_neg c5] at H
 have c5b0 := dF_ c5
 clear c5
 obtain rfl := sI H
 go_enter Tryz.func157, Tryz.ntmps157
 go_wp2
 go_ret
 exact ⟨by first | rfl | (simp; done) | (simp [*]; done), d0S⟩
end Go.Proofs.YtngmipfodjgmmaaGreatDoor.P
