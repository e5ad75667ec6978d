/- Walks and plain laws of this claim, a part. -/
import Derived.Test.YtngmipfodjgmmaaGreatDoorFz49
set_option maxRecDepth 100000
set_option maxHeartbeats 8000000
set_option linter.unusedVariables false
set_option linter.unusedSimpArgs false
namespace Go.Proofs.YtngmipfodjgmmaaGreatDoor.P
open Go.RowKit Wa Wb Wc
attribute [local go_sem] max2_int min2_int max_two min_two max_three min_three max_four min_four
mutual
def cleatref04_imm.j0 : Nat → Int → Int → Bool → Option (Bool)
 | 0, _, _, _ => none
 | k + 1, x1, x5, x6 => if x6 = true then ((cleatref04_between.f x1 0 65535 1).bind fun t309 => (some t309)) else (if x5 = 2 then (cleatref04_imm.j1 k x1 x5 (x5 == 2)) else (cleatref04_imm.j1 k x1 x5 (x5 == 8)))
def cleatref04_imm.j1 : Nat → Int → Int → Bool → Option (Bool)
 | 0, _, _, _ => none
 | k + 1, x1, x5, x11 => if x11 = true then ((cleatref04_between.f x1 0 4095 1).bind fun t310 => (some t310)) else (if x5 = 7 then ((cleatref04_between.f x1 0 32760 8).bind fun t311 => (some t311)) else (if x5 = 9 then (cleatref04_imm.j2 k x1 x5 (x5 == 9)) else (cleatref04_imm.j2 k x1 x5 (x5 == 12))))
def cleatref04_imm.j2 : Nat → Int → Int → Bool → Option (Bool)
 | 0, _, _, _ => none
 | k + 1, x1, x5, x20 => if x20 = true then ((cleatref04_between.f x1 (-1048576) 1048572 4).bind fun t312 => (some t312)) else (if x5 = 10 then ((cleatref04_between.f x1 (-1048576) 1048575 1).bind fun t313 => (some t313)) else (if x5 = 11 then ((cleatref04_between.f x1 (-134217728) 134217724 4).bind fun t314 => (some t314)) else (some (x1 == 0))))
end
def cleatref04_imm.f (k : Nat) (a0 : Int) (a1 : Int) : Option (Bool) := if a0 = 1 then (cleatref04_imm.j0 k a1 a0 (a0 == 1)) else (cleatref04_imm.j0 k a1 a0 (a0 == 14))
theorem cleatref04_imm.calls (k : Nat) (a0 : Int) (a1 : Int) (r : Bool) (w : World) (h : cleatref04_imm.f k a0 a1 = some r) :
 Calls Tryz.prog 138 #[.int .i64 a0, .int .i64 a1] w fun e w' => e = .returned (.bool r) ∧ Drawn0 w w' := by
 have H : (if a0 = 1 then (cleatref04_imm.j0 k a1 a0 (a0 == 1)) else (cleatref04_imm.j0 k a1 a0 (a0 == 14))) = some r := h
 clear h
 have HC3 := Azz.mk H
 clear H
 go_enter Tryz.func138, Tryz.ntmps138
 go_upto_if 6 with (fail)
 go_cut [6] (fun v6 wc => ∃ (kq : Nat) (x6_2 : Bool), v6 = .bool x6_2 ∧ Azz (cleatref04_imm.j0 kq a1 a0 x6_2 = some r) ∧ Azz (kq ≤ k) ∧ Drawn0 w wc)
 case first =>
  have H := HC3.out
  clear HC3
  by_cases c4 : a0 = 1
  ·rw [if_pos c4] at H
   obtain ⟨c4b0, c4b1⟩ := be_ c4
   clear c4
   (first | rw [c4b0] | (simp only [i64_w, i32_w]; rw [c4b0]) | skip)
   have H' := Azz.mk H
   clear H
   go_wp2
   go_meet
   case rel => exact ⟨_, ((a0 == 1)), eqS, H', ⟨leS⟩, d0S⟩
  rw [if_neg c4] at H
  obtain ⟨c4b0, c4b1⟩ := bn_ c4
  (first | rw [c4b0] | (simp only [i64_w, i32_w]; rw [c4b0]) | skip)
  have H' := Azz.mk H
  clear H
  go_wp2
  go_meet
  case rel => exact ⟨_, ((a0 == 14)), eqS, H', ⟨leS⟩, d0S⟩
 case rest =>
  clear HC3
  try clear c1
  try clear p2
  try clear c4
  try clear c4b0
  try clear c4b1
  obtain ⟨kq, x6_2, rfl, HA, HJ2, ⟨mc2, rfl⟩⟩ := hcut
  cases kq with
  | zero => exact absurd HA.out (by simp [cleatref04_imm.j0])
  | succ kj2 =>
   have H := HA.out
   clear HA
   simp only [cleatref04_imm.j0] at H
   by_cases c5 : x6_2 = true
   ·subst c5
    rw [if_pos rfl] at H
    obtain ⟨t309, A6, H⟩ := bnd H
    (try dsimp only at H)
    obtain rfl := sI H
    go_wp2_with (first | ((with_reducible refine g_c (f := 157) rfl ?_); refine gM (some 10) rfl rfl Tryz.func157 #[.int .i64 a1, .int .i64 0, .int .i64 65535, .int .i64 1] rfl ?_; (with_reducible refine (cleatref04_between.calls a1 0 65535 1 t309 _ A6.out).mono ?_); rintro e w' ⟨rfl, ⟨nd, rfl⟩⟩; refine ⟨_, rfl, ?_⟩))
    go_ret
    exact ⟨by first | rfl | (simp; done) | (simp [*]; done), d0S⟩
   replace c5 := Bool.eq_false_iff.mpr c5
   subst c5
   rw [if_neg nFT] at H
   have HC7 := Azz.mk H
   clear H
   go_upto_if 11 with (fail)
   go_cut [11] (fun v11 wc => ∃ (kq : Nat) (x11_6 : Bool), v11 = .bool x11_6 ∧ Azz (cleatref04_imm.j1 kq a1 a0 x11_6 = some r) ∧ Azz (kq ≤ kj2) ∧ Drawn0 w wc)
   case first =>
    have H := HC7.out
    clear HC7
    by_cases c8 : a0 = 2
    ·rw [if_pos c8] at H
     obtain ⟨c8b0, c8b1⟩ := be_ c8
     clear c8
     (first | rw [c8b0] | (simp only [i64_w, i32_w]; rw [c8b0]) | skip)
     have H' := Azz.mk H
     clear H
     go_wp2
     go_meet
     case rel => exact ⟨_, ((a0 == 2)), eqS, H', ⟨by have := HJ2.out; first | omega | exact Nat.le_refl _⟩, d0S⟩
    rw [if_neg c8] at H
    obtain ⟨c8b0, c8b1⟩ := bn_ c8
    (first | rw [c8b0] | (simp only [i64_w, i32_w]; rw [c8b0]) | skip)
    have H' := Azz.mk H
    clear H
    go_wp2
    go_meet
    case rel => exact ⟨_, ((a0 == 8)), eqS, H', ⟨by have := HJ2.out; first | omega | exact Nat.le_refl _⟩, d0S⟩
   case rest =>
    clear HC7
    try clear c1
    try clear c2
    try clear p2
    try clear c4
    try clear c4b0
    try clear c4b1
    try clear c5
    try clear c8
    try clear c8b0
    try clear c8b1
    try clear p2
    obtain ⟨kq, x11_6, rfl, HA, HJ6, ⟨mc6, rfl⟩⟩ := hcut
    cases kq with
    | zero => exact absurd HA.out (by simp [cleatref04_imm.j1])
    | succ kj6 =>
     have H := HA.out
     clear HA
     simp only [cleatref04_imm.j1] at H
     by_cases c9 : x11_6 = true
     ·subst c9
      rw [if_pos rfl] at H
      obtain ⟨t310, A10, H⟩ := bnd H
      (try dsimp only at H)
      obtain rfl := sI H
      go_wp2_with (first | ((with_reducible refine g_c (f := 157) rfl ?_); refine gM (some 15) rfl rfl Tryz.func157 #[.int .i64 a1, .int .i64 0, .int .i64 4095, .int .i64 1] rfl ?_; (with_reducible refine (cleatref04_between.calls a1 0 4095 1 t310 _ A10.out).mono ?_); rintro e w' ⟨rfl, ⟨nd, rfl⟩⟩; refine ⟨_, rfl, ?_⟩))
      go_ret
      exact ⟨by first | rfl | (simp; done) | (simp [*]; done), d0S⟩
     replace c9 := Bool.eq_false_iff.mpr c9
     subst c9
     rw [if_neg nFT] at H
     by_cases c11 : a0 = 7
     ·rw [if_pos c11] at H
      obtain ⟨c11b0, c11b1⟩ := be_ c11
      clear c11
      obtain ⟨t311, A12, H⟩ := bnd H
      (try dsimp only at H)
      obtain rfl := sI H
      go_wp2_with (first | ((with_reducible refine g_c (f := 157) rfl ?_); refine gM (some 19) rfl rfl Tryz.func157 #[.int .i64 a1, .int .i64 0, .int .i64 32760, .int .i64 8] rfl ?_; (with_reducible refine (cleatref04_between.calls a1 0 32760 8 t311 _ A12.out).mono ?_); rintro e w' ⟨rfl, ⟨nd, rfl⟩⟩; refine ⟨_, rfl, ?_⟩))
      go_ret
      exact ⟨by first | rfl | (simp; done) | (simp [*]; done), d0S⟩
     rw [if_neg c11] at H
     obtain ⟨c11b0, c11b1⟩ := bn_ c11
     have HC13 := Azz.mk H
     clear H
     go_upto_if 20 with (fail)
     go_cut [20] (fun v20 wc => ∃ (kq : Nat) (x20_12 : Bool), v20 = .bool x20_12 ∧ Azz (cleatref04_imm.j2 kq a1 a0 x20_12 = some r) ∧ Azz (kq ≤ kj6) ∧ Drawn0 w wc)
     case first =>
      have H := HC13.out
      clear HC13
      by_cases c14 : a0 = 9
      ·rw [if_pos c14] at H
       obtain ⟨c14b0, c14b1⟩ := be_ c14
       clear c14
       (first | rw [c14b0] | (simp only [i64_w, i32_w]; rw [c14b0]) | skip)
       have H' := Azz.mk H
       clear H
       go_wp2
       go_meet
       case rel => exact ⟨_, ((a0 == 9)), eqS, H', ⟨by have := HJ2.out; have := HJ6.out; first | omega | exact Nat.le_refl _⟩, d0S⟩
      rw [if_neg c14] at H
      obtain ⟨c14b0, c14b1⟩ := bn_ c14
      (first | rw [c14b0] | (simp only [i64_w, i32_w]; rw [c14b0]) | skip)
      have H' := Azz.mk H
      clear H
      go_wp2
      go_meet
      case rel => exact ⟨_, ((a0 == 12)), eqS, H', ⟨by have := HJ2.out; have := HJ6.out; first | omega | exact Nat.le_refl _⟩, d0S⟩
     case rest =>
      clear HC13
      try clear c1
      try clear c2
      try clear p2
      try clear c4
      try clear c4b0
      try clear c4b1
      try clear c5
      try clear c6
      try clear c8
      try clear c8b0
      try clear c8b1
      try clear c9
      try clear c11
      try clear c11b0
      try clear c11b1
      try clear c13
      try clear c14
      try clear c14b0
      try clear c14b1
      try clear p2
      obtain ⟨kq, x20_12, rfl, HA, HJ12, ⟨mc12, rfl⟩⟩ := hcut
      cases kq with
      | zero => exact absurd HA.out (by simp [cleatref04_imm.j2])
      | succ kj12 =>
       have H := HA.out
       clear HA
       simp only [cleatref04_imm.j2] at H
       by_cases c15 : x20_12 = true
       ·subst c15
        rw [if_pos rfl] at H
        obtain ⟨t312, A16, H⟩ := bnd H
        (try dsimp only at H)
        obtain rfl := sI H
        go_wp2_with (first | ((with_reducible refine g_c (f := 157) rfl ?_); refine gM (some 24) rfl rfl Tryz.func157 #[.int .i64 a1, .int .i64 (-1048576), .int .i64 1048572, .int .i64 4] rfl ?_; (with_reducible refine (cleatref04_between.calls a1 (-1048576) 1048572 4 t312 _ A16.out).mono ?_); rintro e w' ⟨rfl, ⟨nd, rfl⟩⟩; refine ⟨_, rfl, ?_⟩))
        go_ret
        exact ⟨by first | rfl | (simp; done) | (simp [*]; done), d0S⟩
       replace c15 := Bool.eq_false_iff.mpr c15
       subst c15
       rw [if_neg nFT] at H
       by_cases c17 : a0 = 10
       ·rw [if_pos c17] at H
        obtain ⟨c17b0, c17b1⟩ := be_ c17
        clear c17
        obtain ⟨t313, A18, H⟩ := bnd H
        (try dsimp only at H)
        obtain rfl := sI H
        go_wp2_with (first | ((with_reducible refine g_c (f := 157) rfl ?_); refine gM (some 28) rfl rfl Tryz.func157 #[.int .i64 a1, .int .i64 (-1048576), .int .i64 1048575, .int .i64 1] rfl ?_; (with_reducible refine (cleatref04_between.calls a1 (-1048576) 1048575 1 t313 _ A18.out).mono ?_); rintro e w' ⟨rfl, ⟨nd, rfl⟩⟩; refine ⟨_, rfl, ?_⟩))
        go_ret
        exact ⟨by first | rfl | (simp; done) | (simp [*]; done), d0S⟩
       rw [if_neg c17] at H
       obtain ⟨c17b0, c17b1⟩ := bn_ c17
       by_cases c19 : a0 = 11
       ·rw [if_pos c19] at H
        obtain ⟨c19b0, c19b1⟩ := be_ c19
        clear c19
        obtain ⟨t314, A20, H⟩ := bnd H
        (try dsimp only at H)
        obtain rfl := sI H
        go_wp2_with (first | ((with_reducible refine g_c (f := 157) rfl ?_); refine gM (some 32) rfl rfl Tryz.func157 #[.int .i64 a1, .int .i64 (-134217728), .int .i64 134217724, .int .i64 4] rfl ?_; (with_reducible refine (cleatref04_between.calls a1 (-134217728) 134217724 4 t314 _ A20.out).mono ?_); rintro e w' ⟨rfl, ⟨nd, rfl⟩⟩; refine ⟨_, rfl, ?_⟩))
        go_ret
        exact ⟨by first | rfl | (simp; done) | (simp [*]; done), d0S⟩
       rw [if_neg c19] at H
       obtain ⟨c19b0, c19b1⟩ := bn_ c19
       obtain rfl := sI H
       go_wp2
       go_ret
       exact ⟨by first | rfl | (simp; done) | (simp [*]; done), d0S⟩
def cleatref04_amount.f (a0 : Int) (a1 : Int) : Option (Bool) := if a0 = 1 then ((cleatref04_between.f a1 0 48 16).bind fun t315 => (some t315)) else (if a0 = 2 then ((cleatref04_between.f a1 0 12 12).bind fun t316 => (some t316)) else (if a0 = 4 then ((cleatref04_between.f a1 0 63 1).bind fun t317 => (some t317)) else (if a0 = 5 then ((cleatref04_between.f a1 0 63 1).bind fun t318 => (some t318)) else (some (a1 == 0)))))
theorem cleatref04_amount.calls (a0 : Int) (a1 : Int) (r : Bool) (w : World) (h : cleatref04_amount.f a0 a1 = some r) :
 Calls Tryz.prog 139 #[.int .i64 a0, .int .i64 a1] w fun e w' => e = .returned (.bool r) ∧ Drawn0 w w' := by
 have H : (if a0 = 1 then ((cleatref04_between.f a1 0 48 16).bind fun t315 => (some t315)) else (if a0 = 2 then ((cleatref04_between.f a1 0 12 12).bind fun t316 => (some t316)) else (if a0 = 4 then ((cleatref04_between.f a1 0 63 1).bind fun t317 => (some t317)) else (if a0 = 5 then ((cleatref04_between.f a1 0 63 1).bind fun t318 => (some t318)) else (some (a1 == 0)))))) = some r := h
 clear h
 by_cases c3 : a0 = 1
 ·rw [if_pos c3] at H
  obtain ⟨c3b0, c3b1⟩ := be_ c3
  clear c3
  obtain ⟨t315, A4, H⟩ := bnd H
  (try dsimp only at H)
  obtain rfl := sI H
  go_enter Tryz.func139, Tryz.ntmps139
  go_wp2_with (first | ((with_reducible refine g_c (f := 157) rfl ?_); refine gM (some 9) rfl rfl Tryz.func157 #[.int .i64 a1, .int .i64 0, .int .i64 48, .int .i64 16] rfl ?_; (with_reducible refine (cleatref04_between.calls a1 0 48 16 t315 _ A4.out).mono ?_); rintro e w' ⟨rfl, ⟨nd, rfl⟩⟩; refine ⟨_, rfl, ?_⟩))
  go_ret
  exact ⟨by first | rfl | (simp; done) | (simp [*]; done), d0S⟩
 rw [if_neg c3] at H
 obtain ⟨c3b0, c3b1⟩ := bn_ c3
 by_cases c5 : a0 = 2
 ·rw [if_pos c5] at H
  obtain ⟨c5b0, c5b1⟩ := be_ c5
  clear c5
  obtain ⟨t316, A6, H⟩ := bnd H
  (try dsimp only at H)
  obtain rfl := sI H
  go_enter Tryz.func139, Tryz.ntmps139
  go_wp2_with (first | ((with_reducible refine g_c (f := 157) rfl ?_); refine gM (some 13) rfl rfl Tryz.func157 #[.int .i64 a1, .int .i64 0, .int .i64 12, .int .i64 12] rfl ?_; (with_reducible refine (cleatref04_between.calls a1 0 12 12 t316 _ A6.out).mono ?_); rintro e w' ⟨rfl, ⟨nd, rfl⟩⟩; refine ⟨_, rfl, ?_⟩))
  go_ret
  exact ⟨by first | rfl | (simp; done) | (simp [*]; done), d0S⟩
 rw [if_neg c5] at H
 obtain ⟨c5b0, c5b1⟩ := bn_ c5
 by_cases c7 : a0 = 4
 ·rw [if_pos c7] at H
  obtain ⟨c7b0, c7b1⟩ := be_ c7
  clear c7
  obtain ⟨t317, A8, H⟩ := bnd H
  (try dsimp only at H)
  obtain rfl := sI H
  go_enter Tryz.func139, Tryz.ntmps139
  go_wp2_with (first | ((with_reducible refine g_c (f := 157) rfl ?_); refine gM (some 18) rfl rfl Tryz.func157 #[.int .i64 a1, .int .i64 0, .int .i64 63, .int .i64 1] rfl ?_; (with_reducible refine (cleatref04_between.calls a1 0 63 1 t317 _ A8.out).mono ?_); rintro e w' ⟨rfl, ⟨nd, rfl⟩⟩; refine ⟨_, rfl, ?_⟩))
  go_ret
  exact ⟨by first | rfl | (simp; done) | (simp [*]; done), d0S⟩
 rw [if_neg c7] at H
 obtain ⟨c7b0, c7b1⟩ := bn_ c7
 by_cases c9 : a0 = 5
 ·rw [if_pos c9] at H
  obtain ⟨c9b0, c9b1⟩ := be_ c9
  clear c9
  obtain ⟨t318, A10, H⟩ := bnd H
  (try dsimp only at H)
  obtain rfl := sI H
  go_enter Tryz.func139, Tryz.ntmps139
  go_wp2_with (first | ((with_reducible refine g_c (f := 157) rfl ?_); refine gM (some 18) rfl rfl Tryz.func157 #[.int .i64 a1, .int .i64 0, .int .i64 63, .int .i64 1] rfl ?_; (with_reducible refine (cleatref04_between.calls a1 0 63 1 t318 _ A10.out).mono ?_); rintro e w' ⟨rfl, ⟨nd, rfl⟩⟩; refine ⟨_, rfl, ?_⟩))
  go_ret
  exact ⟨by first | rfl | (simp; done) | (simp [*]; done), d0S⟩
 rw [if_neg c9] at H
 obtain ⟨c9b0, c9b1⟩ := bn_ c9
 obtain rfl := sI H
 go_enter Tryz.func139, Tryz.ntmps139
 go_wp2
 go_ret
 exact ⟨by first | rfl | (simp; done) | (simp [*]; done), d0S⟩
end Go.Proofs.YtngmipfodjgmmaaGreatDoor.P
