/- Walks and plain laws of this claim, a part. -/
import Derived.Test.YtngmipfodjgmmaaGreatDoorSw81
set_option maxRecDepth 100000
set_option maxHeartbeats 8000000
set_option linter.unusedVariables false
set_option linter.unusedSimpArgs false
namespace Go.Proofs.YtngmipfodjgmmaaGreatDoor.P
open Go.RowKit YtngmipfodjgmmaaGreatDoorW.PrintWords YtngmipfodjgmmaaGreatDoorW.PrintLast YtngmipfodjgmmaaGreatDoorW.PrintMore
attribute [local go_sem] max2_int min2_int max_two min_two max_three min_three max_four min_four   -- for this text's walks alone
attribute [local go_sem high] eqA49
mutual
def cleatref20_Same.l0 : Nat → List (List (S49)) → List (List (S49)) → Int → Option (Bool)
 | 0, _, _, _ => none
 | k + 1, x0, x1, x5 => if x5 < (x0.length : Int) then (if 0 ≤ x5 then (if x5 < (x1.length : Int) then (if ((rd_L15 x0 x5).length : Int) = ((rd_L15 x1 x5).length : Int) then (cleatref20_Same.l1 k x0 x1 x5 0) else (some false)) else (none)) else (none)) else (some true)
def cleatref20_Same.l1 : Nat → List (List (S49)) → List (List (S49)) → Int → Int → Option (Bool)
 | 0, _, _, _, _ => none
 | k + 1, x0, x1, x5, x6 => if 0 ≤ x5 then (if x5 < (x0.length : Int) then (if x6 < ((rd_L15 x0 x5).length : Int) then (if 0 ≤ x6 then (if x5 < (x1.length : Int) then (if x6 < ((rd_L15 x1 x5).length : Int) then (if (!(((rd_T49 (rd_L15 x0 x5) x6).f0) == ((rd_T49 (rd_L15 x1 x5) x6).f0)) || (!(((rd_T49 (rd_L15 x0 x5) x6).f1) == ((rd_T49 (rd_L15 x1 x5) x6).f1)) || (!(((rd_T49 (rd_L15 x0 x5) x6).f2) == ((rd_T49 (rd_L15 x1 x5) x6).f2))))) = true then (some false) else (cleatref20_Same.l1 k x0 x1 x5 (wrap64 (x6 + 1)))) else (none)) else (none)) else (none)) else (cleatref20_Same.l0 k x0 x1 (wrap64 (x5 + 1)))) else (none)) else (none)
end
def cleatref20_Same.f (k : Nat) (l0 : List (List (S49))) (l1 : List (List (S49))) : Option (Bool) := if (l0.length : Int) = (l1.length : Int) then (cleatref20_Same.l0 k l0 l1 0) else (some false)
theorem cleatref20_Same.calls (k : Nat) (A0 : Option Addr) (c0 : Nat) (l0 : List (List (S49))) (A1 : Option Addr) (c1 : Nat) (l1 : List (List (S49))) (r : Bool) (w : World) (hr0 : Kd.C (Kd.slice 49 k49) w A0 l0.length l0) (hc0 : l0.length ≤ c0) (hr1 : Kd.C (Kd.slice 49 k49) w A1 l1.length l1) (hc1 : l1.length ≤ c1) (h : cleatref20_Same.f k l0 l1 = some r) :
 Calls Tryz.prog 25 #[.slice A0 l0.length c0, .slice A1 l1.length c1] w fun e w' => e = .returned (.bool r) ∧ Drawn0 w w' := by
 have hu49 := Tryz.underlying49
 have HR0 := Azz.mk hr0
 have HC0 := Azz.mk hc0
 clear hr0 hc0
 have HR1 := Azz.mk hr1
 have HC1 := Azz.mk hc1
 clear hr1 hc1
 have H : (if (l0.length : Int) = (l1.length : Int) then (cleatref20_Same.l0 k l0 l1 0) else (some false)) = some r := h
 clear h
 by_cases c3 : (l0.length : Int) = (l1.length : Int)
 ·rw [if_pos c3] at H
  obtain ⟨c3b0, c3b1⟩ := be_ c3
  have c3b2 : (l0.length == l1.length) = true := by first | simpa using c3 | (simp at c3 ⊢; omega)
  clear c3
  have H' := Azz.mk H
  clear H
  go_enter Tryz.func25, Tryz.ntmps25
  go_wp2
  repeat (go_quiet (fail); try go_wp2)
  go_loopg [5] k (fun kq v5 w' => ∃ (x5_1 : Int), v5 = .int .i64 x5_1 ∧ Azz (cleatref20_Same.l0 kq l0 l1 x5_1 = some r) ∧ Azz (kq ≤ k) ∧ Drawn0 w w')
  case atStart => exact ⟨(0), eqS, H', ⟨Nat.le_refl _⟩, by repeat (first | exact Drawn0.refl _ | apply Drawn0.step)⟩
  case round =>
   clear H'
   try clear c1
   try clear c2
   try clear p2
   try clear c3
   try clear c3b0
   try clear c3b1
   try clear c3b2
   obtain ⟨x5_1, rfl, HA, HK1, ⟨m1, rfl⟩⟩ := hrel
   cases gk with
   | zero => exact absurd HA.out (by simp [cleatref20_Same.l0])
   | succ k1 =>
    have H := HA.out
    clear HA
    simp only [cleatref20_Same.l0] at H
    by_cases c4 : x5_1 < (l0.length : Int)
    ·rw [if_pos c4] at H
     have c4b0 := decide_eq_true c4
     clear c4
     by_cases c5 : 0 ≤ x5_1
     ·rw [if_pos c5] at H
      have c5b0 := decide_eq_true c5
      clear c5
      by_cases c6 : x5_1 < (l1.length : Int)
      ·rw [if_pos c6] at H
       have c6b0 := decide_eq_true c6
       clear c6
       by_cases c7 : ((rd_L15 l0 x5_1).length : Int) = ((rd_L15 l1 x5_1).length : Int)
       ·rw [if_pos c7] at H
        obtain ⟨c7b0, c7b1⟩ := be_ c7
        have c7b2 : ((rd_L15 l0 x5_1).length == (rd_L15 l1 x5_1).length) = true := by first | simpa using c7 | (simp at c7 ⊢; omega)
        clear c7
        have H' := Azz.mk H
        clear H
        have p392 : 0 ≤ (x5_1 : Int) := of_decide_eq_true (by first | (with_reducible assumption) | assumption)
        have q392 : x5_1 < (l0.length : Int) := of_decide_eq_true (by first | (with_reducible assumption) | assumption)
        obtain ⟨ad392, A392_0, c392_0, e392, hx392_0, hl392_0, hi392_0⟩ := at_L15 HR0.out x5_1 p392 q392
        cases e392
        have HR392_0 := Azz.mk hi392_0
        have HC392_0 := Azz.mk hl392_0
        clear hi392_0 hl392_0
        replace p392 := eq_true p392
        replace q392 := eq_true q392
        have p393 : 0 ≤ (x5_1 : Int) := of_decide_eq_true (by first | (with_reducible assumption) | assumption)
        have q393 : x5_1 < (l1.length : Int) := of_decide_eq_true (by first | (with_reducible assumption) | assumption)
        obtain ⟨ad393, A393_0, c393_0, e393, hx393_0, hl393_0, hi393_0⟩ := at_L15 HR1.out x5_1 p393 q393
        cases e393
        have HR393_0 := Azz.mk hi393_0
        have HC393_0 := Azz.mk hl393_0
        clear hi393_0 hl393_0
        replace p393 := eq_true p393
        replace q393 := eq_true q393
        go_wp2
        repeat (go_quiet (fail); try go_wp2)
        go_loopg [6] k1 (fun kq v6 w' => ∃ (x6_2 : Int), v6 = .int .i64 x6_2 ∧ Azz (cleatref20_Same.l1 kq l0 l1 x5_1 x6_2 = some r) ∧ Azz (kq ≤ k1) ∧ Drawn0 w w')
        case atStart => exact ⟨(0), eqS, H', ⟨Nat.le_refl _⟩, by repeat (first | exact Drawn0.refl _ | apply Drawn0.step)⟩
        case round =>
         clear H'
         try clear c1
         try clear c2
         try clear p2
         try clear c3
         try clear c3b0
         try clear c3b1
         try clear c3b2
         try clear p3
         try clear q3
         try clear hx3
         try clear c4
         try clear c4b0
         try clear c5
         try clear c5b0
         try clear c6
         try clear c6b0
         try clear c7
         try clear c7b0
         try clear c7b1
         try clear c7b2
         try clear hx392_0
         try clear hx393_0
         try clear p2
         try clear p392
         try clear p393
         try clear q392
         try clear q393
         obtain ⟨x6_2, rfl, HA, HK2, ⟨m2, rfl⟩⟩ := hrel
         cases gk with
         | zero => exact absurd HA.out (by simp [cleatref20_Same.l1])
         | succ k2 =>
          have H := HA.out
          clear HA
          simp only [cleatref20_Same.l1] at H
          by_cases c8 : 0 ≤ x5_1
          ·rw [if_pos c8] at H
           have c8b0 := decide_eq_true c8
           clear c8
           by_cases c9 : x5_1 < (l0.length : Int)
           ·rw [if_pos c9] at H
            have c9b0 := decide_eq_true c9
            clear c9
            by_cases c10 : x6_2 < ((rd_L15 l0 x5_1).length : Int)
            ·rw [if_pos c10] at H
             have c10b0 := decide_eq_true c10
             clear c10
             by_cases c11 : 0 ≤ x6_2
             ·rw [if_pos c11] at H
              have c11b0 := decide_eq_true c11
              clear c11
              by_cases c12 : x5_1 < (l1.length : Int)
              ·rw [if_pos c12] at H
               have c12b0 := decide_eq_true c12
               clear c12
               by_cases c13 : x6_2 < ((rd_L15 l1 x5_1).length : Int)
               ·rw [if_pos c13] at H
                have c13b0 := decide_eq_true c13
                clear c13
                by_cases c14 : (!(((rd_T49 (rd_L15 l0 x5_1) x6_2).f0) == ((rd_T49 (rd_L15 l1 x5_1) x6_2).f0)) || (!(((rd_T49 (rd_L15 l0 x5_1) x6_2).f1) == ((rd_T49 (rd_L15 l1 x5_1) x6_2).f1)) || (!(((rd_T49 (rd_L15 l0 x5_1) x6_2).f2) == ((rd_T49 (rd_L15 l1 x5_1) x6_2).f2))))) = true
                ·rw [if_pos c14] at H
                 have c14b0 : (!(((rd_T49 (rd_L15 l0 x5_1) x6_2).f0) == ((rd_T49 (rd_L15 l1 x5_1) x6_2).f0)) || (!(((rd_T49 (rd_L15 l0 x5_1) x6_2).f1) == ((rd_T49 (rd_L15 l1 x5_1) x6_2).f1)) || (!(((rd_T49 (rd_L15 l0 x5_1) x6_2).f2) == ((rd_T49 (rd_L15 l1 x5_1) x6_2).f2))))) = true := c14
                 clear c14
                 obtain rfl := Option.some.inj H
                 have p394 : 0 ≤ (x5_1 : Int) := of_decide_eq_true (by first | (with_reducible assumption) | assumption)
                 have q394 : x5_1 < (l0.length : Int) := of_decide_eq_true (by first | (with_reducible assumption) | assumption)
                 obtain ⟨ad394, A394_0, c394_0, e394, hx394_0, hl394_0, hi394_0⟩ := at_L15 HR0.out x5_1 p394 q394
                 obtain rfl : ad392 = ad394 := (by injection e394)
                 have HR394_0 := Azz.mk hi394_0
                 have HC394_0 := Azz.mk hl394_0
                 clear hi394_0 hl394_0
                 replace p394 := eq_true p394
                 replace q394 := eq_true q394
                 have p395 : 0 ≤ (x5_1 : Int) := of_decide_eq_true (by first | (with_reducible assumption) | assumption)
                 have q395 : x5_1 < (l0.length : Int) := of_decide_eq_true (by first | (with_reducible assumption) | assumption)
                 obtain ⟨ad395, A395_0, c395_0, e395, hx395_0, hl395_0, hi395_0⟩ := at_L15 HR0.out x5_1 p395 q395
                 obtain rfl : ad392 = ad395 := (by injection e395)
                 have HR395_0 := Azz.mk hi395_0
                 have HC395_0 := Azz.mk hl395_0
                 clear hi395_0 hl395_0
                 replace p395 := eq_true p395
                 replace q395 := eq_true q395
                 have ea_ := Option.some.inj (hx394_0.symm.trans hx395_0)
                 injection ea_ with ea_ en_ ec_
                 subst ea_
                 subst ec_
                 clear en_
                 have p396 : 0 ≤ (x6_2 : Int) := of_decide_eq_true (by first | (with_reducible assumption) | assumption)
                 have q396 : x6_2 < ((rd_L15 l0 x5_1).length : Int) := of_decide_eq_true (by first | (with_reducible assumption) | assumption)
                 obtain ⟨ad396, e396, hx396_0, hx396_1, hx396_2⟩ := at_T49 HR395_0.out x6_2 p396 q396
                 cases e396
                 replace p396 := eq_true p396
                 replace q396 := eq_true q396
                 have p397 : 0 ≤ (x5_1 : Int) := of_decide_eq_true (by first | (with_reducible assumption) | assumption)
                 have q397 : x5_1 < (l1.length : Int) := of_decide_eq_true (by first | (with_reducible assumption) | assumption)
                 obtain ⟨ad397, A397_0, c397_0, e397, hx397_0, hl397_0, hi397_0⟩ := at_L15 HR1.out x5_1 p397 q397
                 obtain rfl : ad393 = ad397 := (by injection e397)
                 have HR397_0 := Azz.mk hi397_0
                 have HC397_0 := Azz.mk hl397_0
                 clear hi397_0 hl397_0
                 replace p397 := eq_true p397
                 replace q397 := eq_true q397
                 have p398 : 0 ≤ (x6_2 : Int) := of_decide_eq_true (by first | (with_reducible assumption) | assumption)
                 have q398 : x6_2 < ((rd_L15 l1 x5_1).length : Int) := of_decide_eq_true (by first | (with_reducible assumption) | assumption)
                 obtain ⟨ad398, e398, hx398_0, hx398_1, hx398_2⟩ := at_T49 HR397_0.out x6_2 p398 q398
                 cases e398
                 replace p398 := eq_true p398
                 replace q398 := eq_true q398
                 go_wp2
                 repeat (go_quiet (fail); try go_wp2)
                 go_ret
                 exact fin_
                ·rw [if_neg c14] at H
                 have c14b0 : (!(((rd_T49 (rd_L15 l0 x5_1) x6_2).f0) == ((rd_T49 (rd_L15 l1 x5_1) x6_2).f0)) || (!(((rd_T49 (rd_L15 l0 x5_1) x6_2).f1) == ((rd_T49 (rd_L15 l1 x5_1) x6_2).f1)) || (!(((rd_T49 (rd_L15 l0 x5_1) x6_2).f2) == ((rd_T49 (rd_L15 l1 x5_1) x6_2).f2))))) = false := by simpa using c14
                 clear c14
                 have H' := Azz.mk H
                 clear H
                 have p394 : 0 ≤ (x5_1 : Int) := of_decide_eq_true (by first | (with_reducible assumption) | assumption)
                 have q394 : x5_1 < (l0.length : Int) := of_decide_eq_true (by first | (with_reducible assumption) | assumption)
                 obtain ⟨ad394, A394_0, c394_0, e394, hx394_0, hl394_0, hi394_0⟩ := at_L15 HR0.out x5_1 p394 q394
                 obtain rfl : ad392 = ad394 := (by injection e394)
                 have HR394_0 := Azz.mk hi394_0
                 have HC394_0 := Azz.mk hl394_0
                 clear hi394_0 hl394_0
                 replace p394 := eq_true p394
                 replace q394 := eq_true q394
                 have p395 : 0 ≤ (x5_1 : Int) := of_decide_eq_true (by first | (with_reducible assumption) | assumption)
                 have q395 : x5_1 < (l0.length : Int) := of_decide_eq_true (by first | (with_reducible assumption) | assumption)
                 obtain ⟨ad395, A395_0, c395_0, e395, hx395_0, hl395_0, hi395_0⟩ := at_L15 HR0.out x5_1 p395 q395
                 obtain rfl : ad392 = ad395 := (by injection e395)
                 have HR395_0 := Azz.mk hi395_0
                 have HC395_0 := Azz.mk hl395_0
                 clear hi395_0 hl395_0
                 replace p395 := eq_true p395
                 replace q395 := eq_true q395
                 have ea_ := Option.some.inj (hx394_0.symm.trans hx395_0)
                 injection ea_ with ea_ en_ ec_
                 subst ea_
                 subst ec_
                 clear en_
                 have p396 : 0 ≤ (x6_2 : Int) := of_decide_eq_true (by first | (with_reducible assumption) | assumption)
                 have q396 : x6_2 < ((rd_L15 l0 x5_1).length : Int) := of_decide_eq_true (by first | (with_reducible assumption) | assumption)
                 obtain ⟨ad396, e396, hx396_0, hx396_1, hx396_2⟩ := at_T49 HR395_0.out x6_2 p396 q396
                 cases e396
                 replace p396 := eq_true p396
                 replace q396 := eq_true q396
                 have p397 : 0 ≤ (x5_1 : Int) := of_decide_eq_true (by first | (with_reducible assumption) | assumption)
                 have q397 : x5_1 < (l1.length : Int) := of_decide_eq_true (by first | (with_reducible assumption) | assumption)
                 obtain ⟨ad397, A397_0, c397_0, e397, hx397_0, hl397_0, hi397_0⟩ := at_L15 HR1.out x5_1 p397 q397
                 obtain rfl : ad393 = ad397 := (by injection e397)
                 have HR397_0 := Azz.mk hi397_0
                 have HC397_0 := Azz.mk hl397_0
                 clear hi397_0 hl397_0
                 replace p397 := eq_true p397
                 replace q397 := eq_true q397
                 have p398 : 0 ≤ (x6_2 : Int) := of_decide_eq_true (by first | (with_reducible assumption) | assumption)
                 have q398 : x6_2 < ((rd_L15 l1 x5_1).length : Int) := of_decide_eq_true (by first | (with_reducible assumption) | assumption)
                 obtain ⟨ad398, e398, hx398_0, hx398_1, hx398_2⟩ := at_T49 HR397_0.out x6_2 p398 q398
                 cases e398
                 replace p398 := eq_true p398
                 replace q398 := eq_true q398
                 go_wp2
                 repeat (go_quiet (fail); try go_wp2)
                 go_roundg k2
                 case measure => have := HK1.out; have := HK2.out; omega
                 case rel => exact ⟨(wrap64 (x6_2 + 1)), eqS, H', ⟨by have := HK1.out; have := HK2.out; omega⟩, by repeat (first | exact Drawn0.refl _ | apply Drawn0.step)⟩
               ·rw [if_neg c13] at H
                exact absurd H (by simp)
              ·rw [if_neg c12] at H
               exact absurd H (by simp)
             ·rw [if_neg c11] at H
              exact absurd H (by simp)
            ·rw [if_neg c10] at H
             have c10b0 := decide_eq_false c10
             clear c10
             have H' := Azz.mk H
             clear H
             have p394 : 0 ≤ (x5_1 : Int) := of_decide_eq_true (by first | (with_reducible assumption) | assumption)
             have q394 : x5_1 < (l0.length : Int) := of_decide_eq_true (by first | (with_reducible assumption) | assumption)
             obtain ⟨ad394, A394_0, c394_0, e394, hx394_0, hl394_0, hi394_0⟩ := at_L15 HR0.out x5_1 p394 q394
             obtain rfl : ad392 = ad394 := (by injection e394)
             have HR394_0 := Azz.mk hi394_0
             have HC394_0 := Azz.mk hl394_0
             clear hi394_0 hl394_0
             replace p394 := eq_true p394
             replace q394 := eq_true q394
             go_wp2
             repeat (go_quiet (fail); try go_wp2)
             go_roundg k2
             case measure => have := HK1.out; have := HK2.out; omega
             case rel => exact ⟨(wrap64 (x5_1 + 1)), eqS, H', ⟨by have := HK1.out; have := HK2.out; omega⟩, by repeat (first | exact Drawn0.refl _ | apply Drawn0.step)⟩
           ·rw [if_neg c9] at H
            exact absurd H (by simp)
          ·rw [if_neg c8] at H
           exact absurd H (by simp)
       ·rw [if_neg c7] at H
        obtain ⟨c7b0, c7b1⟩ := bn_ c7
        have c7b2 : ((rd_L15 l0 x5_1).length == (rd_L15 l1 x5_1).length) = false := by first | simpa using c7 | (simp at c7 ⊢; omega)
        obtain rfl := Option.some.inj H
        have p392 : 0 ≤ (x5_1 : Int) := of_decide_eq_true (by first | (with_reducible assumption) | assumption)
        have q392 : x5_1 < (l0.length : Int) := of_decide_eq_true (by first | (with_reducible assumption) | assumption)
        obtain ⟨ad392, A392_0, c392_0, e392, hx392_0, hl392_0, hi392_0⟩ := at_L15 HR0.out x5_1 p392 q392
        cases e392
        have HR392_0 := Azz.mk hi392_0
        have HC392_0 := Azz.mk hl392_0
        clear hi392_0 hl392_0
        replace p392 := eq_true p392
        replace q392 := eq_true q392
        have p393 : 0 ≤ (x5_1 : Int) := of_decide_eq_true (by first | (with_reducible assumption) | assumption)
        have q393 : x5_1 < (l1.length : Int) := of_decide_eq_true (by first | (with_reducible assumption) | assumption)
        obtain ⟨ad393, A393_0, c393_0, e393, hx393_0, hl393_0, hi393_0⟩ := at_L15 HR1.out x5_1 p393 q393
        cases e393
        have HR393_0 := Azz.mk hi393_0
        have HC393_0 := Azz.mk hl393_0
        clear hi393_0 hl393_0
        replace p393 := eq_true p393
        replace q393 := eq_true q393
        go_wp2
        repeat (go_quiet (fail); try go_wp2)
        go_ret
        exact fin_
      ·rw [if_neg c6] at H
       exact absurd H (by simp)
     ·rw [if_neg c5] at H
      exact absurd H (by simp)
    ·rw [if_neg c4] at H
     have c4b0 := decide_eq_false c4
     clear c4
     obtain rfl := Option.some.inj H
     go_wp2
     repeat (go_quiet (fail); try go_wp2)
     go_ret
     exact fin_
 ·rw [if_neg c3] at H
  obtain ⟨c3b0, c3b1⟩ := bn_ c3
  have c3b2 : (l0.length == l1.length) = false := by first | simpa using c3 | (simp at c3 ⊢; omega)
  obtain rfl := Option.some.inj H
  go_enter Tryz.func25, Tryz.ntmps25
  go_wp2
  repeat (go_quiet (fail); try go_wp2)
  go_ret
  exact fin_
def cleatlaw20_weak.f (a0 : ByteArray) (a1 : Int) : Option ((List (S64)) × (List (S85))) := some ((([(⟨(⟨#[116]⟩ : ByteArray), 1, false, 0, (⟨#[]⟩ : ByteArray), ([] : List (S98))⟩ : S64)] : List (S64))), (([(⟨a0, a1, 0, 0⟩ : S85)] : List (S85))))
theorem cleatlaw20_weak.calls (a0 : ByteArray) (a1 : Int) (r1 : List (S64)) (r2 : List (S85)) (w : World) (h : cleatlaw20_weak.f a0 a1 = some (r1, r2)) :
 Calls Tryz.prog 53 #[.string a0, .int .i64 a1] w fun e w' => ∃ v0_ v1_ : Value, e = .returned (.agg #[v0_, v1_]) ∧ Kd.S k64 64 w' w.heap.size (fun _ => True) v0_ r1 ∧ Kd.R k85 85 w' w.heap.size (fun _ => True) v1_ r2 ∧ Below w.heap.size w w' := by
 have hu68 := Tryz.underlying68
 have hu64 := Tryz.underlying64
 have hu85 := Tryz.underlying85
 have HB := Azz.mk (Below.refl w.heap.size w)
 have H : (some ((([(⟨(⟨#[116]⟩ : ByteArray), 1, false, 0, (⟨#[]⟩ : ByteArray), ([] : List (S98))⟩ : S64)] : List (S64))), (([(⟨a0, a1, 0, 0⟩ : S85)] : List (S85))))) = some (r1, r2) := h
 clear h
 obtain ⟨y400, hy400⟩ : ∃ y_ : List (S64), y_ = (([(⟨(⟨#[116]⟩ : ByteArray), 1, false, 0, (⟨#[]⟩ : ByteArray), ([] : List (S98))⟩ : S64)] : List (S64))) := ⟨_, rfl⟩
 replace H : (some (y400, (([(⟨a0, a1, 0, 0⟩ : S85)] : List (S85))))) = some (r1, r2) := by first | (rw [hy400]; with_reducible exact H) | (have H2_ := (Option.bind_some _ _).symm.trans H; rw [hy400]; with_reducible exact H2_) | (have H2_ := (Option.bind_some _ _).symm.trans H; with_reducible exact H2_) | with_reducible exact H | (rw [hy400]; exact H) | exact H
 have Ny400 := Azz.mk hy400
 clear hy400
 obtain ⟨y403, hy403⟩ : ∃ y_ : List (S85), y_ = (([(⟨a0, a1, 0, 0⟩ : S85)] : List (S85))) := ⟨_, rfl⟩
 replace H : (some (y400, y403)) = some (r1, r2) := by first | (rw [hy403]; with_reducible exact H) | (have H2_ := (Option.bind_some _ _).symm.trans H; rw [hy403]; with_reducible exact H2_) | (have H2_ := (Option.bind_some _ _).symm.trans H; with_reducible exact H2_) | with_reducible exact H | (rw [hy403]; exact H) | exact H
 have Ny403 := Azz.mk hy403
 clear hy403
 simp only [Option.some.injEq, Prod.mk.injEq] at H
 obtain ⟨rfl, rfl⟩ := H
 go_enter Tryz.func53, Tryz.ntmps53
 go_wp2_with (first | ((with_reducible refine gate_dst (N := 4) rfl ?_); refine box_event ?hg (N := 4) ?hd (cs := #[.slice none 0 0, .slice none 0 0]) (t := 68) ?hr ?_; (case hd => rfl); (case hg => rfl); (case hr => first | (go_simp; done) | (go_simp; rfl)); intro gb399 hg w3 hbox hb; have n0_ := Azz.mk (bTT (by with_reducible repeat first | exact HB.out | apply bAA | apply bNN | apply bDD) hb); have n1_ := Azz.mk (hbox); have n2_ := Azz.mk ((by rw [hg]; exact (bZZ (by with_reducible repeat first | exact HB.out | apply bAA | apply bNN | apply bDD)) : w.heap.size ≤ gb399)); have n3_ := Azz.mk ((by rw [hg]; exact (bZZ (by with_reducible repeat first | exact HB.out | apply bAA | apply bNN | apply bDD)) : w.heap.size ≤ gb399)); clear HB; have HB := n0_; have BK399 := n1_; have GW399 := n2_; have GE399 := n3_; clear n0_ n1_ n2_ n3_; clear hb hbox hg) | ((with_reducible refine gate_dst (N := 6) rfl ?_); refine Kd.S_lit k64 _ 64 ?hg (N := 6) ?hd (xs := ([(⟨(⟨#[116]⟩ : ByteArray), 1, false, 0, (⟨#[]⟩ : ByteArray), ([] : List (S98))⟩ : S64)] : List (S64))) (inner := [.string (⟨#[116]⟩ : ByteArray), .int .i64 1, .bool false, .int .i64 0, .string (⟨#[]⟩ : ByteArray), .slice none 0 0]) (ok := fun _ => True) (okp := fun _ => True) ?hr ?hp (fun _ hk => hk) trivial (Below.refl _ _) (Nat.le_refl _) (by simp) ?_; (case hd => rfl); (case hg => rfl); (case hr => first | (go_simp; done) | (go_simp; rfl)); (case hp => exact (Reps.c6 (show Kd.M k64 _ _ _ (⟨(⟨#[116]⟩ : ByteArray), 1, false, 0, (⟨#[]⟩ : ByteArray), ([] : List (S98))⟩ : S64) [.string (⟨#[116]⟩ : ByteArray), .int .i64 1, .bool false, .int .i64 0, .string (⟨#[]⟩ : ByteArray), .slice none 0 0] from (k64_mkM _ _ _ (⟨(⟨#[116]⟩ : ByteArray), 1, false, 0, (⟨#[]⟩ : ByteArray), ([] : List (S98))⟩ : S64) (Kd.R_nil _ _ _ _ _))) (Reps.none _ _))); intro v401 w4 ho5 hb hg_ hnew_; clear hg_ hnew_; (first | rw [← Ny400.out] at ho5 | (simp only [Int.reduceToNat] at ho5; rw [← Ny400.out] at ho5)); have n0_ := Azz.mk (Kd.S_lower ho5 (bZZ (by with_reducible repeat first | exact HB.out | apply bAA | apply bNN | apply bDD | refine bSS ?_ GE399.out))); have n1_ := Azz.mk (blk_b hb BK399.out); have n2_ := Azz.mk (bTT (by with_reducible repeat first | exact HB.out | apply bAA | apply bNN | apply bDD | refine bSS ?_ GE399.out) hb); clear BK399; clear HB; have HO402 := n0_; have BK399 := n1_; have HB := n2_; clear n0_ n1_ n2_; clear hb ho5) | ((with_reducible refine gate_dst (N := 10) rfl ?_); refine Kd.R_lit k85 _ 85 ?hg (N := 10) ?hd (xs := ([(⟨a0, a1, 0, 0⟩ : S85)] : List (S85))) (inner := [.string a0, .int .i64 a1, .int .i64 0, .int .i64 0]) (ok := fun _ => True) (okp := fun _ => True) ?hr ?hp (fun _ hk => hk) trivial (Below.refl _ _) (Nat.le_refl _) (by simp) ?_; (case hd => rfl); (case hg => rfl); (case hr => first | (go_simp; done) | (go_simp; rfl)); (case hp => exact (Reps.c4 (show Kd.M k85 _ _ _ (⟨a0, a1, 0, 0⟩ : S85) [.string a0, .int .i64 a1, .int .i64 0, .int .i64 0] from (k85_mkM _ _ _ (⟨a0, a1, 0, 0⟩ : S85) )) (Reps.none _ _))); intro v404 w6 ho7 hb hg_ hnew_; clear hg_ hnew_; (first | rw [← Ny403.out] at ho7 | (simp only [Int.reduceToNat] at ho7; rw [← Ny403.out] at ho7)); have n0_ := Azz.mk (Kd.S_below (by (with_reducible repeat (first | apply Kd.S_alloc | apply Kd.S_drewN | apply Kd.S_drew)); exact HO402.out) hb); have n1_ := Azz.mk (Kd.R_lower ho7 (bZZ (by with_reducible repeat first | exact HB.out | apply bAA | apply bNN | apply bDD | refine bSS ?_ GE399.out))); have n2_ := Azz.mk (blk_b hb BK399.out); have n3_ := Azz.mk (bTT (by with_reducible repeat first | exact HB.out | apply bAA | apply bNN | apply bDD | refine bSS ?_ GE399.out) hb); clear HO402; clear BK399; clear HB; have HO402 := n0_; have HO405 := n1_; have BK399 := n2_; have HB := n3_; clear n0_ n1_ n2_ n3_; clear hb ho7; obtain ⟨Ao8, co8, eo8⟩ := Kd.R_slice HO405.out; subst eo8; obtain ⟨Ao9, co9, eo9⟩ := Kd.S_slice HO402.out; subst eo9; obtain ⟨hcz10_0, hcz10_1, hfz10_0, hfz10_1⟩ := cel2 BK399.out))
 refine bodyPost_ret (results_cell_row rfl _ _ gb399 68 #[.slice Ao9 y400.length co9, .slice Ao8 y403.length co8] (0, 0) _ rfl (by apply put2; (with_reducible repeat first | apply kNN | apply kDD | apply kAA); exact BK399.out) Tryz.underlying68 rfl (by kernel_rfl)) rfl ?_
 exact ⟨_, _, by first | rfl | (simp [eNN, eSS] <;> rfl) | (simp [*, eNN, eSS] <;> rfl), by (with_reducible repeat (first | apply Kd.S_alloc | apply Kd.S_drewN | apply Kd.S_drew)); exact Kd.S_mono (Kd.S_far (p := ⟨gb399, 1, none⟩) (Kd.S_far (p := ⟨gb399, 0, none⟩) (Kd.S_types HO402.out BK399.out (by decide)) (fun _ hk => hk.2) (.slice Ao9 y400.length co9)) (fun _ hk => hk.2) (.slice Ao8 y403.length co8)) (fun _ hk => trivial), by (with_reducible repeat (first | apply Kd.R_alloc | apply Kd.R_drewN | apply Kd.R_drew)); exact Kd.R_mono (Kd.farR2 (Kd.R_types HO405.out BK399.out (by decide)) (fun _ hk => hk.2)) (fun _ hk => trivial), by repeat (first | (with_reducible first | exact HB.out | apply bAA | apply bNN | apply bDD | refine bSS ?_ GE399.out) | exact HB.out)⟩
end Go.Proofs.YtngmipfodjgmmaaGreatDoor.P
