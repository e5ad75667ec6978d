/- Walks and plain laws of this claim, a part. -/
import Derived.Test.YtpcdebakiccecaaGreatDoorPs26
namespace Go.Proofs.YtpcdebakiccecaaGreatDoor.P
open Go.RowKit Go.Proofs.YtpcdebakiccecaaGreatDoorW.PrintWords Go.Proofs.YtpcdebakiccecaaGreatDoorW.PrintLast Go.Proofs.YtpcdebakiccecaaGreatDoorW.PrintMore
attribute [local go_sem] max2_int min2_int max_two min_two max_three min_three max_four min_four   -- for this text's walks alone
set_option linter.unusedVariables false
set_option linter.unusedSimpArgs false
def cleatref10_Text.f (k : Nat) (a0 : Int) : Option (ByteArray) := (cleatref10_write.f k a0 10).bind fun t111 => (some t111)
theorem cleatref10_Text.mono : ∀ a0 k, LeO (cleatref10_Text.f k a0) (cleatref10_Text.f (k + 1) a0) := by
 intro a0 k
 unfold cleatref10_Text.f
 repeat' first
  | (with_reducible exact cleatref10_write.mono _ _ _)
  | (with_reducible exact LeO.refl _)
  | (with_reducible exact LeO.none _)
  | (with_reducible refine LeO.ite ?_ ?_)
  | (with_reducible refine LeO.bind ?_ (fun _ => ?_))
set_option maxHeartbeats 8000000 in
set_option maxRecDepth 100000 in
theorem cleatref10_Text.calls (k : Nat) (a0 : Int) (r : ByteArray) (w : World) (h : cleatref10_Text.f k a0 = some r) :
 Calls Tryz.prog 102 #[.int .u64 a0] w fun e w' => e = .returned (.string r) ∧ Drawn0 w w' := by
 have H : ((cleatref10_write.f k a0 10).bind fun t111 => (some t111)) = some r := h
 clear h
 replace H := Option.bind_eq_some_iff.mp H
 obtain ⟨t111, A20, H⟩ := H
 (try dsimp only at H)
 have A2 := Azz.mk A20
 clear A20
 obtain rfl := Option.some.inj H
 go_enter Tryz.func102, Tryz.ntmps102
 go_wp2_with (first | ((with_reducible refine gate_callee (f := 114) rfl ?_); refine goesL_ (some 4) rfl rfl Tryz.func114 (by kernel_rfl) rfl #[.int .u64 a0, .int .u64 10] rfl (by (try simp only [List.map_toArray, List.map_cons, List.map_nil]); first | done | rfl | (simp only [List.length_drop, List.length_take]; rfl)) ?_; (with_reducible refine (cleatref10_write.calls k a0 10 t111 _ A2.out).mono ?_); rintro e w' ⟨rfl, ⟨nd, rfl⟩⟩; refine ⟨_, rfl, ?_⟩))
 go_ret
 exact ⟨by first | rfl | (simp; done) | (simp [*]; done), by repeat (first | exact Drawn0.refl _ | apply Drawn0.step)⟩
def cleatref11_RegText.j0 : Nat → Int → Bool → Bool → Option (ByteArray × Int)
 | 0, _, _, _ => none
 | k + 1, x0, x1, x18 => if x18 = true then (some ((⟨#[]⟩ : ByteArray), 1)) else (if x1 = true then (some ((⟨#[115, 112]⟩ : ByteArray), 0)) else (if x0 = 31 then (some ((⟨#[120, 122, 114]⟩ : ByteArray), 0)) else ((cleatref10_Text.f k (IntKind.u64.wrap (x0))).bind fun t112 => (if 1 + t112.size ≤ 9223372036854775807 then (some ((⟨#[120]⟩ : ByteArray) ++ t112, 0)) else (none)))))
def cleatref11_RegText.f (k : Nat) (a0 : Int) (a1 : Bool) : Option (ByteArray × Int) := if a0 < 0 then (cleatref11_RegText.j0 k a0 a1 true) else (if a0 > 31 then (cleatref11_RegText.j0 k a0 a1 true) else (if a1 = true then (cleatref11_RegText.j0 k a0 a1 (a0 != 31)) else (cleatref11_RegText.j0 k a0 a1 false)))
theorem cleatref11_RegText.mono_l : ∀ k, (∀ y0 y1 y2, LeO (cleatref11_RegText.j0 k y0 y1 y2) (cleatref11_RegText.j0 (k + 1) y0 y1 y2))
 | 0 => fun _ _ _ r h => by simp [cleatref11_RegText.j0] at h
 | k + 1 => by
  have ih0 := cleatref11_RegText.mono_l k
  ·intro y0 y1 y2
   unfold cleatref11_RegText.j0
   repeat' first
   | (with_reducible exact ih0 _ _ _)
   | (with_reducible exact cleatref10_Text.mono _ _)
   | (with_reducible exact LeO.refl _)
   | (with_reducible exact LeO.none _)
   | (with_reducible refine LeO.ite ?_ ?_)
   | (with_reducible refine LeO.bind ?_ (fun _ => ?_))
theorem cleatref11_RegText.mono : ∀ a0 a1 k, LeO (cleatref11_RegText.f k a0 a1) (cleatref11_RegText.f (k + 1) a0 a1) := by
 intro a0 a1 k
 have ih0 := cleatref11_RegText.mono_l k
 unfold cleatref11_RegText.f
 repeat' first
  | (with_reducible exact ih0 _ _ _)
  | (with_reducible exact cleatref10_Text.mono _ _)
  | (with_reducible exact LeO.refl _)
  | (with_reducible exact LeO.none _)
  | (with_reducible refine LeO.ite ?_ ?_)
  | (with_reducible refine LeO.bind ?_ (fun _ => ?_))
set_option maxHeartbeats 8000000 in
set_option maxRecDepth 100000 in
theorem cleatref11_RegText.calls (k : Nat) (a0 : Int) (a1 : Bool) (r1 : ByteArray) (r2 : Int) (w : World) (h : cleatref11_RegText.f k a0 a1 = some (r1, r2)) :
 Calls Tryz.prog 84 #[.int .i64 a0, .bool a1] w fun e w' => e = .returned (.tuple #[.string r1, .int .i64 r2]) ∧ Drawn0 w w' := by
 have H : (if a0 < 0 then (cleatref11_RegText.j0 k a0 a1 true) else (if a0 > 31 then (cleatref11_RegText.j0 k a0 a1 true) else (if a1 = true then (cleatref11_RegText.j0 k a0 a1 (a0 != 31)) else (cleatref11_RegText.j0 k a0 a1 false)))) = some (r1, r2) := h
 clear h
 have HC3 := Azz.mk H
 clear H
 go_enter Tryz.func84, Tryz.ntmps84
 go_upto_region 1 with (fail)
 go_cut [18] (fun v18 wc => ∃ (kq : Nat) (x18_2 : Bool), v18 = .bool x18_2 ∧ Azz (cleatref11_RegText.j0 kq a0 a1 x18_2 = some (r1, r2)) ∧ Azz (kq ≤ k) ∧ Drawn0 w wc)
 case first =>
  have H := HC3.out
  clear HC3
  by_cases c4 : a0 < 0
  ·rw [if_pos c4] at H
   have c4b0 := decide_eq_true c4
   clear c4
   (first | rw [c4b0] | (simp only [i64_w, i32_w]; rw [c4b0]) | skip)
   have H' := Azz.mk H
   clear H
   go_wp2
   go_meet
   case rel => exact ⟨_, (true), (by first | rfl | (simp; done) | (simp [*]; done)), H', ⟨by first | omega | exact Nat.le_refl _⟩, by repeat (first | exact Drawn0.refl _ | apply Drawn0.step)⟩
  ·rw [if_neg c4] at H
   have c4b0 := decide_eq_false c4
   clear c4
   (first | rw [c4b0] | (simp only [i64_w, i32_w]; rw [c4b0]) | skip)
   by_cases c5 : a0 > 31
   ·rw [if_pos c5] at H
    have c5b0 := decide_eq_true c5
    clear c5
    have H' := Azz.mk H
    clear H
    go_wp2
    go_meet
    case rel => exact ⟨_, (true), (by first | rfl | (simp; done) | (simp [*]; done)), H', ⟨by first | omega | exact Nat.le_refl _⟩, by repeat (first | exact Drawn0.refl _ | apply Drawn0.step)⟩
   ·rw [if_neg c5] at H
    have c5b0 := decide_eq_false c5
    clear c5
    by_cases c6 : a1 = true
    ·subst c6
     rw [if_pos rfl] at H
     have H' := Azz.mk H
     clear H
     go_wp2
     go_meet
     case rel => exact ⟨_, ((a0 != 31)), (by first | rfl | (simp; done) | (simp [*]; done)), H', ⟨by first | omega | exact Nat.le_refl _⟩, by repeat (first | exact Drawn0.refl _ | apply Drawn0.step)⟩
    ·replace c6 := Bool.eq_false_iff.mpr c6
     subst c6
     rw [if_neg (show ¬ (false = true) by decide)] at H
     have H' := Azz.mk H
     clear H
     go_wp2
     go_meet
     case rel => exact ⟨_, (false), (by first | rfl | (simp; done) | (simp [*]; done)), H', ⟨by first | omega | exact Nat.le_refl _⟩, by repeat (first | exact Drawn0.refl _ | apply Drawn0.step)⟩
 case rest =>
  clear HC3
  try clear p2
  try clear c4
  try clear c4b0
  try clear c5
  try clear c5b0
  try clear c6
  obtain ⟨kq, x18_2, rfl, HA, HJ2, ⟨mc2, rfl⟩⟩ := hcut
  cases kq with
  | zero => exact absurd HA.out (by simp [cleatref11_RegText.j0])
  | succ kj2 =>
   have H := HA.out
   clear HA
   simp only [cleatref11_RegText.j0] at H
   by_cases c7 : x18_2 = true
   ·subst c7
    rw [if_pos rfl] at H
    simp only [Option.some.injEq, Prod.mk.injEq] at H
    obtain ⟨rfl, rfl⟩ := H
    go_wp2
    go_ret2
    exact ⟨by first | rfl | (simp; done) | (simp [*]; done), by repeat (first | exact Drawn0.refl _ | apply Drawn0.step)⟩
   ·replace c7 := Bool.eq_false_iff.mpr c7
    subst c7
    rw [if_neg (show ¬ (false = true) by decide)] at H
    by_cases c8 : a1 = true
    ·subst c8
     rw [if_pos rfl] at H
     simp only [Option.some.injEq, Prod.mk.injEq] at H
     obtain ⟨rfl, rfl⟩ := H
     go_wp2
     go_ret2
     exact ⟨by first | rfl | (simp; done) | (simp [*]; done), by repeat (first | exact Drawn0.refl _ | apply Drawn0.step)⟩
    ·replace c8 := Bool.eq_false_iff.mpr c8
     subst c8
     rw [if_neg (show ¬ (false = true) by decide)] at H
     by_cases c9 : a0 = 31
     ·rw [if_pos c9] at H
      have c9b0 := beq_iff_eq.mpr c9
      have c9b1 := bne_eq_false_iff_eq.mpr c9
      clear c9
      simp only [Option.some.injEq, Prod.mk.injEq] at H
      obtain ⟨rfl, rfl⟩ := H
      go_wp2
      go_ret2
      exact ⟨by first | rfl | (simp; done) | (simp [*]; done), by repeat (first | exact Drawn0.refl _ | apply Drawn0.step)⟩
     ·rw [if_neg c9] at H
      have c9b0 := beq_eq_false_iff_ne.mpr c9
      have c9b1 := bne_iff_ne.mpr c9
      replace H := Option.bind_eq_some_iff.mp H
      obtain ⟨t112, A100, H⟩ := H
      (try dsimp only at H)
      have A10 := Azz.mk A100
      clear A100
      by_cases c11 : 1 + t112.size ≤ 9223372036854775807
      ·rw [if_pos c11] at H
       have c11b0 := eq_true c11
       have c11b1 := decide_eq_true c11
       try have c11b2 : (9223372036854775807 < 1 + t112.size) = False := eq_false (Nat.not_lt.2 c11)
       simp only [Option.some.injEq, Prod.mk.injEq] at H
       obtain ⟨rfl, rfl⟩ := H
       go_wp2_with (first | ((with_reducible refine gate_callee (f := 102) rfl ?_); refine goesL_ (some 24) rfl rfl Tryz.func102 (by kernel_rfl) rfl #[.int .u64 (IntKind.u64.wrap (a0))] rfl (by (try simp only [List.map_toArray, List.map_cons, List.map_nil]); first | done | rfl | (simp only [List.length_drop, List.length_take]; rfl)) ?_; (with_reducible refine (cleatref10_Text.calls kj2 (IntKind.u64.wrap (a0)) t112 _ A10.out).mono ?_); rintro e w' ⟨rfl, ⟨nd, rfl⟩⟩; refine ⟨_, rfl, ?_⟩))
       go_ret2
       exact ⟨by first | rfl | (simp; done) | (simp [*]; done), by repeat (first | exact Drawn0.refl _ | apply Drawn0.step)⟩
      ·rw [if_neg c11] at H
       exact absurd H (by simp)
def cleatref11_Reg.l0 : Nat → ByteArray → Int → Option (Int × Bool × Int)
 | 0, _, _ => none
 | k + 1, x0, x5 => if x5 ≤ 31 then ((cleatref11_RegText.f k x5 false).bind fun bt113 => (if x0.toList = bt113.1.toList then (some (x5, false, 0)) else (cleatref11_Reg.l0 k x0 (wrap64 (x5 + 1))))) else (some (0, false, 3))
def cleatref11_Reg.f (k : Nat) (a0 : ByteArray) : Option (Int × Bool × Int) := if a0.toList = ([115, 112] : List UInt8) then (some (31, true, 0)) else (cleatref11_Reg.l0 k a0 0)
set_option maxHeartbeats 8000000 in
set_option maxRecDepth 100000 in
theorem cleatref11_Reg.calls (k : Nat) (a0 : ByteArray) (r1 : Int) (r2 : Bool) (r3 : Int) (w : World) (h : cleatref11_Reg.f k a0 = some (r1, r2, r3)) :
 Calls Tryz.prog 65 #[.string a0] w fun e w' => e = .returned (.tuple #[.int .i64 r1, .bool r2, .int .i64 r3]) ∧ Drawn0 w w' := by
 have H : (if a0.toList = ([115, 112] : List UInt8) then (some (31, true, 0)) else (cleatref11_Reg.l0 k a0 0)) = some (r1, r2, r3) := h
 clear h
 by_cases c2 : a0.toList = ([115, 112] : List UInt8)
 ·rw [if_pos c2] at H
  have c2b0 := beq_iff_eq.mpr c2
  have c2b1 := bne_eq_false_iff_eq.mpr c2
  clear c2
  simp only [Option.some.injEq, Prod.mk.injEq] at H
  obtain ⟨rfl, rfl, rfl⟩ := H
  go_enter Tryz.func65, Tryz.ntmps65
  go_wp2
  go_ret3
  exact ⟨by first | rfl | (simp; done) | (simp [*]; done), by repeat (first | exact Drawn0.refl _ | apply Drawn0.step)⟩
 ·rw [if_neg c2] at H
  have c2b0 := beq_eq_false_iff_ne.mpr c2
  have c2b1 := bne_iff_ne.mpr c2
  have H' := Azz.mk H
  clear H
  go_enter Tryz.func65, Tryz.ntmps65
  go_wp2
  go_loopg [5] k (fun kq v5 w' => ∃ (x5_1 : Int), v5 = .int .i64 x5_1 ∧ Azz (cleatref11_Reg.l0 kq a0 x5_1 = some (r1, r2, r3)) ∧ Azz (kq ≤ k) ∧ Drawn0 w w')
  case atStart => exact ⟨(0), (by first | rfl | (simp; done) | (simp [*]; done)), H', ⟨Nat.le_refl _⟩, by repeat (first | exact Drawn0.refl _ | apply Drawn0.step)⟩
  case round =>
   clear H'
   try clear c2
   try clear c2b0
   try clear c2b1
   try clear p2
   obtain ⟨x5_1, rfl, HA, HK1, ⟨m1, rfl⟩⟩ := hrel
   cases gk with
   | zero => exact absurd HA.out (by simp [cleatref11_Reg.l0])
   | succ k1 =>
    have H := HA.out
    clear HA
    simp only [cleatref11_Reg.l0] at H
    by_cases c3 : x5_1 ≤ 31
    ·rw [if_pos c3] at H
     have c3b0 := decide_eq_true c3
     clear c3
     replace H := Option.bind_eq_some_iff.mp H
     obtain ⟨⟨t113, t114⟩, A40, H⟩ := H
     (try dsimp only at H)
     have A4 := Azz.mk A40
     clear A40
     by_cases c5 : a0.toList = t113.toList
     ·rw [if_pos c5] at H
      have c5b0 := beq_iff_eq.mpr c5
      have c5b1 := bne_eq_false_iff_eq.mpr c5
      clear c5
      simp only [Option.some.injEq, Prod.mk.injEq] at H
      obtain ⟨rfl, rfl, rfl⟩ := H
      go_wp2_with (first | ((with_reducible refine gate_callee (f := 84) rfl ?_); refine goesL_ (some 16) rfl rfl Tryz.func84 (by kernel_rfl) rfl #[.int .i64 x5_1, .bool false] rfl (by (try simp only [List.map_toArray, List.map_cons, List.map_nil]); first | done | rfl | (simp only [List.length_drop, List.length_take]; rfl)) ?_; (with_reducible refine (cleatref11_RegText.calls k1 x5_1 false t113 t114 _ A4.out).mono ?_); rintro e w' ⟨rfl, ⟨nd, rfl⟩⟩; refine ⟨_, rfl, ?_⟩))
      go_ret3
      exact ⟨by first | rfl | (simp; done) | (simp [*]; done), by repeat (first | exact Drawn0.refl _ | apply Drawn0.step)⟩
     ·rw [if_neg c5] at H
      have c5b0 := beq_eq_false_iff_ne.mpr c5
      have c5b1 := bne_iff_ne.mpr c5
      have H' := Azz.mk H
      clear H
      go_wp2_with (first | ((with_reducible refine gate_callee (f := 84) rfl ?_); refine goesL_ (some 16) rfl rfl Tryz.func84 (by kernel_rfl) rfl #[.int .i64 x5_1, .bool false] rfl (by (try simp only [List.map_toArray, List.map_cons, List.map_nil]); first | done | rfl | (simp only [List.length_drop, List.length_take]; rfl)) ?_; (with_reducible refine (cleatref11_RegText.calls k1 x5_1 false t113 t114 _ A4.out).mono ?_); rintro e w' ⟨rfl, ⟨nd, rfl⟩⟩; refine ⟨_, rfl, ?_⟩))
      go_roundg k1
      case measure => have := HK1.out; omega
      case rel => exact ⟨(wrap64 (x5_1 + 1)), (by first | rfl | (simp; done) | (simp [*]; done)), H', ⟨by have := HK1.out; omega⟩, by repeat (first | exact Drawn0.refl _ | apply Drawn0.step)⟩
    ·rw [if_neg c3] at H
     have c3b0 := decide_eq_false c3
     clear c3
     simp only [Option.some.injEq, Prod.mk.injEq] at H
     obtain ⟨rfl, rfl, rfl⟩ := H
     go_wp2
     go_ret3
     exact ⟨by first | rfl | (simp; done) | (simp [*]; done), by repeat (first | exact Drawn0.refl _ | apply Drawn0.step)⟩
def cleatref09_letter.f (a0 : Int) : Option (Bool) := if a0 ≥ 97 then (if a0 ≤ 122 then (some true) else (if a0 ≥ 65 then (if a0 ≤ 90 then (some true) else (if a0 = 95 then (some true) else (if a0 = 46 then (some true) else (some (a0 == 36))))) else (if a0 = 95 then (some true) else (if a0 = 46 then (some true) else (some (a0 == 36)))))) else (if a0 ≥ 65 then (if a0 ≤ 90 then (some true) else (if a0 = 95 then (some true) else (if a0 = 46 then (some true) else (some (a0 == 36))))) else (if a0 = 95 then (some true) else (if a0 = 46 then (some true) else (some (a0 == 36)))))
set_option maxHeartbeats 8000000 in
set_option maxRecDepth 100000 in
theorem cleatref09_letter.calls (a0 : Int) (r : Bool) (w : World) (h : cleatref09_letter.f a0 = some r) :
 Calls Tryz.prog 85 #[.int .u8 a0] w fun e w' => e = .returned (.bool r) ∧ Drawn0 w w' := by
 have H : (if a0 ≥ 97 then (if a0 ≤ 122 then (some true) else (if a0 ≥ 65 then (if a0 ≤ 90 then (some true) else (if a0 = 95 then (some true) else (if a0 = 46 then (some true) else (some (a0 == 36))))) else (if a0 = 95 then (some true) else (if a0 = 46 then (some true) else (some (a0 == 36)))))) else (if a0 ≥ 65 then (if a0 ≤ 90 then (some true) else (if a0 = 95 then (some true) else (if a0 = 46 then (some true) else (some (a0 == 36))))) else (if a0 = 95 then (some true) else (if a0 = 46 then (some true) else (some (a0 == 36)))))) = some r := h
 clear h
 by_cases c2 : a0 ≥ 97
 ·rw [if_pos c2] at H
  have c2b0 := decide_eq_true c2
  clear c2
  by_cases c3 : a0 ≤ 122
  ·rw [if_pos c3] at H
   have c3b0 := decide_eq_true c3
   clear c3
   obtain rfl := Option.some.inj H
   go_enter Tryz.func85, Tryz.ntmps85
   go_wp2
   go_ret
   exact ⟨by first | rfl | (simp; done) | (simp [*]; done), by repeat (first | exact Drawn0.refl _ | apply Drawn0.step)⟩
  ·rw [if_neg c3] at H
   have c3b0 := decide_eq_false c3
   clear c3
   by_cases c4 : a0 ≥ 65
   ·rw [if_pos c4] at H
    have c4b0 := decide_eq_true c4
    clear c4
    by_cases c5 : a0 ≤ 90
    ·rw [if_pos c5] at H
     have c5b0 := decide_eq_true c5
     clear c5
     obtain rfl := Option.some.inj H
     go_enter Tryz.func85, Tryz.ntmps85
     go_wp2
     go_ret
     exact ⟨by first | rfl | (simp; done) | (simp [*]; done), by repeat (first | exact Drawn0.refl _ | apply Drawn0.step)⟩
    ·rw [if_neg c5] at H
     have c5b0 := decide_eq_false c5
     clear c5
     by_cases c6 : a0 = 95
     ·rw [if_pos c6] at H
      have c6b0 := beq_iff_eq.mpr c6
      have c6b1 := bne_eq_false_iff_eq.mpr c6
      clear c6
      obtain rfl := Option.some.inj H
      go_enter Tryz.func85, Tryz.ntmps85
      go_wp2
      go_ret
      exact ⟨by first | rfl | (simp; done) | (simp [*]; done), by repeat (first | exact Drawn0.refl _ | apply Drawn0.step)⟩
     ·rw [if_neg c6] at H
      have c6b0 := beq_eq_false_iff_ne.mpr c6
      have c6b1 := bne_iff_ne.mpr c6
      by_cases c7 : a0 = 46
      ·rw [if_pos c7] at H
       have c7b0 := beq_iff_eq.mpr c7
       have c7b1 := bne_eq_false_iff_eq.mpr c7
       clear c7
       obtain rfl := Option.some.inj H
       go_enter Tryz.func85, Tryz.ntmps85
       go_wp2
       go_ret
       exact ⟨by first | rfl | (simp; done) | (simp [*]; done), by repeat (first | exact Drawn0.refl _ | apply Drawn0.step)⟩
      ·rw [if_neg c7] at H
       have c7b0 := beq_eq_false_iff_ne.mpr c7
       have c7b1 := bne_iff_ne.mpr c7
       obtain rfl := Option.some.inj H
       go_enter Tryz.func85, Tryz.ntmps85
       go_wp2
       go_ret
       exact ⟨by first | rfl | (simp; done) | (simp [*]; done), by repeat (first | exact Drawn0.refl _ | apply Drawn0.step)⟩
   ·rw [if_neg c4] at H
    have c4b0 := decide_eq_false c4
    clear c4
    by_cases c8 : a0 = 95
    ·rw [if_pos c8] at H
     have c8b0 := beq_iff_eq.mpr c8
     have c8b1 := bne_eq_false_iff_eq.mpr c8
     clear c8
     obtain rfl := Option.some.inj H
     go_enter Tryz.func85, Tryz.ntmps85
     go_wp2
     go_ret
     exact ⟨by first | rfl | (simp; done) | (simp [*]; done), by repeat (first | exact Drawn0.refl _ | apply Drawn0.step)⟩
    ·rw [if_neg c8] at H
     have c8b0 := beq_eq_false_iff_ne.mpr c8
     have c8b1 := bne_iff_ne.mpr c8
     by_cases c9 : a0 = 46
     ·rw [if_pos c9] at H
      have c9b0 := beq_iff_eq.mpr c9
      have c9b1 := bne_eq_false_iff_eq.mpr c9
      clear c9
      obtain rfl := Option.some.inj H
      go_enter Tryz.func85, Tryz.ntmps85
      go_wp2
      go_ret
      exact ⟨by first | rfl | (simp; done) | (simp [*]; done), by repeat (first | exact Drawn0.refl _ | apply Drawn0.step)⟩
     ·rw [if_neg c9] at H
      have c9b0 := beq_eq_false_iff_ne.mpr c9
      have c9b1 := bne_iff_ne.mpr c9
      obtain rfl := Option.some.inj H
      go_enter Tryz.func85, Tryz.ntmps85
      go_wp2
      go_ret
      exact ⟨by first | rfl | (simp; done) | (simp [*]; done), by repeat (first | exact Drawn0.refl _ | apply Drawn0.step)⟩
 ·rw [if_neg c2] at H
  have c2b0 := decide_eq_false c2
  clear c2
  by_cases c10 : a0 ≥ 65
  ·rw [if_pos c10] at H
   have c10b0 := decide_eq_true c10
   clear c10
   by_cases c11 : a0 ≤ 90
   ·rw [if_pos c11] at H
    have c11b0 := decide_eq_true c11
    clear c11
    obtain rfl := Option.some.inj H
    go_enter Tryz.func85, Tryz.ntmps85
    go_wp2
    go_ret
    exact ⟨by first | rfl | (simp; done) | (simp [*]; done), by repeat (first | exact Drawn0.refl _ | apply Drawn0.step)⟩
   ·rw [if_neg c11] at H
    have c11b0 := decide_eq_false c11
    clear c11
    by_cases c12 : a0 = 95
    ·rw [if_pos c12] at H
     have c12b0 := beq_iff_eq.mpr c12
     have c12b1 := bne_eq_false_iff_eq.mpr c12
     clear c12
     obtain rfl := Option.some.inj H
     go_enter Tryz.func85, Tryz.ntmps85
     go_wp2
     go_ret
     exact ⟨by first | rfl | (simp; done) | (simp [*]; done), by repeat (first | exact Drawn0.refl _ | apply Drawn0.step)⟩
    ·rw [if_neg c12] at H
     have c12b0 := beq_eq_false_iff_ne.mpr c12
     have c12b1 := bne_iff_ne.mpr c12
     by_cases c13 : a0 = 46
     ·rw [if_pos c13] at H
      have c13b0 := beq_iff_eq.mpr c13
      have c13b1 := bne_eq_false_iff_eq.mpr c13
      clear c13
      obtain rfl := Option.some.inj H
      go_enter Tryz.func85, Tryz.ntmps85
      go_wp2
      go_ret
      exact ⟨by first | rfl | (simp; done) | (simp [*]; done), by repeat (first | exact Drawn0.refl _ | apply Drawn0.step)⟩
     ·rw [if_neg c13] at H
      have c13b0 := beq_eq_false_iff_ne.mpr c13
      have c13b1 := bne_iff_ne.mpr c13
      obtain rfl := Option.some.inj H
      go_enter Tryz.func85, Tryz.ntmps85
      go_wp2
      go_ret
      exact ⟨by first | rfl | (simp; done) | (simp [*]; done), by repeat (first | exact Drawn0.refl _ | apply Drawn0.step)⟩
  ·rw [if_neg c10] at H
   have c10b0 := decide_eq_false c10
   clear c10
   by_cases c14 : a0 = 95
   ·rw [if_pos c14] at H
    have c14b0 := beq_iff_eq.mpr c14
    have c14b1 := bne_eq_false_iff_eq.mpr c14
    clear c14
    obtain rfl := Option.some.inj H
    go_enter Tryz.func85, Tryz.ntmps85
    go_wp2
    go_ret
    exact ⟨by first | rfl | (simp; done) | (simp [*]; done), by repeat (first | exact Drawn0.refl _ | apply Drawn0.step)⟩
   ·rw [if_neg c14] at H
    have c14b0 := beq_eq_false_iff_ne.mpr c14
    have c14b1 := bne_iff_ne.mpr c14
    by_cases c15 : a0 = 46
    ·rw [if_pos c15] at H
     have c15b0 := beq_iff_eq.mpr c15
     have c15b1 := bne_eq_false_iff_eq.mpr c15
     clear c15
     obtain rfl := Option.some.inj H
     go_enter Tryz.func85, Tryz.ntmps85
     go_wp2
     go_ret
     exact ⟨by first | rfl | (simp; done) | (simp [*]; done), by repeat (first | exact Drawn0.refl _ | apply Drawn0.step)⟩
    ·rw [if_neg c15] at H
     have c15b0 := beq_eq_false_iff_ne.mpr c15
     have c15b1 := bne_iff_ne.mpr c15
     obtain rfl := Option.some.inj H
     go_enter Tryz.func85, Tryz.ntmps85
     go_wp2
     go_ret
     exact ⟨by first | rfl | (simp; done) | (simp [*]; done), by repeat (first | exact Drawn0.refl _ | apply Drawn0.step)⟩
def cleatref09_digit.f (a0 : Int) : Option (Bool) := if a0 ≥ 48 then (some (decide (a0 ≤ 57))) else (some false)
set_option maxHeartbeats 8000000 in
set_option maxRecDepth 100000 in
theorem cleatref09_digit.calls (a0 : Int) (r : Bool) (w : World) (h : cleatref09_digit.f a0 = some r) :
 Calls Tryz.prog 103 #[.int .u8 a0] w fun e w' => e = .returned (.bool r) ∧ Drawn0 w w' := by
 have H : (if a0 ≥ 48 then (some (decide (a0 ≤ 57))) else (some false)) = some r := h
 clear h
 by_cases c2 : a0 ≥ 48
 ·rw [if_pos c2] at H
  have c2b0 := decide_eq_true c2
  clear c2
  obtain rfl := Option.some.inj H
  go_enter Tryz.func103, Tryz.ntmps103
  go_wp2
  go_ret
  exact ⟨by first | rfl | (simp; done) | (simp [*]; done), by repeat (first | exact Drawn0.refl _ | apply Drawn0.step)⟩
 ·rw [if_neg c2] at H
  have c2b0 := decide_eq_false c2
  clear c2
  obtain rfl := Option.some.inj H
  go_enter Tryz.func103, Tryz.ntmps103
  go_wp2
  go_ret
  exact ⟨by first | rfl | (simp; done) | (simp [*]; done), by repeat (first | exact Drawn0.refl _ | apply Drawn0.step)⟩
def cleatref09_run.l0 : Nat → ByteArray → Int → Int → Option (Int)
 | 0, _, _, _ => none
 | k + 1, x0, x1, x5 => if (wrap64 (x1 + x5)) < (x0.size : Int) then (if 0 ≤ (wrap64 (x1 + x5)) then ((cleatref09_digit.f (bt x0 (wrap64 (x1 + x5)))).bind fun t115 => (if t115 = true then (cleatref09_run.l0 k x0 x1 (wrap64 (x5 + 1))) else ((cleatref09_letter.f (bt x0 (wrap64 (x1 + x5)))).bind fun t116 => (if t116 = true then (cleatref09_run.l0 k x0 x1 (wrap64 (x5 + 1))) else (some x5))))) else (none)) else (some x5)
def cleatref09_run.f (k : Nat) (a0 : ByteArray) (a1 : Int) : Option (Int) := cleatref09_run.l0 k a0 a1 0
set_option maxHeartbeats 8000000 in
set_option maxRecDepth 100000 in
theorem cleatref09_run.calls (k : Nat) (a0 : ByteArray) (a1 : Int) (r : Int) (w : World) (h : cleatref09_run.f k a0 a1 = some r) :
 Calls Tryz.prog 86 #[.string a0, .int .i64 a1] w fun e w' => e = .returned (.int .i64 r) ∧ Drawn0 w w' := by
 have H : (cleatref09_run.l0 k a0 a1 0) = some r := h
 clear h
 have H' := Azz.mk H
 clear H
 go_enter Tryz.func86, Tryz.ntmps86
 go_wp2
 go_loopg [5] k (fun kq v5 w' => ∃ (x5_1 : Int), v5 = .int .i64 x5_1 ∧ Azz (cleatref09_run.l0 kq a0 a1 x5_1 = some r) ∧ Azz (kq ≤ k) ∧ Drawn0 w w')
 case atStart => exact ⟨(0), (by first | rfl | (simp; done) | (simp [*]; done)), H', ⟨Nat.le_refl _⟩, by repeat (first | exact Drawn0.refl _ | apply Drawn0.step)⟩
 case round =>
  clear H'
  try clear p2
  obtain ⟨x5_1, rfl, HA, HK1, ⟨m1, rfl⟩⟩ := hrel
  cases gk with
  | zero => exact absurd HA.out (by simp [cleatref09_run.l0])
  | succ k1 =>
   have H := HA.out
   clear HA
   simp only [cleatref09_run.l0] at H
   by_cases c3 : (wrap64 (a1 + x5_1)) < (a0.size : Int)
   ·rw [if_pos c3] at H
    have c3b0 := decide_eq_true c3
    clear c3
    obtain ⟨ji4, hji4⟩ : ∃ j_ : Int, (wrap64 (a1 + x5_1)) = j_ := ⟨_, rfl⟩
    replace H : (if 0 ≤ (ji4) then ((cleatref09_digit.f (bt a0 (ji4))).bind fun t115 => (if t115 = true then (cleatref09_run.l0 k1 a0 a1 (wrap64 (x5_1 + 1))) else ((cleatref09_letter.f (bt a0 (ji4))).bind fun t116 => (if t116 = true then (cleatref09_run.l0 k1 a0 a1 (wrap64 (x5_1 + 1))) else (some x5_1))))) else (none)) = some r := by first | (rw [hji4] at H; exact H) | (simp only [hji4] at H ⊢; exact H)
    (try rw [hji4] at c3b0)
    have hji4w : (IntKind.i64.wrap (a1 + x5_1)) = ji4 := (i64_w _).trans hji4
    by_cases c5 : 0 ≤ (ji4)
    ·rw [if_pos c5] at H
     have c5b0 := decide_eq_true c5
     clear c5
     replace H := Option.bind_eq_some_iff.mp H
     obtain ⟨t115, A70, H⟩ := H
     (try dsimp only at H)
     have A7 := Azz.mk A70
     clear A70
     by_cases c8 : t115 = true
     ·subst c8
      rw [if_pos rfl] at H
      have H' := Azz.mk H
      clear H
      have p6 : 0 ≤ ((ji4) : Int) := of_decide_eq_true (by first | (with_reducible assumption) | assumption)
      have q6 : (ji4) < (a0.size : Int) := of_decide_eq_true (by first | (with_reducible assumption) | assumption)
      have hx6 := bt_at a0 (ji4)
      replace p6 := eq_true p6
      replace q6 := eq_true q6
      go_wp2_with (first | (go_at_call 103; (with_reducible refine (cleatref09_digit.calls (bt a0 (ji4)) true _ A7.out).mono ?_); rintro e w' ⟨rfl, ⟨nd, rfl⟩⟩))
      go_roundg k1
      case measure => have := HK1.out; omega
      case rel => exact ⟨(wrap64 (x5_1 + 1)), (by first | rfl | (simp; done) | (simp [*]; done)), H', ⟨by have := HK1.out; omega⟩, by repeat (first | exact Drawn0.refl _ | apply Drawn0.step)⟩
     ·replace c8 := Bool.eq_false_iff.mpr c8
      subst c8
      rw [if_neg (show ¬ (false = true) by decide)] at H
      replace H := Option.bind_eq_some_iff.mp H
      obtain ⟨t116, A100, H⟩ := H
      (try dsimp only at H)
      have A10 := Azz.mk A100
      clear A100
      by_cases c11 : t116 = true
      ·subst c11
       rw [if_pos rfl] at H
       have H' := Azz.mk H
       clear H
       have p6 : 0 ≤ ((ji4) : Int) := of_decide_eq_true (by first | (with_reducible assumption) | assumption)
       have q6 : (ji4) < (a0.size : Int) := of_decide_eq_true (by first | (with_reducible assumption) | assumption)
       have hx6 := bt_at a0 (ji4)
       replace p6 := eq_true p6
       replace q6 := eq_true q6
       go_wp2_with (first | (go_at_call 103; (with_reducible refine (cleatref09_digit.calls (bt a0 (ji4)) false _ A7.out).mono ?_); rintro e w' ⟨rfl, ⟨nd, rfl⟩⟩; have p9 : 0 ≤ ((ji4) : Int) := of_decide_eq_true (by first | (with_reducible assumption) | assumption); have q9 : (ji4) < (a0.size : Int) := of_decide_eq_true (by first | (with_reducible assumption) | assumption); have hx9 := bt_at a0 (ji4); replace p9 := eq_true p9; replace q9 := eq_true q9) | (go_at_call 85; (with_reducible refine (cleatref09_letter.calls (bt a0 (ji4)) true _ A10.out).mono ?_); rintro e w' ⟨rfl, ⟨nd, rfl⟩⟩))
       go_roundg k1
       case measure => have := HK1.out; omega
       case rel => exact ⟨(wrap64 (x5_1 + 1)), (by first | rfl | (simp; done) | (simp [*]; done)), H', ⟨by have := HK1.out; omega⟩, by repeat (first | exact Drawn0.refl _ | apply Drawn0.step)⟩
      ·replace c11 := Bool.eq_false_iff.mpr c11
       subst c11
       rw [if_neg (show ¬ (false = true) by decide)] at H
       obtain rfl := Option.some.inj H
       have p6 : 0 ≤ ((ji4) : Int) := of_decide_eq_true (by first | (with_reducible assumption) | assumption)
       have q6 : (ji4) < (a0.size : Int) := of_decide_eq_true (by first | (with_reducible assumption) | assumption)
       have hx6 := bt_at a0 (ji4)
       replace p6 := eq_true p6
       replace q6 := eq_true q6
       go_wp2_with (first | (go_at_call 103; (with_reducible refine (cleatref09_digit.calls (bt a0 (ji4)) false _ A7.out).mono ?_); rintro e w' ⟨rfl, ⟨nd, rfl⟩⟩; have p9 : 0 ≤ ((ji4) : Int) := of_decide_eq_true (by first | (with_reducible assumption) | assumption); have q9 : (ji4) < (a0.size : Int) := of_decide_eq_true (by first | (with_reducible assumption) | assumption); have hx9 := bt_at a0 (ji4); replace p9 := eq_true p9; replace q9 := eq_true q9) | (go_at_call 85; (with_reducible refine (cleatref09_letter.calls (bt a0 (ji4)) false _ A10.out).mono ?_); rintro e w' ⟨rfl, ⟨nd, rfl⟩⟩))
       go_ret
       exact ⟨by first | rfl | (simp; done) | (simp only [← hji4] <;> (first | rfl | simp)) | (simp [*]; done), by repeat (first | exact Drawn0.refl _ | apply Drawn0.step)⟩
    ·rw [if_neg c5] at H
     exact absurd H (by simp)
   ·rw [if_neg c3] at H
    have c3b0 := decide_eq_false c3
    clear c3
    obtain rfl := Option.some.inj H
    go_wp2
    go_ret
    exact ⟨by first | rfl | (simp; done) | (simp [*]; done), by repeat (first | exact Drawn0.refl _ | apply Drawn0.step)⟩
end Go.Proofs.YtpcdebakiccecaaGreatDoor.P
