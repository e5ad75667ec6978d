/- Walks and plain laws of this claim, a part. -/
import Derived.Test.YtngmipfodjgmmaaGreatDoorFz36
set_option maxRecDepth 100000
set_option maxHeartbeats 8000000
set_option linter.unusedVariables false
set_option linter.unusedSimpArgs false
namespace Go.Proofs.YtngmipfodjgmmaaGreatDoor.P
open Go.RowKit Wa Wb Wc
attribute [local go_sem] max2_int min2_int max_two min_two max_three min_three max_four min_four
def inst_amount.f (a0 : Int) (a1 : Int) (a2 : Int) : Option (Bool) := if a0 = 1 then (if a1 = 0 then ((inst_within.f a2 0 48 16).bind fun t154 => (some t154)) else (some false)) else (if a0 = 2 then (if a1 = 0 then ((inst_within.f a2 0 12 12).bind fun t155 => (some t155)) else (some false)) else (if a0 = 4 then ((inst_within.f a1 0 2 1).bind fun t156 => (if t156 = true then ((inst_within.f a2 0 63 1).bind fun t157 => (some t157)) else (some false))) else (if a0 = 5 then ((inst_within.f a1 0 3 1).bind fun t158 => (if t158 = true then ((inst_within.f a2 0 63 1).bind fun t159 => (some t159)) else (some false))) else (if a1 = 0 then (some (a2 == 0)) else (some false)))))
theorem inst_amount.calls (a0 : Int) (a1 : Int) (a2 : Int) (r : Bool) (w : World) (h : inst_amount.f a0 a1 a2 = some r) :
 Calls Tryz.prog 126 #[.int .i64 a0, .int .i64 a1, .int .i64 a2] w fun e w' => e = .returned (.bool r) ∧ Drawn0 w w' := by
 have H : (if a0 = 1 then (if a1 = 0 then ((inst_within.f a2 0 48 16).bind fun t154 => (some t154)) else (some false)) else (if a0 = 2 then (if a1 = 0 then ((inst_within.f a2 0 12 12).bind fun t155 => (some t155)) else (some false)) else (if a0 = 4 then ((inst_within.f a1 0 2 1).bind fun t156 => (if t156 = true then ((inst_within.f a2 0 63 1).bind fun t157 => (some t157)) else (some false))) else (if a0 = 5 then ((inst_within.f a1 0 3 1).bind fun t158 => (if t158 = true then ((inst_within.f a2 0 63 1).bind fun t159 => (some t159)) else (some false))) else (if a1 = 0 then (some (a2 == 0)) else (some false)))))) = some r := h
 clear h
 by_cases c4 : a0 = 1
 ·rw [if_pos c4] at H
  obtain ⟨c4b0, c4b1⟩ := be_ c4
  clear c4
  by_cases c5 : a1 = 0
  ·rw [if_pos c5] at H
   obtain ⟨c5b0, c5b1⟩ := be_ c5
   clear c5
   obtain ⟨t154, A6, H⟩ := bnd H
   (try dsimp only at H)
   obtain rfl := sI H
   go_enter Tryz.func126, Tryz.ntmps126
   go_wp2_with (first | (go_at_call 149; (with_reducible refine (inst_within.calls a2 0 48 16 t154 _ A6.out).mono ?_); rintro e w' ⟨rfl, ⟨nd, rfl⟩⟩))
   go_ret
   exact ⟨by first | rfl | (simp; done) | (simp [*]; done), d0S⟩
  rw [if_neg c5] at H
  obtain ⟨c5b0, c5b1⟩ := bn_ c5
  obtain rfl := sI H
  go_enter Tryz.func126, Tryz.ntmps126
  go_wp2
  go_ret
  exact ⟨by first | rfl | (simp; done) | (simp [*]; done), d0S⟩
 rw [if_neg c4] at H
 obtain ⟨c4b0, c4b1⟩ := bn_ c4
 by_cases c7 : a0 = 2
 ·rw [if_pos c7] at H
  obtain ⟨c7b0, c7b1⟩ := be_ c7
  clear c7
  by_cases c8 : a1 = 0
  ·rw [if_pos c8] at H
   obtain ⟨c8b0, c8b1⟩ := be_ c8
   clear c8
   obtain ⟨t155, A9, H⟩ := bnd H
   (try dsimp only at H)
   obtain rfl := sI H
   go_enter Tryz.func126, Tryz.ntmps126
   go_wp2_with (first | (go_at_call 149; (with_reducible refine (inst_within.calls a2 0 12 12 t155 _ A9.out).mono ?_); rintro e w' ⟨rfl, ⟨nd, rfl⟩⟩))
   go_ret
   exact ⟨by first | rfl | (simp; done) | (simp [*]; done), d0S⟩
  rw [if_neg c8] at H
  obtain ⟨c8b0, c8b1⟩ := bn_ c8
  obtain rfl := sI H
  go_enter Tryz.func126, Tryz.ntmps126
  go_wp2
  go_ret
  exact ⟨by first | rfl | (simp; done) | (simp [*]; done), d0S⟩
 rw [if_neg c7] at H
 obtain ⟨c7b0, c7b1⟩ := bn_ c7
 by_cases c10 : a0 = 4
 ·rw [if_pos c10] at H
  obtain ⟨c10b0, c10b1⟩ := be_ c10
  clear c10
  obtain ⟨t156, A11, H⟩ := bnd H
  (try dsimp only at H)
  by_cases c12 : t156 = true
  ·subst c12
   rw [if_pos rfl] at H
   obtain ⟨t157, A13, H⟩ := bnd H
   (try dsimp only at H)
   obtain rfl := sI H
   go_enter Tryz.func126, Tryz.ntmps126
   go_wp2_with (first | ((with_reducible refine g_c (f := 149) rfl ?_); refine gM (some 27) rfl rfl Tryz.func149 #[.int .i64 a1, .int .i64 0, .int .i64 2, .int .i64 1] rfl ?_; (with_reducible refine (inst_within.calls a1 0 2 1 true _ A11.out).mono ?_); rintro e w' ⟨rfl, ⟨nd, rfl⟩⟩; refine ⟨_, rfl, ?_⟩) | (go_at_call 149; (with_reducible refine (inst_within.calls a2 0 63 1 t157 _ A13.out).mono ?_); rintro e w' ⟨rfl, ⟨nd, rfl⟩⟩))
   go_ret
   exact ⟨by first | rfl | (simp; done) | (simp [*]; done), d0S⟩
  replace c12 := Bool.eq_false_iff.mpr c12
  subst c12
  rw [if_neg nFT] at H
  obtain rfl := sI H
  go_enter Tryz.func126, Tryz.ntmps126
  go_wp2_with (first | ((with_reducible refine g_c (f := 149) rfl ?_); refine gM (some 27) rfl rfl Tryz.func149 #[.int .i64 a1, .int .i64 0, .int .i64 2, .int .i64 1] rfl ?_; (with_reducible refine (inst_within.calls a1 0 2 1 false _ A11.out).mono ?_); rintro e w' ⟨rfl, ⟨nd, rfl⟩⟩; refine ⟨_, rfl, ?_⟩))
  go_ret
  exact ⟨by first | rfl | (simp; done) | (simp [*]; done), d0S⟩
 rw [if_neg c10] at H
 obtain ⟨c10b0, c10b1⟩ := bn_ c10
 by_cases c14 : a0 = 5
 ·rw [if_pos c14] at H
  obtain ⟨c14b0, c14b1⟩ := be_ c14
  clear c14
  obtain ⟨t158, A15, H⟩ := bnd H
  (try dsimp only at H)
  by_cases c16 : t158 = true
  ·subst c16
   rw [if_pos rfl] at H
   obtain ⟨t159, A17, H⟩ := bnd H
   (try dsimp only at H)
   obtain rfl := sI H
   go_enter Tryz.func126, Tryz.ntmps126
   go_wp2_with (first | ((with_reducible refine g_c (f := 149) rfl ?_); refine gM (some 35) rfl rfl Tryz.func149 #[.int .i64 a1, .int .i64 0, .int .i64 3, .int .i64 1] rfl ?_; (with_reducible refine (inst_within.calls a1 0 3 1 true _ A15.out).mono ?_); rintro e w' ⟨rfl, ⟨nd, rfl⟩⟩; refine ⟨_, rfl, ?_⟩) | (go_at_call 149; (with_reducible refine (inst_within.calls a2 0 63 1 t159 _ A17.out).mono ?_); rintro e w' ⟨rfl, ⟨nd, rfl⟩⟩))
   go_ret
   exact ⟨by first | rfl | (simp; done) | (simp [*]; done), d0S⟩
  replace c16 := Bool.eq_false_iff.mpr c16
  subst c16
  rw [if_neg nFT] at H
  obtain rfl := sI H
  go_enter Tryz.func126, Tryz.ntmps126
  go_wp2_with (first | ((with_reducible refine g_c (f := 149) rfl ?_); refine gM (some 35) rfl rfl Tryz.func149 #[.int .i64 a1, .int .i64 0, .int .i64 3, .int .i64 1] rfl ?_; (with_reducible refine (inst_within.calls a1 0 3 1 false _ A15.out).mono ?_); rintro e w' ⟨rfl, ⟨nd, rfl⟩⟩; refine ⟨_, rfl, ?_⟩))
  go_ret
  exact ⟨by first | rfl | (simp; done) | (simp [*]; done), d0S⟩
 rw [if_neg c14] at H
 obtain ⟨c14b0, c14b1⟩ := bn_ c14
 by_cases c18 : a1 = 0
 ·rw [if_pos c18] at H
  obtain ⟨c18b0, c18b1⟩ := be_ c18
  clear c18
  obtain rfl := sI H
  go_enter Tryz.func126, Tryz.ntmps126
  go_wp2
  go_ret
  exact ⟨by first | rfl | (simp; done) | (simp [*]; done), d0S⟩
 rw [if_neg c18] at H
 obtain ⟨c18b0, c18b1⟩ := bn_ c18
 obtain rfl := sI H
 go_enter Tryz.func126, Tryz.ntmps126
 go_wp2
 go_ret
 exact ⟨by first | rfl | (simp; done) | (simp [*]; done), d0S⟩
def inst_cond.f (a0 : Int) (a1 : Int) : Option (Bool) := if a0 = 12 then ((inst_within.f a1 0 13 1).bind fun t160 => (some t160)) else (if a0 = 16 then ((inst_within.f a1 0 13 1).bind fun t161 => (some t161)) else (some (a1 == 0)))
theorem inst_cond.calls (a0 : Int) (a1 : Int) (r : Bool) (w : World) (h : inst_cond.f a0 a1 = some r) :
 Calls Tryz.prog 127 #[.int .i64 a0, .int .i64 a1] w fun e w' => e = .returned (.bool r) ∧ Drawn0 w w' := by
 have H : (if a0 = 12 then ((inst_within.f a1 0 13 1).bind fun t160 => (some t160)) else (if a0 = 16 then ((inst_within.f a1 0 13 1).bind fun t161 => (some t161)) else (some (a1 == 0)))) = some r := h
 clear h
 by_cases c3 : a0 = 12
 ·rw [if_pos c3] at H
  obtain ⟨c3b0, c3b1⟩ := be_ c3
  clear c3
  obtain ⟨t160, A4, H⟩ := bnd H
  (try dsimp only at H)
  obtain rfl := sI H
  go_enter Tryz.func127, Tryz.ntmps127
  go_wp2_with (first | ((with_reducible refine g_c (f := 149) rfl ?_); refine gM (some 12) rfl rfl Tryz.func149 #[.int .i64 a1, .int .i64 0, .int .i64 13, .int .i64 1] rfl ?_; (with_reducible refine (inst_within.calls a1 0 13 1 t160 _ A4.out).mono ?_); rintro e w' ⟨rfl, ⟨nd, rfl⟩⟩; refine ⟨_, rfl, ?_⟩))
  go_ret
  exact ⟨by first | rfl | (simp; done) | (simp [*]; done), d0S⟩
 rw [if_neg c3] at H
 obtain ⟨c3b0, c3b1⟩ := bn_ c3
 by_cases c5 : a0 = 16
 ·rw [if_pos c5] at H
  obtain ⟨c5b0, c5b1⟩ := be_ c5
  clear c5
  obtain ⟨t161, A6, H⟩ := bnd H
  (try dsimp only at H)
  obtain rfl := sI H
  go_enter Tryz.func127, Tryz.ntmps127
  go_wp2_with (first | ((with_reducible refine g_c (f := 149) rfl ?_); refine gM (some 12) rfl rfl Tryz.func149 #[.int .i64 a1, .int .i64 0, .int .i64 13, .int .i64 1] rfl ?_; (with_reducible refine (inst_within.calls a1 0 13 1 t161 _ A6.out).mono ?_); rintro e w' ⟨rfl, ⟨nd, rfl⟩⟩; refine ⟨_, rfl, ?_⟩))
  go_ret
  exact ⟨by first | rfl | (simp; done) | (simp [*]; done), d0S⟩
 rw [if_neg c5] at H
 obtain ⟨c5b0, c5b1⟩ := bn_ c5
 obtain rfl := sI H
 go_enter Tryz.func127, Tryz.ntmps127
 go_wp2
 go_ret
 exact ⟨by first | rfl | (simp; done) | (simp [*]; done), d0S⟩
end Go.Proofs.YtngmipfodjgmmaaGreatDoor.P
