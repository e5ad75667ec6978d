/- Walks and plain laws of this claim, a part. -/
import Derived.Test.YtpcdebakiccecaaGreatDoorPs29
namespace Go.Proofs.YtpcdebakiccecaaGreatDoor.P
open Go.RowKit Go.Proofs.YtpcdebakiccecaaGreatDoorW.PrintWords Go.Proofs.YtpcdebakiccecaaGreatDoorW.PrintLast Go.Proofs.YtpcdebakiccecaaGreatDoorW.PrintMore
attribute [local go_sem] max2_int min2_int max_two min_two max_three min_three max_four min_four   -- for this text's walks alone
set_option linter.unusedVariables false
set_option linter.unusedSimpArgs false
mutual
def bits_Rotate.j0 : Nat → Int → Int → Int → Option (Int × Int)
 | 0, _, _, _ => none
 | k + 1, x0, x1, x2 => if x1 < 0 then (bits_Rotate.j1 k x0 x1 x2 true) else (bits_Rotate.j1 k x0 x1 x2 (decide (x1 ≥ x2)))
def bits_Rotate.j1 : Nat → Int → Int → Int → Bool → Option (Int × Int)
 | 0, _, _, _, _ => none
 | k + 1, x0, x1, x2, x22 => if x22 = true then (some (0, 1)) else ((bits_Low.f x0 x2).bind fun t138 => (if t138 = x0 then (if 0 ≤ x1 then (if 0 ≤ (wrap64 (x2 - x1)) then ((bits_Low.f (Go.bits .or .u64 (shr .u64 x0 x1) (shl .u64 x0 (wrap64 (x2 - x1)))) x2).bind fun t139 => (some (t139, 0))) else (none)) else (none)) else (some (0, 4))))
end
def bits_Rotate.f (k : Nat) (a0 : Int) (a1 : Int) (a2 : Int) : Option (Int × Int) := if a2 = 2 then (bits_Rotate.j0 k a0 a1 a2) else (if a2 = 4 then (bits_Rotate.j0 k a0 a1 a2) else (if a2 = 8 then (bits_Rotate.j0 k a0 a1 a2) else (if a2 = 16 then (bits_Rotate.j0 k a0 a1 a2) else (if a2 = 32 then (bits_Rotate.j0 k a0 a1 a2) else (if a2 = 64 then (bits_Rotate.j0 k a0 a1 a2) else (some (0, 1)))))))
theorem bits_Rotate.mono_l : ∀ k, (∀ y0 y1 y2, LeO (bits_Rotate.j0 k y0 y1 y2) (bits_Rotate.j0 (k + 1) y0 y1 y2)) ∧ (∀ y0 y1 y2 y3, LeO (bits_Rotate.j1 k y0 y1 y2 y3) (bits_Rotate.j1 (k + 1) y0 y1 y2 y3))
 | 0 => ⟨fun _ _ _ r h => by simp [bits_Rotate.j0] at h, fun _ _ _ _ r h => by simp [bits_Rotate.j1] at h⟩
 | k + 1 => by
  obtain ⟨ih0, ih1⟩ := bits_Rotate.mono_l k
  refine ⟨?_, ?_⟩
  ·intro y0 y1 y2
   unfold bits_Rotate.j0
   repeat' first
   | (with_reducible exact ih0 _ _ _)
   | (with_reducible exact ih1 _ _ _ _)
   | (with_reducible exact LeO.refl _)
   | (with_reducible exact LeO.none _)
   | (with_reducible refine LeO.ite ?_ ?_)
   | (with_reducible refine LeO.bind ?_ (fun _ => ?_))
  ·intro y0 y1 y2 y3
   unfold bits_Rotate.j1
   repeat' first
   | (with_reducible exact ih0 _ _ _)
   | (with_reducible exact ih1 _ _ _ _)
   | (with_reducible exact LeO.refl _)
   | (with_reducible exact LeO.none _)
   | (with_reducible refine LeO.ite ?_ ?_)
   | (with_reducible refine LeO.bind ?_ (fun _ => ?_))
theorem bits_Rotate.mono : ∀ a0 a1 a2 k, LeO (bits_Rotate.f k a0 a1 a2) (bits_Rotate.f (k + 1) a0 a1 a2) := by
 intro a0 a1 a2 k
 obtain ⟨ih0, ih1⟩ := bits_Rotate.mono_l k
 unfold bits_Rotate.f
 repeat' first
  | (with_reducible exact ih0 _ _ _)
  | (with_reducible exact ih1 _ _ _ _)
  | (with_reducible exact LeO.refl _)
  | (with_reducible exact LeO.none _)
  | (with_reducible refine LeO.ite ?_ ?_)
  | (with_reducible refine LeO.bind ?_ (fun _ => ?_))
set_option maxHeartbeats 8000000 in
set_option maxRecDepth 100000 in
theorem bits_Rotate.calls (k : Nat) (a0 : Int) (a1 : Int) (a2 : Int) (r1 : Int) (r2 : Int) (w : World) (h : bits_Rotate.f k a0 a1 a2 = some (r1, r2)) :
 Calls Tryz.prog 105 #[.int .u64 a0, .int .i64 a1, .int .i64 a2] w fun e w' => e = .returned (.tuple #[.int .u64 r1, .int .i64 r2]) ∧ Drawn0 w w' := by
 have H : (if a2 = 2 then (bits_Rotate.j0 k a0 a1 a2) else (if a2 = 4 then (bits_Rotate.j0 k a0 a1 a2) else (if a2 = 8 then (bits_Rotate.j0 k a0 a1 a2) else (if a2 = 16 then (bits_Rotate.j0 k a0 a1 a2) else (if a2 = 32 then (bits_Rotate.j0 k a0 a1 a2) else (if a2 = 64 then (bits_Rotate.j0 k a0 a1 a2) else (some (0, 1)))))))) = some (r1, r2) := h
 clear h
 have HC4 := Azz.mk H
 clear H
 go_enter Tryz.func105, Tryz.ntmps105
 go_upto_block 0 with (fail)
 repeat (go_quiet (fail); go_upto_block 0 with (fail))
 go_cut [] (fun wc => ∃ (kq : Nat), Azz (bits_Rotate.j0 kq a0 a1 a2 = some (r1, r2)) ∧ Azz (kq ≤ k) ∧ Drawn0 w wc)
 case first =>
  have H := HC4.out
  clear HC4
  by_cases c5 : a2 = 2
  ·rw [if_pos c5] at H
   have c5b0 := beq_iff_eq.mpr c5
   have c5b1 := bne_eq_false_iff_eq.mpr c5
   clear c5
   (first | rw [c5b0] | (simp only [i64_w, i32_w]; rw [c5b0]) | skip)
   have H' := Azz.mk H
   clear H
   go_wp2
   repeat (go_quiet (fail); try go_wp2)
   go_meet
   case rel => exact ⟨_, H', ⟨by first | omega | exact Nat.le_refl _⟩, by repeat (first | exact Drawn0.refl _ | apply Drawn0.step)⟩
  ·rw [if_neg c5] at H
   have c5b0 := beq_eq_false_iff_ne.mpr c5
   have c5b1 := bne_iff_ne.mpr c5
   (first | rw [c5b0] | (simp only [i64_w, i32_w]; rw [c5b0]) | skip)
   by_cases c6 : a2 = 4
   ·rw [if_pos c6] at H
    have c6b0 := beq_iff_eq.mpr c6
    have c6b1 := bne_eq_false_iff_eq.mpr c6
    clear c6
    have H' := Azz.mk H
    clear H
    go_wp2
    repeat (go_quiet (fail); try go_wp2)
    go_meet
    case rel => exact ⟨_, H', ⟨by first | omega | exact Nat.le_refl _⟩, by repeat (first | exact Drawn0.refl _ | apply Drawn0.step)⟩
   ·rw [if_neg c6] at H
    have c6b0 := beq_eq_false_iff_ne.mpr c6
    have c6b1 := bne_iff_ne.mpr c6
    by_cases c7 : a2 = 8
    ·rw [if_pos c7] at H
     have c7b0 := beq_iff_eq.mpr c7
     have c7b1 := bne_eq_false_iff_eq.mpr c7
     clear c7
     have H' := Azz.mk H
     clear H
     go_wp2
     repeat (go_quiet (fail); try go_wp2)
     go_meet
     case rel => exact ⟨_, H', ⟨by first | omega | exact Nat.le_refl _⟩, by repeat (first | exact Drawn0.refl _ | apply Drawn0.step)⟩
    ·rw [if_neg c7] at H
     have c7b0 := beq_eq_false_iff_ne.mpr c7
     have c7b1 := bne_iff_ne.mpr c7
     by_cases c8 : a2 = 16
     ·rw [if_pos c8] at H
      have c8b0 := beq_iff_eq.mpr c8
      have c8b1 := bne_eq_false_iff_eq.mpr c8
      clear c8
      have H' := Azz.mk H
      clear H
      go_wp2
      repeat (go_quiet (fail); try go_wp2)
      go_meet
      case rel => exact ⟨_, H', ⟨by first | omega | exact Nat.le_refl _⟩, by repeat (first | exact Drawn0.refl _ | apply Drawn0.step)⟩
     ·rw [if_neg c8] at H
      have c8b0 := beq_eq_false_iff_ne.mpr c8
      have c8b1 := bne_iff_ne.mpr c8
      by_cases c9 : a2 = 32
      ·rw [if_pos c9] at H
       have c9b0 := beq_iff_eq.mpr c9
       have c9b1 := bne_eq_false_iff_eq.mpr c9
       clear c9
       have H' := Azz.mk H
       clear H
       go_wp2
       repeat (go_quiet (fail); try go_wp2)
       go_meet
       case rel => exact ⟨_, H', ⟨by first | omega | exact Nat.le_refl _⟩, by repeat (first | exact Drawn0.refl _ | apply Drawn0.step)⟩
      ·rw [if_neg c9] at H
       have c9b0 := beq_eq_false_iff_ne.mpr c9
       have c9b1 := bne_iff_ne.mpr c9
       by_cases c10 : a2 = 64
       ·rw [if_pos c10] at H
        have c10b0 := beq_iff_eq.mpr c10
        have c10b1 := bne_eq_false_iff_eq.mpr c10
        clear c10
        have H' := Azz.mk H
        clear H
        go_wp2
        repeat (go_quiet (fail); try go_wp2)
        go_meet
        case rel => exact ⟨_, H', ⟨by first | omega | exact Nat.le_refl _⟩, by repeat (first | exact Drawn0.refl _ | apply Drawn0.step)⟩
       ·rw [if_neg c10] at H
        have c10b0 := beq_eq_false_iff_ne.mpr c10
        have c10b1 := bne_iff_ne.mpr c10
        simp only [Option.some.injEq, Prod.mk.injEq] at H
        obtain ⟨rfl, rfl⟩ := H
        go_wp2
        repeat (go_quiet (fail); try go_wp2)
        go_ret2
        exact ⟨by first | rfl | (simp; done) | (simp [*]; done), by repeat (first | exact Drawn0.refl _ | apply Drawn0.step)⟩
 case rest =>
  clear HC4
  try clear c1
  try clear p2
  try clear c5
  try clear c5b0
  try clear c5b1
  try clear c6
  try clear c6b0
  try clear c6b1
  try clear c7
  try clear c7b0
  try clear c7b1
  try clear c8
  try clear c8b0
  try clear c8b1
  try clear c9
  try clear c9b0
  try clear c9b1
  try clear c10
  try clear c10b0
  try clear c10b1
  obtain ⟨kq, HA, HJ3, ⟨mc3, rfl⟩⟩ := hcut
  cases kq with
  | zero => exact absurd HA.out (by simp [bits_Rotate.j0])
  | succ kj3 =>
   have H := HA.out
   clear HA
   simp only [bits_Rotate.j0] at H
   have HC11 := Azz.mk H
   clear H
   go_upto_region 9 with (fail)
   repeat (go_quiet (fail); go_upto_region 9 with (fail))
   go_cut [22] (fun v22 wc => ∃ (kq : Nat) (x22_10 : Bool), v22 = .bool x22_10 ∧ Azz (bits_Rotate.j1 kq a0 a1 a2 x22_10 = some (r1, r2)) ∧ Azz (kq ≤ kj3) ∧ Drawn0 w wc)
   case first =>
    have H := HC11.out
    clear HC11
    by_cases c12 : a1 < 0
    ·rw [if_pos c12] at H
     have c12b0 := decide_eq_true c12
     clear c12
     (first | rw [c12b0] | (simp only [i64_w, i32_w]; rw [c12b0]) | skip)
     have H' := Azz.mk H
     clear H
     go_wp2
     repeat (go_quiet (fail); try go_wp2)
     go_meet
     case rel => exact ⟨_, (true), (by first | rfl | (simp; done) | (simp [*]; done)), H', ⟨by have := HJ3.out; first | omega | exact Nat.le_refl _⟩, by repeat (first | exact Drawn0.refl _ | apply Drawn0.step)⟩
    ·rw [if_neg c12] at H
     have c12b0 := decide_eq_false c12
     clear c12
     (first | rw [c12b0] | (simp only [i64_w, i32_w]; rw [c12b0]) | skip)
     have H' := Azz.mk H
     clear H
     go_wp2
     repeat (go_quiet (fail); try go_wp2)
     go_meet
     case rel => exact ⟨_, (decide (a1 ≥ a2)), (by first | rfl | (simp; done) | (simp [*]; done)), H', ⟨by have := HJ3.out; first | omega | exact Nat.le_refl _⟩, by repeat (first | exact Drawn0.refl _ | apply Drawn0.step)⟩
   case rest =>
    clear HC11
    try clear c1
    try clear p2
    try clear c3
    try clear c5
    try clear c5b0
    try clear c5b1
    try clear c6
    try clear c6b0
    try clear c6b1
    try clear c7
    try clear c7b0
    try clear c7b1
    try clear c8
    try clear c8b0
    try clear c8b1
    try clear c9
    try clear c9b0
    try clear c9b1
    try clear c10
    try clear c10b0
    try clear c10b1
    try clear c12
    try clear c12b0
    try clear p2
    obtain ⟨kq, x22_10, rfl, HA, HJ10, ⟨mc10, rfl⟩⟩ := hcut
    cases kq with
    | zero => exact absurd HA.out (by simp [bits_Rotate.j1])
    | succ kj10 =>
     have H := HA.out
     clear HA
     simp only [bits_Rotate.j1] at H
     by_cases c13 : x22_10 = true
     ·subst c13
      rw [if_pos rfl] at H
      simp only [Option.some.injEq, Prod.mk.injEq] at H
      obtain ⟨rfl, rfl⟩ := H
      go_wp2
      repeat (go_quiet (fail); try go_wp2)
      go_ret2
      exact ⟨by first | rfl | (simp; done) | (simp [*]; done), by repeat (first | exact Drawn0.refl _ | apply Drawn0.step)⟩
     ·replace c13 := Bool.eq_false_iff.mpr c13
      subst c13
      rw [if_neg (show ¬ (false = true) by decide)] at H
      replace H := Option.bind_eq_some_iff.mp H
      obtain ⟨t138, A140, H⟩ := H
      (try dsimp only at H)
      have A14 := Azz.mk A140
      clear A140
      by_cases c15 : t138 = a0
      ·rw [if_pos c15] at H
       have c15b0 := beq_iff_eq.mpr c15
       have c15b1 := bne_eq_false_iff_eq.mpr c15
       clear c15
       by_cases c16 : 0 ≤ a1
       ·rw [if_pos c16] at H
        have c16b0 := eq_true c16
        have c16b1 := decide_eq_true c16
        clear c16
        obtain ⟨ji17, hji17⟩ : ∃ j_ : Int, (shr .u64 a0 a1) = j_ := ⟨_, rfl⟩
        replace H : (if 0 ≤ (wrap64 (a2 - a1)) then ((bits_Low.f (Go.bits .or .u64 (ji17) (shl .u64 a0 (wrap64 (a2 - a1)))) a2).bind fun t139 => (some (t139, 0))) else (none)) = some (r1, r2) := by first | (rw [hji17] at H; exact H) | (simp only [hji17] at H ⊢; exact H)
        (try rw [hji17] at A14)
        have hji17_ : (a0 / 2 ^ min a1.toNat 64) = ji17 := hji17
        have hji17z : a1 ≤ 64 → (a0 / 2 ^ a1.toNat) = ji17 := shr_small hji17
        obtain ⟨ji18, hji18⟩ : ∃ j_ : Int, (wrap64 (a2 - a1)) = j_ := ⟨_, rfl⟩
        replace H : (if 0 ≤ (ji18) then ((bits_Low.f (Go.bits .or .u64 (ji17) (shl .u64 a0 (ji18))) a2).bind fun t139 => (some (t139, 0))) else (none)) = some (r1, r2) := by first | (rw [hji18] at H; exact H) | (simp only [hji18] at H ⊢; exact H)
        (try rw [hji18] at A14)
        have hji18w : (IntKind.i64.wrap (a2 - a1)) = ji18 := (i64_w _).trans hji18
        by_cases c19 : 0 ≤ (ji18)
        ·rw [if_pos c19] at H
         have c19b0 := eq_true c19
         have c19b1 := decide_eq_true c19
         clear c19
         obtain ⟨ji20, hji20⟩ : ∃ j_ : Int, (shl .u64 a0 (ji18)) = j_ := ⟨_, rfl⟩
         replace H : ((bits_Low.f (Go.bits .or .u64 (ji17) (ji20)) a2).bind fun t139 => (some (t139, 0))) = some (r1, r2) := by first | (rw [hji20] at H; exact H) | (simp only [hji20] at H ⊢; exact H)
         (try rw [hji20] at A14)
         have hji20_ : (IntKind.u64.wrap (a0 * 2 ^ min (ji18).toNat 64)) = ji20 := hji20
         have hji20z : (ji18) ≤ 64 → (IntKind.u64.wrap (a0 * 2 ^ (ji18).toNat)) = ji20 := shl_small hji20
         replace H := Option.bind_eq_some_iff.mp H
         obtain ⟨t139, A210, H⟩ := H
         (try dsimp only at H)
         have A21 := Azz.mk A210
         clear A210
         simp only [Option.some.injEq, Prod.mk.injEq] at H
         obtain ⟨rfl, rfl⟩ := H
         go_wp2_with (first | (go_at_call 90; (with_reducible refine (bits_Low.calls a0 a2 t138 _ A14.out).mono ?_); rintro e w' ⟨rfl, ⟨nd, rfl⟩⟩; (try first | exact ⟨rfl, _, World.drewN_drewN _ _ _⟩ | exact ⟨rfl, _, Eq.trans (World.drewN_drewN _ _ _) (congrArg (World.drewN _) (Nat.add_assoc _ _ _))⟩)) | (go_at_call 90; (with_reducible refine (bits_Low.calls (Go.bits .or .u64 (ji17) (ji20)) a2 t139 _ A21.out).mono ?_); rintro e w' ⟨rfl, ⟨nd, rfl⟩⟩; (try first | exact ⟨rfl, _, World.drewN_drewN _ _ _⟩ | exact ⟨rfl, _, Eq.trans (World.drewN_drewN _ _ _) (congrArg (World.drewN _) (Nat.add_assoc _ _ _))⟩)))
         repeat (go_quiet (first | (go_at_call 90; (with_reducible refine (bits_Low.calls a0 a2 t138 _ A14.out).mono ?_); rintro e w' ⟨rfl, ⟨nd, rfl⟩⟩; (try first | exact ⟨rfl, _, World.drewN_drewN _ _ _⟩ | exact ⟨rfl, _, Eq.trans (World.drewN_drewN _ _ _) (congrArg (World.drewN _) (Nat.add_assoc _ _ _))⟩)) | (go_at_call 90; (with_reducible refine (bits_Low.calls (Go.bits .or .u64 (ji17) (ji20)) a2 t139 _ A21.out).mono ?_); rintro e w' ⟨rfl, ⟨nd, rfl⟩⟩; (try first | exact ⟨rfl, _, World.drewN_drewN _ _ _⟩ | exact ⟨rfl, _, Eq.trans (World.drewN_drewN _ _ _) (congrArg (World.drewN _) (Nat.add_assoc _ _ _))⟩))); try go_wp2_with (first | (go_at_call 90; (with_reducible refine (bits_Low.calls a0 a2 t138 _ A14.out).mono ?_); rintro e w' ⟨rfl, ⟨nd, rfl⟩⟩; (try first | exact ⟨rfl, _, World.drewN_drewN _ _ _⟩ | exact ⟨rfl, _, Eq.trans (World.drewN_drewN _ _ _) (congrArg (World.drewN _) (Nat.add_assoc _ _ _))⟩)) | (go_at_call 90; (with_reducible refine (bits_Low.calls (Go.bits .or .u64 (ji17) (ji20)) a2 t139 _ A21.out).mono ?_); rintro e w' ⟨rfl, ⟨nd, rfl⟩⟩; (try first | exact ⟨rfl, _, World.drewN_drewN _ _ _⟩ | exact ⟨rfl, _, Eq.trans (World.drewN_drewN _ _ _) (congrArg (World.drewN _) (Nat.add_assoc _ _ _))⟩))))
         go_ret2
         exact ⟨by first | rfl | (simp; done) | (simp only [← hji17, ← hji18, ← hji20] <;> (first | rfl | simp)) | (simp [*]; done), by repeat (first | exact Drawn0.refl _ | apply Drawn0.step)⟩
        ·rw [if_neg c19] at H
         exact absurd H (by simp)
       ·rw [if_neg c16] at H
        exact absurd H (by simp)
      ·rw [if_neg c15] at H
       have c15b0 := beq_eq_false_iff_ne.mpr c15
       have c15b1 := bne_iff_ne.mpr c15
       simp only [Option.some.injEq, Prod.mk.injEq] at H
       obtain ⟨rfl, rfl⟩ := H
       go_wp2_with (first | (go_at_call 90; (with_reducible refine (bits_Low.calls a0 a2 t138 _ A14.out).mono ?_); rintro e w' ⟨rfl, ⟨nd, rfl⟩⟩; (try first | exact ⟨rfl, _, World.drewN_drewN _ _ _⟩ | exact ⟨rfl, _, Eq.trans (World.drewN_drewN _ _ _) (congrArg (World.drewN _) (Nat.add_assoc _ _ _))⟩)))
       repeat (go_quiet (first | (go_at_call 90; (with_reducible refine (bits_Low.calls a0 a2 t138 _ A14.out).mono ?_); rintro e w' ⟨rfl, ⟨nd, rfl⟩⟩; (try first | exact ⟨rfl, _, World.drewN_drewN _ _ _⟩ | exact ⟨rfl, _, Eq.trans (World.drewN_drewN _ _ _) (congrArg (World.drewN _) (Nat.add_assoc _ _ _))⟩))); try go_wp2_with (first | (go_at_call 90; (with_reducible refine (bits_Low.calls a0 a2 t138 _ A14.out).mono ?_); rintro e w' ⟨rfl, ⟨nd, rfl⟩⟩; (try first | exact ⟨rfl, _, World.drewN_drewN _ _ _⟩ | exact ⟨rfl, _, Eq.trans (World.drewN_drewN _ _ _) (congrArg (World.drewN _) (Nat.add_assoc _ _ _))⟩))))
       go_ret2
       exact ⟨by first | rfl | (simp; done) | (simp [*]; done), by repeat (first | exact Drawn0.refl _ | apply Drawn0.step)⟩
def mask_extra.f (a0 : Int) : Option (Int) := if a0 = 64 then (some 0) else (some (wrap64 (64 - (wrap64 (2 * a0)))))
set_option maxHeartbeats 8000000 in
set_option maxRecDepth 100000 in
theorem mask_extra.calls (a0 : Int) (r : Int) (w : World) (h : mask_extra.f a0 = some r) :
 Calls Tryz.prog 75 #[.int .i64 a0] w fun e w' => e = .returned (.int .i64 r) ∧ Drawn0 w w' := by
 have H : (if a0 = 64 then (some 0) else (some (wrap64 (64 - (wrap64 (2 * a0)))))) = some r := h
 clear h
 by_cases c2 : a0 = 64
 ·rw [if_pos c2] at H
  have c2b0 := beq_iff_eq.mpr c2
  have c2b1 := bne_eq_false_iff_eq.mpr c2
  clear c2
  obtain rfl := Option.some.inj H
  go_enter Tryz.func75, Tryz.ntmps75
  go_wp2
  go_ret
  exact ⟨by first | rfl | (simp; done) | (simp [*]; done), by repeat (first | exact Drawn0.refl _ | apply Drawn0.step)⟩
 ·rw [if_neg c2] at H
  have c2b0 := beq_eq_false_iff_ne.mpr c2
  have c2b1 := bne_iff_ne.mpr c2
  obtain rfl := Option.some.inj H
  go_enter Tryz.func75, Tryz.ntmps75
  go_wp2
  go_ret
  exact ⟨by first | rfl | (simp; done) | (simp [*]; done), by repeat (first | exact Drawn0.refl _ | apply Drawn0.step)⟩
def mask_read.l0 : Nat → Int → Int → Int → Int → Option (Int × Int × Int)
 | 0, _, _, _, _ => none
 | k + 1, n, r, s, x => if x ≤ 64 then (if ((x == 64) == (n == 1)) = true then (if s + 1 - (if x = 64 then 0 else 64 - 2 * x) ≥ 1 then (if s + 1 - (if x = 64 then 0 else 64 - 2 * x) < x then (if r < x then some (x, r, s + 1 - (if x = 64 then 0 else 64 - 2 * x)) else mask_read.l0 k n r s (x * 2)) else mask_read.l0 k n r s (x * 2)) else mask_read.l0 k n r s (x * 2)) else mask_read.l0 k n r s (x * 2)) else some (0, 0, 0)
def mask_read.f (n : Int) (r : Int) (s : Int) : Option (Int × Int × Int) := if 0 ≤ s ∧ s ≤ 63 then mask_read.l0 7 n r s 2 else none
theorem mask_sizes1.calls (b : Nat) (x : Int) (w : World) (hc : w.cell? ⟨b, 0, none⟩ = some (.int .i64 x)) (hf : w.frozen? ⟨b, 0, none⟩ = false) (hx0 : 0 ≤ x) (hx1 : x ≤ 1000) :
 Calls Tryz.prog 115 #[.pointer (some ⟨b, 0, none⟩)] w fun e w' => e = .returned (.int .i64 (x * 2)) ∧ w' = w.setCell ⟨b, 0, none⟩ (.int .i64 (x * 2)) := by
 go_enter Tryz.func115, Tryz.ntmps115
 go_wp2
 go_ret
 exact ⟨rfl, rfl⟩
theorem mask_sizes.calls (w : World) :
 Calls Tryz.prog 104 #[] w fun e w' => e = .returned (.func (.func 115) #[] #[.pointer (some ⟨w.heap.size, 0, none⟩)]) ∧ w' = w.alloc (.cells #[.int .i64 1] 3) := by
 have hmf : ∀ (fn : Fn) (first cap : Array Value) (w : World), (Instr.makeFunc fn first cap).run Tryz.prog w = .ok (.func fn first cap) w := fun _ _ _ _ => rfl
 go_enter Tryz.func104, Tryz.ntmps104
 go_wp2
 go_ret
 exact ⟨rfl, rfl⟩
theorem mask_extra_some (x : Int) (h0 : 0 ≤ x) (h1 : x ≤ 1000) : mask_extra.f x = some (if x = 64 then 0 else 64 - 2 * x) := by
 unfold mask_extra.f
 by_cases h : x = 64
 ·rw [if_pos h, if_pos h]
 ·rw [if_neg h, if_neg h]
  congr 1
  unfold wrap64
  omega
theorem set_own (W : World) (T : TypeId) (v u : Value) (m : Nat) : ((W.alloc (.cells #[v] T)).drewN m).setCell ⟨W.heap.size, 0, none⟩ u = (W.alloc (.cells #[u] T)).drewN m := by
 have h : (W.alloc (.cells #[v] T)).setCell ⟨W.heap.size, 0, none⟩ u = W.alloc (.cells #[u] T) := by go_simp
 rw [← h]; rfl
set_option maxHeartbeats 1600000 in
set_option maxRecDepth 100000 in
theorem mask_read.calls (a0 : Int) (a1 : Int) (a2 : Int) (r1 : Int) (r2 : Int) (r3 : Int) (w : World) (h : mask_read.f a0 a1 a2 = some (r1, r2, r3)) :
 Calls Tryz.prog 106 #[.int .i64 a0, .int .i64 a1, .int .i64 a2] w fun e w' => e = .returned (.agg #[.int .i64 r1, .int .i64 r2, .int .i64 r3]) ∧ Below w.heap.size w w' := by
 unfold mask_read.f at h
 by_cases hs : 0 ≤ a2 ∧ a2 ≤ 63
 ·rw [if_pos hs] at h
  obtain ⟨hs0, hs1⟩ := hs
  have H' := Azz.mk h
  clear h
  go_enter Tryz.func106, Tryz.ntmps106
  go_wp2_with (first | (go_at_call 104; refine (mask_sizes.calls _).mono ?_; rintro e w' ⟨rfl, rfl⟩) | (go_at_call 115; refine (mask_sizes1.calls _ 1 _ (by go_simp) (by go_simp) (by omega) (by omega)).mono ?_; rintro e w' ⟨rfl, rfl⟩))
  go_loopg [8, 9] 7 (fun kq v8 v9 w' => ∃ (x : Int), v8 = .int .i64 x ∧ (2 ≤ x ∧ x ≤ 128) ∧ Azz (mask_read.l0 kq a0 a1 a2 x = some (r1, r2, r3)) ∧ ∃ m : Nat, w' = ((w.alloc (Obj.cells #[Value.int IntKind.i64 0, Value.int IntKind.i64 0, Value.int IntKind.i64 0] 118)).alloc (Obj.cells #[Value.int IntKind.i64 x] 3)).drewN m)
  case atStart => exact ⟨2, rfl, by omega, H', 0, rfl⟩
  case round =>
   clear H'
   obtain ⟨x, rfl, ⟨hx0, hx1⟩, HA, m, rfl⟩ := hrel
   cases gk with
   | zero => exact absurd HA.out (by simp [mask_read.l0])
   | succ k1 =>
    have H := HA.out
    clear HA
    simp only [mask_read.l0] at H
    by_cases c1 : x ≤ 64
    ·rw [if_pos c1] at H
     have b1 : decide (x ≤ 64) = true := decide_eq_true c1
     have hE := mask_extra_some x (by omega) (by omega)
     obtain ⟨t, ht⟩ : ∃ t, (if x = 64 then 0 else 64 - 2 * x) = t := ⟨_, rfl⟩
     rw [ht] at H hE
     have HE := Azz.mk hE
     have ht0 : -64 ≤ t := by rw [← ht]; split <;> omega
     have ht1 : t ≤ 64 := by rw [← ht]; split <;> omega
     clear ht hE
     have arm : ∀ W, Calls Tryz.prog 75 #[.int .i64 x] W fun e w' => e = .returned (.int .i64 t) ∧ Drawn0 W w' := fun W => mask_extra.calls x t W HE.out
     have ARM := Azz.mk arm
     clear arm
     by_cases c2 : ((x == 64) == (a0 == 1)) = true
     ·rw [if_pos c2] at H
      by_cases c3 : a2 + 1 - t ≥ 1
      ·rw [if_pos c3] at H
       have b3 : decide (1 ≤ a2 + 1 - t) = true := decide_eq_true c3
       by_cases c4 : a2 + 1 - t < x
       ·rw [if_pos c4] at H
        have b4 : decide (a2 + 1 - t < x) = true := decide_eq_true c4
        by_cases c5 : a1 < x
        ·rw [if_pos c5] at H
         have b5 : decide (a1 < x) = true := decide_eq_true c5
         simp only [Option.some.injEq, Prod.mk.injEq] at H
         obtain ⟨rfl, rfl, rfl⟩ := H
         go_wp2_with (first | (go_at_call 75; refine (ARM.out _).mono ?_; rintro e w' ⟨rfl, ⟨nd, rfl⟩⟩))
         refine bodyPost_ret (v := .agg #[.int .i64 x, .int .i64 a1, .int .i64 (a2 + 1 - t)]) (by simp [results, Tryz.results106, go_sem]) rfl ⟨rfl, ?_⟩
         repeat (first | exact Below.refl _ _ | apply bAA | apply bNN | apply bDD | (refine bSS ?_ (by simp)))
        ·rw [if_neg c5] at H
         have b5 : decide (a1 < x) = false := decide_eq_false c5
         have H' := Azz.mk H
         clear H
         go_wp2_with (first | (go_at_call 75; refine (ARM.out _).mono ?_; rintro e w' ⟨rfl, ⟨nd, rfl⟩⟩) | (go_at_call 115; refine (mask_sizes1.calls _ x _ (by go_simp) (by go_simp) (by omega) (by omega)).mono ?_; rintro e w' ⟨rfl, rfl⟩))
         go_roundg k1
         case measure => omega
         case rel => exact ⟨x * 2, rfl, by omega, H', _, by simpa using set_own (w.alloc (Obj.cells #[Value.int IntKind.i64 0, Value.int IntKind.i64 0, Value.int IntKind.i64 0] 118)) 3 (.int .i64 x) (.int .i64 (x * 2)) _⟩
       ·rw [if_neg c4] at H
        have b4 : decide (a2 + 1 - t < x) = false := decide_eq_false c4
        have H' := Azz.mk H
        clear H
        go_wp2_with (first | (go_at_call 75; refine (ARM.out _).mono ?_; rintro e w' ⟨rfl, ⟨nd, rfl⟩⟩) | (go_at_call 115; refine (mask_sizes1.calls _ x _ (by go_simp) (by go_simp) (by omega) (by omega)).mono ?_; rintro e w' ⟨rfl, rfl⟩))
        go_roundg k1
        case measure => omega
        case rel => exact ⟨x * 2, rfl, by omega, H', _, by simpa using set_own (w.alloc (Obj.cells #[Value.int IntKind.i64 0, Value.int IntKind.i64 0, Value.int IntKind.i64 0] 118)) 3 (.int .i64 x) (.int .i64 (x * 2)) _⟩
      ·rw [if_neg c3] at H
       have b3 : decide (1 ≤ a2 + 1 - t) = false := decide_eq_false c3
       have H' := Azz.mk H
       clear H
       go_wp2_with (first | (go_at_call 75; refine (ARM.out _).mono ?_; rintro e w' ⟨rfl, ⟨nd, rfl⟩⟩) | (go_at_call 115; refine (mask_sizes1.calls _ x _ (by go_simp) (by go_simp) (by omega) (by omega)).mono ?_; rintro e w' ⟨rfl, rfl⟩))
       go_roundg k1
       case measure => omega
       case rel => exact ⟨x * 2, rfl, by omega, H', _, by simpa using set_own (w.alloc (Obj.cells #[Value.int IntKind.i64 0, Value.int IntKind.i64 0, Value.int IntKind.i64 0] 118)) 3 (.int .i64 x) (.int .i64 (x * 2)) _⟩
     ·rw [if_neg c2] at H
      replace c2 := Bool.eq_false_iff.mpr c2
      have H' := Azz.mk H
      clear H
      go_wp2_with (first | (go_at_call 75; refine (ARM.out _).mono ?_; rintro e w' ⟨rfl, ⟨nd, rfl⟩⟩) | (go_at_call 115; refine (mask_sizes1.calls _ x _ (by go_simp) (by go_simp) (by omega) (by omega)).mono ?_; rintro e w' ⟨rfl, rfl⟩))
      go_roundg k1
      case measure => omega
      case rel => exact ⟨x * 2, rfl, by omega, H', _, by simpa using set_own (w.alloc (Obj.cells #[Value.int IntKind.i64 0, Value.int IntKind.i64 0, Value.int IntKind.i64 0] 118)) 3 (.int .i64 x) (.int .i64 (x * 2)) _⟩
    ·rw [if_neg c1] at H
     have b1 : decide (x ≤ 64) = false := decide_eq_false c1
     simp only [Option.some.injEq, Prod.mk.injEq] at H
     obtain ⟨rfl, rfl, rfl⟩ := H
     go_wp2
     refine bodyPost_ret (v := .agg #[.int .i64 0, .int .i64 0, .int .i64 0]) (by simp [results, Tryz.results106, go_sem]) rfl ⟨rfl, ?_⟩
     repeat (first | exact Below.refl _ _ | apply bAA | apply bNN | apply bDD | (refine bSS ?_ (by simp)))
 ·rw [if_neg hs] at h
  exact absurd h (by simp)
def mask_Size.l0 : Nat → Int → Int → Option Int
 | 0, _, _ => none
 | k + 1, v, x => if x < 64 then ((bits_Rotate.f 3 v x 64).bind fun t => (if t.1 = v then some x else mask_Size.l0 k v (x * 2))) else some x
def mask_Size.f (a0 : Int) : Option Int := mask_Size.l0 7 a0 2
set_option maxHeartbeats 1600000 in
set_option maxRecDepth 100000 in
theorem mask_Size.calls (a0 : Int) (r : Int) (w : World) (h : mask_Size.f a0 = some r) :
 Calls Tryz.prog 89 #[.int .u64 a0] w fun e w' => e = .returned (.int .i64 r) ∧ Below w.heap.size w w' := by
 unfold mask_Size.f at h
 have H' := Azz.mk h
 clear h
 go_enter Tryz.func89, Tryz.ntmps89
 go_wp2_with (first | (go_at_call 104; refine (mask_sizes.calls _).mono ?_; rintro e w' ⟨rfl, rfl⟩) | (go_at_call 115; refine (mask_sizes1.calls _ 1 _ (by go_simp) (by go_simp) (by omega) (by omega)).mono ?_; rintro e w' ⟨rfl, rfl⟩))
 go_loopg [4, 5, 6] 7 (fun kq v4 v5 v6 w' => ∃ (x : Int), v4 = .int .i64 x ∧ (2 ≤ x ∧ x ≤ 128) ∧ Azz (mask_Size.l0 kq a0 x = some r) ∧ ∃ m : Nat, w' = (w.alloc (Obj.cells #[Value.int IntKind.i64 x] 3)).drewN m)
 case atStart => exact ⟨2, rfl, by omega, H', 0, rfl⟩
 case round =>
  clear H'
  obtain ⟨x, rfl, ⟨hx0, hx1⟩, HA, m, rfl⟩ := hrel
  cases gk with
  | zero => exact absurd HA.out (by simp [mask_Size.l0])
  | succ k1 =>
   have H := HA.out
   clear HA
   simp only [mask_Size.l0] at H
   by_cases c1 : x < 64
   ·rw [if_pos c1] at H
    have b1 : decide (x < 64) = true := decide_eq_true c1
    obtain ⟨⟨t1, t2⟩, HE, H⟩ := Option.bind_eq_some_iff.mp H
    have arm : ∀ W, Calls Tryz.prog 105 #[.int .u64 a0, .int .i64 x, .int .i64 64] W fun e w' => e = .returned (.tuple #[.int .u64 t1, .int .i64 t2]) ∧ Drawn0 W w' := fun W => bits_Rotate.calls 3 a0 x 64 t1 t2 W HE
    have ARM := Azz.mk arm
    clear arm HE
    (try dsimp only at H)
    by_cases c2 : t1 = a0
    ·rw [if_pos c2] at H
     have b2 : (t1 == a0) = true := beq_iff_eq.mpr c2
     clear c2
     obtain rfl := Option.some.inj H
     go_wp2_with (first | (go_at_call 105; refine (ARM.out _).mono ?_; rintro e w' ⟨rfl, ⟨nd, rfl⟩⟩))
     go_ret
     refine ⟨rfl, ?_⟩
     repeat (first | exact Below.refl _ _ | apply bAA | apply bNN | apply bDD | (refine bSS ?_ (by simp)))
    ·rw [if_neg c2] at H
     have b2 : (t1 == a0) = false := beq_eq_false_iff_ne.mpr c2
     clear c2
     have H' := Azz.mk H
     clear H
     go_wp2_with (first | (go_at_call 105; refine (ARM.out _).mono ?_; rintro e w' ⟨rfl, ⟨nd, rfl⟩⟩) | (go_at_call 115; refine (mask_sizes1.calls _ x _ (by go_simp) (by go_simp) (by omega) (by omega)).mono ?_; rintro e w' ⟨rfl, rfl⟩))
     go_roundg k1
     case measure => omega
     case rel => exact ⟨x * 2, rfl, by omega, H', _, by simpa using set_own w 3 (.int .i64 x) (.int .i64 (x * 2)) _⟩
   ·rw [if_neg c1] at H
    have b1 : decide (x < 64) = false := decide_eq_false c1
    obtain rfl := Option.some.inj H
    go_wp2
    go_ret
    refine ⟨rfl, ?_⟩
    repeat (first | exact Below.refl _ _ | apply bAA | apply bNN | apply bDD | (refine bSS ?_ (by simp)))
def mask_Ones.l0 : Nat → Int → Int → Option (Int)
 | 0, _, _ => none
 | k + 1, x0, x3 => if x0 = 0 then (some x3) else (mask_Ones.l0 k (Go.bits .and .u64 x0 (IntKind.u64.wrap (x0 - 1))) (wrap64 (x3 + 1)))
def mask_Ones.f (k : Nat) (a0 : Int) : Option (Int) := mask_Ones.l0 k a0 0
theorem mask_Ones.mono_l : ∀ k, (∀ y0 y1, LeO (mask_Ones.l0 k y0 y1) (mask_Ones.l0 (k + 1) y0 y1))
 | 0 => fun _ _ r h => by simp [mask_Ones.l0] at h
 | k + 1 => by
  have ih0 := mask_Ones.mono_l k
  ·intro y0 y1
   unfold mask_Ones.l0
   repeat' first
   | (with_reducible exact ih0 _ _)
   | (with_reducible exact LeO.refl _)
   | (with_reducible exact LeO.none _)
   | (with_reducible refine LeO.ite ?_ ?_)
   | (with_reducible refine LeO.bind ?_ (fun _ => ?_))
theorem mask_Ones.mono : ∀ a0 k, LeO (mask_Ones.f k a0) (mask_Ones.f (k + 1) a0) := by
 intro a0 k
 have ih0 := mask_Ones.mono_l k
 unfold mask_Ones.f
 repeat' first
  | (with_reducible exact ih0 _ _)
  | (with_reducible exact LeO.refl _)
  | (with_reducible exact LeO.none _)
  | (with_reducible refine LeO.ite ?_ ?_)
  | (with_reducible refine LeO.bind ?_ (fun _ => ?_))
set_option maxHeartbeats 8000000 in
set_option maxRecDepth 100000 in
theorem mask_Ones.calls (k : Nat) (a0 : Int) (r : Int) (w : World) (h : mask_Ones.f k a0 = some r) :
 Calls Tryz.prog 91 #[.int .u64 a0] w fun e w' => e = .returned (.int .i64 r) ∧ Drawn0 w w' := by
 have H : (mask_Ones.l0 k a0 0) = some r := h
 clear h
 have H' := Azz.mk H
 clear H
 go_enter Tryz.func91, Tryz.ntmps91
 go_wp2
 go_loopg [0, 3] k (fun kq v0 v3 w' => ∃ (x0_1 : Int) (x3_1 : Int), v0 = .int .u64 x0_1 ∧ v3 = .int .i64 x3_1 ∧ Azz (mask_Ones.l0 kq x0_1 x3_1 = some r) ∧ Azz (kq ≤ k) ∧ Drawn0 w w')
 case atStart => exact ⟨(a0), (0), (by first | rfl | (simp; done) | (simp [*]; done)), (by first | rfl | (simp; done) | (simp [*]; done)), H', ⟨Nat.le_refl _⟩, by repeat (first | exact Drawn0.refl _ | apply Drawn0.step)⟩
 case round =>
  clear H'
  obtain ⟨x0_1, x3_1, rfl, rfl, HA, HK1, ⟨m1, rfl⟩⟩ := hrel
  cases gk with
  | zero => exact absurd HA.out (by simp [mask_Ones.l0])
  | succ k1 =>
   have H := HA.out
   clear HA
   simp only [mask_Ones.l0] at H
   by_cases c2 : x0_1 = 0
   ·rw [if_pos c2] at H
    have c2b0 := beq_iff_eq.mpr c2
    have c2b1 := bne_eq_false_iff_eq.mpr c2
    clear c2
    obtain rfl := Option.some.inj H
    go_wp2
    go_ret
    exact ⟨by first | rfl | (simp; done) | (simp [*]; done), by repeat (first | exact Drawn0.refl _ | apply Drawn0.step)⟩
   ·rw [if_neg c2] at H
    have c2b0 := beq_eq_false_iff_ne.mpr c2
    have c2b1 := bne_iff_ne.mpr c2
    have H' := Azz.mk H
    clear H
    go_wp2
    go_roundg k1
    case measure => have := HK1.out; omega
    case rel => exact ⟨(Go.bits .and .u64 x0_1 (IntKind.u64.wrap (x0_1 - 1))), (wrap64 (x3_1 + 1)), (by first | rfl | (simp; done) | (simp [*]; done)), (by first | rfl | (simp; done) | (simp [*]; done)), H', ⟨by have := HK1.out; omega⟩, by repeat (first | exact Drawn0.refl _ | apply Drawn0.step)⟩
def mask_part.f (k : Nat) (a0_0 : Int) (a0_1 : Int) (a0_2 : Int) : Option (Int) := (bits_Low.f 18446744073709551615 a0_2).bind fun t141 => ((bits_Rotate.f k t141 a0_1 a0_0).bind fun bt142 => (some bt142.1))
theorem mask_part.mono : ∀ a0 a1 a2 k, LeO (mask_part.f k a0 a1 a2) (mask_part.f (k + 1) a0 a1 a2) := by
 intro a0 a1 a2 k
 unfold mask_part.f
 repeat' first
  | (with_reducible exact bits_Rotate.mono _ _ _ _)
  | (with_reducible exact LeO.refl _)
  | (with_reducible exact LeO.none _)
  | (with_reducible refine LeO.ite ?_ ?_)
  | (with_reducible refine LeO.bind ?_ (fun _ => ?_))
set_option maxHeartbeats 8000000 in
set_option maxRecDepth 100000 in
theorem mask_part.calls (k : Nat) (a0_0 : Int) (a0_1 : Int) (a0_2 : Int) (r : Int) (w : World) (h : mask_part.f k a0_0 a0_1 a0_2 = some r) :
 Calls Tryz.prog 92 #[.agg #[.int .i64 a0_0, .int .i64 a0_1, .int .i64 a0_2]] w fun e w' => e = .returned (.int .u64 r) ∧ Below w.heap.size w w' := by
 have hu118 := Tryz.underlying118
 have HB := Azz.mk (Below.refl w.heap.size w)
 have H : ((bits_Low.f 18446744073709551615 a0_2).bind fun t141 => ((bits_Rotate.f k t141 a0_1 a0_0).bind fun bt142 => (some bt142.1))) = some r := h
 clear h
 replace H := Option.bind_eq_some_iff.mp H
 obtain ⟨t141, A20, H⟩ := H
 (try dsimp only at H)
 have A2 := Azz.mk A20
 clear A20
 replace H := Option.bind_eq_some_iff.mp H
 obtain ⟨⟨t142, t143⟩, A30, H⟩ := H
 (try dsimp only at H)
 have A3 := Azz.mk A30
 clear A30
 obtain rfl := Option.some.inj H
 go_enter Tryz.func92, Tryz.ntmps92
 go_wp2_with (first | ((with_reducible refine gate_dst (N := 1) rfl ?_); refine box_event ?hg (N := 1) ?hd (cs := #[.int .i64 a0_0, .int .i64 a0_1, .int .i64 a0_2]) (t := 118) ?hr ?_; (case hd => rfl); (case hg => rfl); (case hr => first | (go_simp; done) | (go_simp; rfl)); intro gb140 hg w4 hbox hb; have n0_ := Azz.mk (bTT (by with_reducible repeat first | exact HB.out | apply bAA | apply bNN | apply bDD) hb); have n1_ := Azz.mk (hbox); have n2_ := Azz.mk ((by rw [hg]; exact (bZZ (by with_reducible repeat first | exact HB.out | apply bAA | apply bNN | apply bDD)) : w.heap.size ≤ gb140)); have n3_ := Azz.mk ((by rw [hg]; exact (bZZ (by with_reducible repeat first | exact HB.out | apply bAA | apply bNN | apply bDD)) : w.heap.size ≤ gb140)); clear HB; have HB := n0_; have BK140 := n1_; have GW140 := n2_; have GE140 := n3_; clear n0_ n1_ n2_ n3_; clear hb hbox hg; obtain ⟨hcz5_0, hcz5_1, hcz5_2, hfz5_0, hfz5_1, hfz5_2⟩ := cel3 BK140.out) | (go_at_call 90; (with_reducible refine (bits_Low.calls 18446744073709551615 a0_2 t141 _ A2.out).mono ?_); rintro e w' ⟨rfl, ⟨nd, rfl⟩⟩; (try first | exact ⟨rfl, _, World.drewN_drewN _ _ _⟩ | exact ⟨rfl, _, Eq.trans (World.drewN_drewN _ _ _) (congrArg (World.drewN _) (Nat.add_assoc _ _ _))⟩)) | (go_at_call 105; (with_reducible refine (bits_Rotate.calls k t141 a0_1 a0_0 t142 t143 _ A3.out).mono ?_); rintro e w' ⟨rfl, ⟨nd, rfl⟩⟩; (try first | exact ⟨rfl, _, World.drewN_drewN _ _ _⟩ | exact ⟨rfl, _, Eq.trans (World.drewN_drewN _ _ _) (congrArg (World.drewN _) (Nat.add_assoc _ _ _))⟩)))
 repeat (go_quiet (first | ((with_reducible refine gate_dst (N := 1) rfl ?_); refine box_event ?hg (N := 1) ?hd (cs := #[.int .i64 a0_0, .int .i64 a0_1, .int .i64 a0_2]) (t := 118) ?hr ?_; (case hd => rfl); (case hg => rfl); (case hr => first | (go_simp; done) | (go_simp; rfl)); intro gb140 hg w4 hbox hb; have n0_ := Azz.mk (bTT (by with_reducible repeat first | exact HB.out | apply bAA | apply bNN | apply bDD) hb); have n1_ := Azz.mk (hbox); have n2_ := Azz.mk ((by rw [hg]; exact (bZZ (by with_reducible repeat first | exact HB.out | apply bAA | apply bNN | apply bDD)) : w.heap.size ≤ gb140)); have n3_ := Azz.mk ((by rw [hg]; exact (bZZ (by with_reducible repeat first | exact HB.out | apply bAA | apply bNN | apply bDD)) : w.heap.size ≤ gb140)); clear HB; have HB := n0_; have BK140 := n1_; have GW140 := n2_; have GE140 := n3_; clear n0_ n1_ n2_ n3_; clear hb hbox hg; obtain ⟨hcz5_0, hcz5_1, hcz5_2, hfz5_0, hfz5_1, hfz5_2⟩ := cel3 BK140.out) | (go_at_call 90; (with_reducible refine (bits_Low.calls 18446744073709551615 a0_2 t141 _ A2.out).mono ?_); rintro e w' ⟨rfl, ⟨nd, rfl⟩⟩; (try first | exact ⟨rfl, _, World.drewN_drewN _ _ _⟩ | exact ⟨rfl, _, Eq.trans (World.drewN_drewN _ _ _) (congrArg (World.drewN _) (Nat.add_assoc _ _ _))⟩)) | (go_at_call 105; (with_reducible refine (bits_Rotate.calls k t141 a0_1 a0_0 t142 t143 _ A3.out).mono ?_); rintro e w' ⟨rfl, ⟨nd, rfl⟩⟩; (try first | exact ⟨rfl, _, World.drewN_drewN _ _ _⟩ | exact ⟨rfl, _, Eq.trans (World.drewN_drewN _ _ _) (congrArg (World.drewN _) (Nat.add_assoc _ _ _))⟩))); try go_wp2_with (first | ((with_reducible refine gate_dst (N := 1) rfl ?_); refine box_event ?hg (N := 1) ?hd (cs := #[.int .i64 a0_0, .int .i64 a0_1, .int .i64 a0_2]) (t := 118) ?hr ?_; (case hd => rfl); (case hg => rfl); (case hr => first | (go_simp; done) | (go_simp; rfl)); intro gb140 hg w4 hbox hb; have n0_ := Azz.mk (bTT (by with_reducible repeat first | exact HB.out | apply bAA | apply bNN | apply bDD) hb); have n1_ := Azz.mk (hbox); have n2_ := Azz.mk ((by rw [hg]; exact (bZZ (by with_reducible repeat first | exact HB.out | apply bAA | apply bNN | apply bDD)) : w.heap.size ≤ gb140)); have n3_ := Azz.mk ((by rw [hg]; exact (bZZ (by with_reducible repeat first | exact HB.out | apply bAA | apply bNN | apply bDD)) : w.heap.size ≤ gb140)); clear HB; have HB := n0_; have BK140 := n1_; have GW140 := n2_; have GE140 := n3_; clear n0_ n1_ n2_ n3_; clear hb hbox hg; obtain ⟨hcz5_0, hcz5_1, hcz5_2, hfz5_0, hfz5_1, hfz5_2⟩ := cel3 BK140.out) | (go_at_call 90; (with_reducible refine (bits_Low.calls 18446744073709551615 a0_2 t141 _ A2.out).mono ?_); rintro e w' ⟨rfl, ⟨nd, rfl⟩⟩; (try first | exact ⟨rfl, _, World.drewN_drewN _ _ _⟩ | exact ⟨rfl, _, Eq.trans (World.drewN_drewN _ _ _) (congrArg (World.drewN _) (Nat.add_assoc _ _ _))⟩)) | (go_at_call 105; (with_reducible refine (bits_Rotate.calls k t141 a0_1 a0_0 t142 t143 _ A3.out).mono ?_); rintro e w' ⟨rfl, ⟨nd, rfl⟩⟩; (try first | exact ⟨rfl, _, World.drewN_drewN _ _ _⟩ | exact ⟨rfl, _, Eq.trans (World.drewN_drewN _ _ _) (congrArg (World.drewN _) (Nat.add_assoc _ _ _))⟩))))
 go_ret
 exact ⟨by first | rfl | (simp [eNN, eSS] <;> rfl) | (simp [*, eNN, eSS] <;> rfl), by repeat (first | (with_reducible first | exact HB.out | apply bAA | apply bNN | apply bDD | refine bSS ?_ GE140.out) | exact HB.out)⟩
end Go.Proofs.YtpcdebakiccecaaGreatDoor.P
