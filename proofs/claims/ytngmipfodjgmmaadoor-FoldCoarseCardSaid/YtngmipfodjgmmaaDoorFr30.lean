/- Walks and plain laws of this claim, a part. -/
import Derived.Test.YtngmipfodjgmmaaDoorFr29
namespace Go.Proofs.YtngmipfodjgmmaaDoor.P
open Go.RowKit Go.Proofs.YtngmipfodjgmmaaDoorW.PrintWords Go.Proofs.YtngmipfodjgmmaaDoorW.PrintLast Go.Proofs.YtngmipfodjgmmaaDoorW.PrintMore
attribute [local go_sem] max2_int min2_int max_two min_two max_three min_three max_four min_four   -- for this text's walks alone
set_option linter.unusedVariables false
set_option linter.unusedSimpArgs false
attribute [local go_sem high] eqA168
mutual
def bits_Rotate.j0 : Nat → Int → Int → Int → Option (Int × Int)
 | 0, _, _, _ => none
 | k + 1, x0, x1, x2 => if x1 < 0 then (bits_Rotate.j1 k x0 x1 x2 true) else (bits_Rotate.j1 k x0 x1 x2 (decide (x1 ≥ x2)))
def bits_Rotate.j1 : Nat → Int → Int → Int → Bool → Option (Int × Int)
 | 0, _, _, _, _ => none
 | k + 1, x0, x1, x2, x22 => if x22 = true then (some (0, 1)) else ((bits_Low.f x0 x2).bind fun t131 => (if t131 = x0 then (if 0 ≤ x1 then (if 0 ≤ (wrap64 (x2 - x1)) then ((bits_Low.f (Go.bits .or .u64 (shr .u64 x0 x1) (shl .u64 x0 (wrap64 (x2 - x1)))) x2).bind fun t132 => (some (t132, 0))) else (none)) else (none)) else (some (0, 4))))
end
def bits_Rotate.f (k : Nat) (a0 : Int) (a1 : Int) (a2 : Int) : Option (Int × Int) := if a2 = 2 then (bits_Rotate.j0 k a0 a1 a2) else (if a2 = 4 then (bits_Rotate.j0 k a0 a1 a2) else (if a2 = 8 then (bits_Rotate.j0 k a0 a1 a2) else (if a2 = 16 then (bits_Rotate.j0 k a0 a1 a2) else (if a2 = 32 then (bits_Rotate.j0 k a0 a1 a2) else (if a2 = 64 then (bits_Rotate.j0 k a0 a1 a2) else (some (0, 1)))))))
theorem bits_Rotate.mono_l : ∀ k, (∀ y0 y1 y2, LeO (bits_Rotate.j0 k y0 y1 y2) (bits_Rotate.j0 (k + 1) y0 y1 y2)) ∧ (∀ y0 y1 y2 y3, LeO (bits_Rotate.j1 k y0 y1 y2 y3) (bits_Rotate.j1 (k + 1) y0 y1 y2 y3))
 | 0 => ⟨fun _ _ _ r h => by simp [bits_Rotate.j0] at h, fun _ _ _ _ r h => by simp [bits_Rotate.j1] at h⟩
 | k + 1 => by
  obtain ⟨ih0, ih1⟩ := bits_Rotate.mono_l k
  refine ⟨?_, ?_⟩
  ·intro y0 y1 y2
   unfold bits_Rotate.j0
   repeat' first
   | (with_reducible exact ih0 _ _ _)
   | (with_reducible exact ih1 _ _ _ _)
   | (with_reducible exact LeO.refl _)
   | (with_reducible exact LeO.none _)
   | (with_reducible refine LeO.ite ?_ ?_)
   | (with_reducible refine LeO.bind ?_ (fun _ => ?_))
  ·intro y0 y1 y2 y3
   unfold bits_Rotate.j1
   repeat' first
   | (with_reducible exact ih0 _ _ _)
   | (with_reducible exact ih1 _ _ _ _)
   | (with_reducible exact LeO.refl _)
   | (with_reducible exact LeO.none _)
   | (with_reducible refine LeO.ite ?_ ?_)
   | (with_reducible refine LeO.bind ?_ (fun _ => ?_))
theorem bits_Rotate.mono : ∀ a0 a1 a2 k, LeO (bits_Rotate.f k a0 a1 a2) (bits_Rotate.f (k + 1) a0 a1 a2) := by
 intro a0 a1 a2 k
 obtain ⟨ih0, ih1⟩ := bits_Rotate.mono_l k
 unfold bits_Rotate.f
 repeat' first
  | (with_reducible exact ih0 _ _ _)
  | (with_reducible exact ih1 _ _ _ _)
  | (with_reducible exact LeO.refl _)
  | (with_reducible exact LeO.none _)
  | (with_reducible refine LeO.ite ?_ ?_)
  | (with_reducible refine LeO.bind ?_ (fun _ => ?_))
set_option maxHeartbeats 8000000 in
set_option maxRecDepth 100000 in
theorem bits_Rotate.calls (k : Nat) (a0 : Int) (a1 : Int) (a2 : Int) (r1 : Int) (r2 : Int) (w : World) (h : bits_Rotate.f k a0 a1 a2 = some (r1, r2)) :
 Calls Tryd.prog 120 #[.int .u64 a0, .int .i64 a1, .int .i64 a2] w fun e w' => e = .returned (.tuple #[.int .u64 r1, .int .i64 r2]) ∧ Drawn0 w w' := by
 have H : (if a2 = 2 then (bits_Rotate.j0 k a0 a1 a2) else (if a2 = 4 then (bits_Rotate.j0 k a0 a1 a2) else (if a2 = 8 then (bits_Rotate.j0 k a0 a1 a2) else (if a2 = 16 then (bits_Rotate.j0 k a0 a1 a2) else (if a2 = 32 then (bits_Rotate.j0 k a0 a1 a2) else (if a2 = 64 then (bits_Rotate.j0 k a0 a1 a2) else (some (0, 1)))))))) = some (r1, r2) := h
 clear h
 have HC4 := Azz.mk H
 clear H
 go_enter Tryd.func120, Tryd.ntmps120
 go_upto_block 0 with (fail)
 repeat (go_quiet (fail); go_upto_block 0 with (fail))
 go_cut [] (fun wc => ∃ (kq : Nat), Azz (bits_Rotate.j0 kq a0 a1 a2 = some (r1, r2)) ∧ Azz (kq ≤ k) ∧ Drawn0 w wc)
 case first =>
  have H := HC4.out
  clear HC4
  by_cases c5 : a2 = 2
  ·rw [if_pos c5] at H
   have c5b0 := beq_iff_eq.mpr c5
   have c5b1 := bne_eq_false_iff_eq.mpr c5
   clear c5
   (first | rw [c5b0] | (simp only [i64_w, i32_w]; rw [c5b0]) | skip)
   have H' := Azz.mk H
   clear H
   go_wp2
   repeat (go_quiet (fail); try go_wp2)
   go_meet
   case rel => exact ⟨_, H', ⟨by first | omega | exact Nat.le_refl _⟩, by repeat (first | exact Drawn0.refl _ | apply Drawn0.step)⟩
  ·rw [if_neg c5] at H
   have c5b0 := beq_eq_false_iff_ne.mpr c5
   have c5b1 := bne_iff_ne.mpr c5
   (first | rw [c5b0] | (simp only [i64_w, i32_w]; rw [c5b0]) | skip)
   by_cases c6 : a2 = 4
   ·rw [if_pos c6] at H
    have c6b0 := beq_iff_eq.mpr c6
    have c6b1 := bne_eq_false_iff_eq.mpr c6
    clear c6
    have H' := Azz.mk H
    clear H
    go_wp2
    repeat (go_quiet (fail); try go_wp2)
    go_meet
    case rel => exact ⟨_, H', ⟨by first | omega | exact Nat.le_refl _⟩, by repeat (first | exact Drawn0.refl _ | apply Drawn0.step)⟩
   ·rw [if_neg c6] at H
    have c6b0 := beq_eq_false_iff_ne.mpr c6
    have c6b1 := bne_iff_ne.mpr c6
    by_cases c7 : a2 = 8
    ·rw [if_pos c7] at H
     have c7b0 := beq_iff_eq.mpr c7
     have c7b1 := bne_eq_false_iff_eq.mpr c7
     clear c7
     have H' := Azz.mk H
     clear H
     go_wp2
     repeat (go_quiet (fail); try go_wp2)
     go_meet
     case rel => exact ⟨_, H', ⟨by first | omega | exact Nat.le_refl _⟩, by repeat (first | exact Drawn0.refl _ | apply Drawn0.step)⟩
    ·rw [if_neg c7] at H
     have c7b0 := beq_eq_false_iff_ne.mpr c7
     have c7b1 := bne_iff_ne.mpr c7
     by_cases c8 : a2 = 16
     ·rw [if_pos c8] at H
      have c8b0 := beq_iff_eq.mpr c8
      have c8b1 := bne_eq_false_iff_eq.mpr c8
      clear c8
      have H' := Azz.mk H
      clear H
      go_wp2
      repeat (go_quiet (fail); try go_wp2)
      go_meet
      case rel => exact ⟨_, H', ⟨by first | omega | exact Nat.le_refl _⟩, by repeat (first | exact Drawn0.refl _ | apply Drawn0.step)⟩
     ·rw [if_neg c8] at H
      have c8b0 := beq_eq_false_iff_ne.mpr c8
      have c8b1 := bne_iff_ne.mpr c8
      by_cases c9 : a2 = 32
      ·rw [if_pos c9] at H
       have c9b0 := beq_iff_eq.mpr c9
       have c9b1 := bne_eq_false_iff_eq.mpr c9
       clear c9
       have H' := Azz.mk H
       clear H
       go_wp2
       repeat (go_quiet (fail); try go_wp2)
       go_meet
       case rel => exact ⟨_, H', ⟨by first | omega | exact Nat.le_refl _⟩, by repeat (first | exact Drawn0.refl _ | apply Drawn0.step)⟩
      ·rw [if_neg c9] at H
       have c9b0 := beq_eq_false_iff_ne.mpr c9
       have c9b1 := bne_iff_ne.mpr c9
       by_cases c10 : a2 = 64
       ·rw [if_pos c10] at H
        have c10b0 := beq_iff_eq.mpr c10
        have c10b1 := bne_eq_false_iff_eq.mpr c10
        clear c10
        have H' := Azz.mk H
        clear H
        go_wp2
        repeat (go_quiet (fail); try go_wp2)
        go_meet
        case rel => exact ⟨_, H', ⟨by first | omega | exact Nat.le_refl _⟩, by repeat (first | exact Drawn0.refl _ | apply Drawn0.step)⟩
       ·rw [if_neg c10] at H
        have c10b0 := beq_eq_false_iff_ne.mpr c10
        have c10b1 := bne_iff_ne.mpr c10
        simp only [Option.some.injEq, Prod.mk.injEq] at H
        obtain ⟨rfl, rfl⟩ := H
        go_wp2
        repeat (go_quiet (fail); try go_wp2)
        go_ret2
        exact ⟨by first | rfl | (simp; done) | (simp [*]; done), by repeat (first | exact Drawn0.refl _ | apply Drawn0.step)⟩
 case rest =>
  clear HC4
  try clear c1
  try clear p2
  try clear c5
  try clear c5b0
  try clear c5b1
  try clear c6
  try clear c6b0
  try clear c6b1
  try clear c7
  try clear c7b0
  try clear c7b1
  try clear c8
  try clear c8b0
  try clear c8b1
  try clear c9
  try clear c9b0
  try clear c9b1
  try clear c10
  try clear c10b0
  try clear c10b1
  obtain ⟨kq, HA, HJ3, ⟨mc3, rfl⟩⟩ := hcut
  cases kq with
  | zero => exact absurd HA.out (by simp [bits_Rotate.j0])
  | succ kj3 =>
   have H := HA.out
   clear HA
   simp only [bits_Rotate.j0] at H
   have HC11 := Azz.mk H
   clear H
   go_upto_region 9 with (fail)
   repeat (go_quiet (fail); go_upto_region 9 with (fail))
   go_cut [22] (fun v22 wc => ∃ (kq : Nat) (x22_10 : Bool), v22 = .bool x22_10 ∧ Azz (bits_Rotate.j1 kq a0 a1 a2 x22_10 = some (r1, r2)) ∧ Azz (kq ≤ kj3) ∧ Drawn0 w wc)
   case first =>
    have H := HC11.out
    clear HC11
    by_cases c12 : a1 < 0
    ·rw [if_pos c12] at H
     have c12b0 := decide_eq_true c12
     clear c12
     (first | rw [c12b0] | (simp only [i64_w, i32_w]; rw [c12b0]) | skip)
     have H' := Azz.mk H
     clear H
     go_wp2
     repeat (go_quiet (fail); try go_wp2)
     go_meet
     case rel => exact ⟨_, (true), (by first | rfl | (simp; done) | (simp [*]; done)), H', ⟨by have := HJ3.out; first | omega | exact Nat.le_refl _⟩, by repeat (first | exact Drawn0.refl _ | apply Drawn0.step)⟩
    ·rw [if_neg c12] at H
     have c12b0 := decide_eq_false c12
     clear c12
     (first | rw [c12b0] | (simp only [i64_w, i32_w]; rw [c12b0]) | skip)
     have H' := Azz.mk H
     clear H
     go_wp2
     repeat (go_quiet (fail); try go_wp2)
     go_meet
     case rel => exact ⟨_, (decide (a1 ≥ a2)), (by first | rfl | (simp; done) | (simp [*]; done)), H', ⟨by have := HJ3.out; first | omega | exact Nat.le_refl _⟩, by repeat (first | exact Drawn0.refl _ | apply Drawn0.step)⟩
   case rest =>
    clear HC11
    try clear c1
    try clear p2
    try clear c3
    try clear c5
    try clear c5b0
    try clear c5b1
    try clear c6
    try clear c6b0
    try clear c6b1
    try clear c7
    try clear c7b0
    try clear c7b1
    try clear c8
    try clear c8b0
    try clear c8b1
    try clear c9
    try clear c9b0
    try clear c9b1
    try clear c10
    try clear c10b0
    try clear c10b1
    try clear c12
    try clear c12b0
    try clear p2
    obtain ⟨kq, x22_10, rfl, HA, HJ10, ⟨mc10, rfl⟩⟩ := hcut
    cases kq with
    | zero => exact absurd HA.out (by simp [bits_Rotate.j1])
    | succ kj10 =>
     have H := HA.out
     clear HA
     simp only [bits_Rotate.j1] at H
     by_cases c13 : x22_10 = true
     ·subst c13
      rw [if_pos rfl] at H
      simp only [Option.some.injEq, Prod.mk.injEq] at H
      obtain ⟨rfl, rfl⟩ := H
      go_wp2
      repeat (go_quiet (fail); try go_wp2)
      go_ret2
      exact ⟨by first | rfl | (simp; done) | (simp [*]; done), by repeat (first | exact Drawn0.refl _ | apply Drawn0.step)⟩
     ·replace c13 := Bool.eq_false_iff.mpr c13
      subst c13
      rw [if_neg (show ¬ (false = true) by decide)] at H
      replace H := Option.bind_eq_some_iff.mp H
      obtain ⟨t131, A140, H⟩ := H
      (try dsimp only at H)
      have A14 := Azz.mk A140
      clear A140
      by_cases c15 : t131 = a0
      ·rw [if_pos c15] at H
       have c15b0 := beq_iff_eq.mpr c15
       have c15b1 := bne_eq_false_iff_eq.mpr c15
       clear c15
       by_cases c16 : 0 ≤ a1
       ·rw [if_pos c16] at H
        have c16b0 := eq_true c16
        have c16b1 := decide_eq_true c16
        clear c16
        obtain ⟨ji17, hji17⟩ : ∃ j_ : Int, (shr .u64 a0 a1) = j_ := ⟨_, rfl⟩
        replace H : (if 0 ≤ (wrap64 (a2 - a1)) then ((bits_Low.f (Go.bits .or .u64 (ji17) (shl .u64 a0 (wrap64 (a2 - a1)))) a2).bind fun t132 => (some (t132, 0))) else (none)) = some (r1, r2) := by first | (rw [hji17] at H; exact H) | (simp only [hji17] at H ⊢; exact H)
        (try rw [hji17] at A14)
        have hji17_ : (a0 / 2 ^ min a1.toNat 64) = ji17 := hji17
        have hji17z : a1 ≤ 64 → (a0 / 2 ^ a1.toNat) = ji17 := shr_small hji17
        obtain ⟨ji18, hji18⟩ : ∃ j_ : Int, (wrap64 (a2 - a1)) = j_ := ⟨_, rfl⟩
        replace H : (if 0 ≤ (ji18) then ((bits_Low.f (Go.bits .or .u64 (ji17) (shl .u64 a0 (ji18))) a2).bind fun t132 => (some (t132, 0))) else (none)) = some (r1, r2) := by first | (rw [hji18] at H; exact H) | (simp only [hji18] at H ⊢; exact H)
        (try rw [hji18] at A14)
        have hji18w : (IntKind.i64.wrap (a2 - a1)) = ji18 := (i64_w _).trans hji18
        by_cases c19 : 0 ≤ (ji18)
        ·rw [if_pos c19] at H
         have c19b0 := eq_true c19
         have c19b1 := decide_eq_true c19
         clear c19
         obtain ⟨ji20, hji20⟩ : ∃ j_ : Int, (shl .u64 a0 (ji18)) = j_ := ⟨_, rfl⟩
         replace H : ((bits_Low.f (Go.bits .or .u64 (ji17) (ji20)) a2).bind fun t132 => (some (t132, 0))) = some (r1, r2) := by first | (rw [hji20] at H; exact H) | (simp only [hji20] at H ⊢; exact H)
         (try rw [hji20] at A14)
         have hji20_ : (IntKind.u64.wrap (a0 * 2 ^ min (ji18).toNat 64)) = ji20 := hji20
         have hji20z : (ji18) ≤ 64 → (IntKind.u64.wrap (a0 * 2 ^ (ji18).toNat)) = ji20 := shl_small hji20
         replace H := Option.bind_eq_some_iff.mp H
         obtain ⟨t132, A210, H⟩ := H
         (try dsimp only at H)
         have A21 := Azz.mk A210
         clear A210
         simp only [Option.some.injEq, Prod.mk.injEq] at H
         obtain ⟨rfl, rfl⟩ := H
         go_wp2_with (first | (go_at_call 114; (with_reducible refine (bits_Low.calls a0 a2 t131 _ A14.out).mono ?_); rintro e w' ⟨rfl, ⟨nd, rfl⟩⟩; (try first | exact ⟨rfl, _, World.drewN_drewN _ _ _⟩ | exact ⟨rfl, _, Eq.trans (World.drewN_drewN _ _ _) (congrArg (World.drewN _) (Nat.add_assoc _ _ _))⟩)) | (go_at_call 114; (with_reducible refine (bits_Low.calls (Go.bits .or .u64 (ji17) (ji20)) a2 t132 _ A21.out).mono ?_); rintro e w' ⟨rfl, ⟨nd, rfl⟩⟩; (try first | exact ⟨rfl, _, World.drewN_drewN _ _ _⟩ | exact ⟨rfl, _, Eq.trans (World.drewN_drewN _ _ _) (congrArg (World.drewN _) (Nat.add_assoc _ _ _))⟩)))
         repeat (go_quiet (first | (go_at_call 114; (with_reducible refine (bits_Low.calls a0 a2 t131 _ A14.out).mono ?_); rintro e w' ⟨rfl, ⟨nd, rfl⟩⟩; (try first | exact ⟨rfl, _, World.drewN_drewN _ _ _⟩ | exact ⟨rfl, _, Eq.trans (World.drewN_drewN _ _ _) (congrArg (World.drewN _) (Nat.add_assoc _ _ _))⟩)) | (go_at_call 114; (with_reducible refine (bits_Low.calls (Go.bits .or .u64 (ji17) (ji20)) a2 t132 _ A21.out).mono ?_); rintro e w' ⟨rfl, ⟨nd, rfl⟩⟩; (try first | exact ⟨rfl, _, World.drewN_drewN _ _ _⟩ | exact ⟨rfl, _, Eq.trans (World.drewN_drewN _ _ _) (congrArg (World.drewN _) (Nat.add_assoc _ _ _))⟩))); try go_wp2_with (first | (go_at_call 114; (with_reducible refine (bits_Low.calls a0 a2 t131 _ A14.out).mono ?_); rintro e w' ⟨rfl, ⟨nd, rfl⟩⟩; (try first | exact ⟨rfl, _, World.drewN_drewN _ _ _⟩ | exact ⟨rfl, _, Eq.trans (World.drewN_drewN _ _ _) (congrArg (World.drewN _) (Nat.add_assoc _ _ _))⟩)) | (go_at_call 114; (with_reducible refine (bits_Low.calls (Go.bits .or .u64 (ji17) (ji20)) a2 t132 _ A21.out).mono ?_); rintro e w' ⟨rfl, ⟨nd, rfl⟩⟩; (try first | exact ⟨rfl, _, World.drewN_drewN _ _ _⟩ | exact ⟨rfl, _, Eq.trans (World.drewN_drewN _ _ _) (congrArg (World.drewN _) (Nat.add_assoc _ _ _))⟩))))
         go_ret2
         exact ⟨by first | rfl | (simp; done) | (simp only [← hji17, ← hji18, ← hji20] <;> (first | rfl | simp)) | (simp [*]; done), by repeat (first | exact Drawn0.refl _ | apply Drawn0.step)⟩
        ·rw [if_neg c19] at H
         exact absurd H (by simp)
       ·rw [if_neg c16] at H
        exact absurd H (by simp)
      ·rw [if_neg c15] at H
       have c15b0 := beq_eq_false_iff_ne.mpr c15
       have c15b1 := bne_iff_ne.mpr c15
       simp only [Option.some.injEq, Prod.mk.injEq] at H
       obtain ⟨rfl, rfl⟩ := H
       go_wp2_with (first | (go_at_call 114; (with_reducible refine (bits_Low.calls a0 a2 t131 _ A14.out).mono ?_); rintro e w' ⟨rfl, ⟨nd, rfl⟩⟩; (try first | exact ⟨rfl, _, World.drewN_drewN _ _ _⟩ | exact ⟨rfl, _, Eq.trans (World.drewN_drewN _ _ _) (congrArg (World.drewN _) (Nat.add_assoc _ _ _))⟩)))
       repeat (go_quiet (first | (go_at_call 114; (with_reducible refine (bits_Low.calls a0 a2 t131 _ A14.out).mono ?_); rintro e w' ⟨rfl, ⟨nd, rfl⟩⟩; (try first | exact ⟨rfl, _, World.drewN_drewN _ _ _⟩ | exact ⟨rfl, _, Eq.trans (World.drewN_drewN _ _ _) (congrArg (World.drewN _) (Nat.add_assoc _ _ _))⟩))); try go_wp2_with (first | (go_at_call 114; (with_reducible refine (bits_Low.calls a0 a2 t131 _ A14.out).mono ?_); rintro e w' ⟨rfl, ⟨nd, rfl⟩⟩; (try first | exact ⟨rfl, _, World.drewN_drewN _ _ _⟩ | exact ⟨rfl, _, Eq.trans (World.drewN_drewN _ _ _) (congrArg (World.drewN _) (Nat.add_assoc _ _ _))⟩))))
       go_ret2
       exact ⟨by first | rfl | (simp; done) | (simp [*]; done), by repeat (first | exact Drawn0.refl _ | apply Drawn0.step)⟩
def mask_part.f (k : Nat) (a0_0 : Int) (a0_1 : Int) (a0_2 : Int) : Option (Int) := (bits_Low.f 18446744073709551615 a0_2).bind fun t134 => ((bits_Rotate.f k t134 a0_1 a0_0).bind fun bt135 => (some bt135.1))
theorem mask_part.mono : ∀ a0 a1 a2 k, LeO (mask_part.f k a0 a1 a2) (mask_part.f (k + 1) a0 a1 a2) := by
 intro a0 a1 a2 k
 unfold mask_part.f
 repeat' first
  | (with_reducible exact bits_Rotate.mono _ _ _ _)
  | (with_reducible exact LeO.refl _)
  | (with_reducible exact LeO.none _)
  | (with_reducible refine LeO.ite ?_ ?_)
  | (with_reducible refine LeO.bind ?_ (fun _ => ?_))
set_option maxHeartbeats 8000000 in
set_option maxRecDepth 100000 in
theorem mask_part.calls (k : Nat) (a0_0 : Int) (a0_1 : Int) (a0_2 : Int) (r : Int) (w : World) (h : mask_part.f k a0_0 a0_1 a0_2 = some r) :
 Calls Tryd.prog 112 #[.agg #[.int .i64 a0_0, .int .i64 a0_1, .int .i64 a0_2]] w fun e w' => e = .returned (.int .u64 r) ∧ Below w.heap.size w w' := by
 have hu168 := Tryd.underlying168
 have HB := Azz.mk (Below.refl w.heap.size w)
 have H : ((bits_Low.f 18446744073709551615 a0_2).bind fun t134 => ((bits_Rotate.f k t134 a0_1 a0_0).bind fun bt135 => (some bt135.1))) = some r := h
 clear h
 replace H := Option.bind_eq_some_iff.mp H
 obtain ⟨t134, A20, H⟩ := H
 (try dsimp only at H)
 have A2 := Azz.mk A20
 clear A20
 replace H := Option.bind_eq_some_iff.mp H
 obtain ⟨⟨t135, t136⟩, A30, H⟩ := H
 (try dsimp only at H)
 have A3 := Azz.mk A30
 clear A30
 obtain rfl := Option.some.inj H
 go_enter Tryd.func112, Tryd.ntmps112
 go_wp2_with (first | ((with_reducible refine gate_dst (N := 1) rfl ?_); refine box_event ?hg (N := 1) ?hd (cs := #[.int .i64 a0_0, .int .i64 a0_1, .int .i64 a0_2]) (t := 168) ?hr ?_; (case hd => rfl); (case hg => rfl); (case hr => first | (go_simp; done) | (go_simp; rfl)); intro gb133 hg w4 hbox hb; have n0_ := Azz.mk (bTT (by with_reducible repeat first | exact HB.out | apply bAA | apply bNN | apply bDD) hb); have n1_ := Azz.mk (hbox); have n2_ := Azz.mk ((by rw [hg]; exact (bZZ (by with_reducible repeat first | exact HB.out | apply bAA | apply bNN | apply bDD)) : w.heap.size ≤ gb133)); have n3_ := Azz.mk ((by rw [hg]; exact (bZZ (by with_reducible repeat first | exact HB.out | apply bAA | apply bNN | apply bDD)) : w.heap.size ≤ gb133)); clear HB; have HB := n0_; have BK133 := n1_; have GW133 := n2_; have GE133 := n3_; clear n0_ n1_ n2_ n3_; clear hb hbox hg; obtain ⟨hcz5_0, hcz5_1, hcz5_2, hfz5_0, hfz5_1, hfz5_2⟩ := cel3 BK133.out) | (go_at_call 114; (with_reducible refine (bits_Low.calls 18446744073709551615 a0_2 t134 _ A2.out).mono ?_); rintro e w' ⟨rfl, ⟨nd, rfl⟩⟩; (try first | exact ⟨rfl, _, World.drewN_drewN _ _ _⟩ | exact ⟨rfl, _, Eq.trans (World.drewN_drewN _ _ _) (congrArg (World.drewN _) (Nat.add_assoc _ _ _))⟩)) | (go_at_call 120; (with_reducible refine (bits_Rotate.calls k t134 a0_1 a0_0 t135 t136 _ A3.out).mono ?_); rintro e w' ⟨rfl, ⟨nd, rfl⟩⟩; (try first | exact ⟨rfl, _, World.drewN_drewN _ _ _⟩ | exact ⟨rfl, _, Eq.trans (World.drewN_drewN _ _ _) (congrArg (World.drewN _) (Nat.add_assoc _ _ _))⟩)))
 repeat (go_quiet (first | ((with_reducible refine gate_dst (N := 1) rfl ?_); refine box_event ?hg (N := 1) ?hd (cs := #[.int .i64 a0_0, .int .i64 a0_1, .int .i64 a0_2]) (t := 168) ?hr ?_; (case hd => rfl); (case hg => rfl); (case hr => first | (go_simp; done) | (go_simp; rfl)); intro gb133 hg w4 hbox hb; have n0_ := Azz.mk (bTT (by with_reducible repeat first | exact HB.out | apply bAA | apply bNN | apply bDD) hb); have n1_ := Azz.mk (hbox); have n2_ := Azz.mk ((by rw [hg]; exact (bZZ (by with_reducible repeat first | exact HB.out | apply bAA | apply bNN | apply bDD)) : w.heap.size ≤ gb133)); have n3_ := Azz.mk ((by rw [hg]; exact (bZZ (by with_reducible repeat first | exact HB.out | apply bAA | apply bNN | apply bDD)) : w.heap.size ≤ gb133)); clear HB; have HB := n0_; have BK133 := n1_; have GW133 := n2_; have GE133 := n3_; clear n0_ n1_ n2_ n3_; clear hb hbox hg; obtain ⟨hcz5_0, hcz5_1, hcz5_2, hfz5_0, hfz5_1, hfz5_2⟩ := cel3 BK133.out) | (go_at_call 114; (with_reducible refine (bits_Low.calls 18446744073709551615 a0_2 t134 _ A2.out).mono ?_); rintro e w' ⟨rfl, ⟨nd, rfl⟩⟩; (try first | exact ⟨rfl, _, World.drewN_drewN _ _ _⟩ | exact ⟨rfl, _, Eq.trans (World.drewN_drewN _ _ _) (congrArg (World.drewN _) (Nat.add_assoc _ _ _))⟩)) | (go_at_call 120; (with_reducible refine (bits_Rotate.calls k t134 a0_1 a0_0 t135 t136 _ A3.out).mono ?_); rintro e w' ⟨rfl, ⟨nd, rfl⟩⟩; (try first | exact ⟨rfl, _, World.drewN_drewN _ _ _⟩ | exact ⟨rfl, _, Eq.trans (World.drewN_drewN _ _ _) (congrArg (World.drewN _) (Nat.add_assoc _ _ _))⟩))); try go_wp2_with (first | ((with_reducible refine gate_dst (N := 1) rfl ?_); refine box_event ?hg (N := 1) ?hd (cs := #[.int .i64 a0_0, .int .i64 a0_1, .int .i64 a0_2]) (t := 168) ?hr ?_; (case hd => rfl); (case hg => rfl); (case hr => first | (go_simp; done) | (go_simp; rfl)); intro gb133 hg w4 hbox hb; have n0_ := Azz.mk (bTT (by with_reducible repeat first | exact HB.out | apply bAA | apply bNN | apply bDD) hb); have n1_ := Azz.mk (hbox); have n2_ := Azz.mk ((by rw [hg]; exact (bZZ (by with_reducible repeat first | exact HB.out | apply bAA | apply bNN | apply bDD)) : w.heap.size ≤ gb133)); have n3_ := Azz.mk ((by rw [hg]; exact (bZZ (by with_reducible repeat first | exact HB.out | apply bAA | apply bNN | apply bDD)) : w.heap.size ≤ gb133)); clear HB; have HB := n0_; have BK133 := n1_; have GW133 := n2_; have GE133 := n3_; clear n0_ n1_ n2_ n3_; clear hb hbox hg; obtain ⟨hcz5_0, hcz5_1, hcz5_2, hfz5_0, hfz5_1, hfz5_2⟩ := cel3 BK133.out) | (go_at_call 114; (with_reducible refine (bits_Low.calls 18446744073709551615 a0_2 t134 _ A2.out).mono ?_); rintro e w' ⟨rfl, ⟨nd, rfl⟩⟩; (try first | exact ⟨rfl, _, World.drewN_drewN _ _ _⟩ | exact ⟨rfl, _, Eq.trans (World.drewN_drewN _ _ _) (congrArg (World.drewN _) (Nat.add_assoc _ _ _))⟩)) | (go_at_call 120; (with_reducible refine (bits_Rotate.calls k t134 a0_1 a0_0 t135 t136 _ A3.out).mono ?_); rintro e w' ⟨rfl, ⟨nd, rfl⟩⟩; (try first | exact ⟨rfl, _, World.drewN_drewN _ _ _⟩ | exact ⟨rfl, _, Eq.trans (World.drewN_drewN _ _ _) (congrArg (World.drewN _) (Nat.add_assoc _ _ _))⟩))))
 go_ret
 exact ⟨by first | rfl | (simp [eNN, eSS] <;> rfl) | (simp [*, eNN, eSS] <;> rfl), by repeat (first | (with_reducible first | exact HB.out | apply bAA | apply bNN | apply bDD | refine bSS ?_ GE133.out) | exact HB.out)⟩
mutual
def mask_Decode.j0 : Nat → Int → Int → Int → Bool → Option (Int × Int)
 | 0, _, _, _, _ => none
 | k + 1, x0, x1, x2, x33 => if x33 = true then (some (0, 1)) else ((mask_read.f x0 x1 x2).bind fun bt137 => (if (bt137.1 == 0 && (bt137.2.1 == 0 && (bt137.2.2 == 0))) = true then (some (0, 3)) else ((mask_part.f k bt137.1 bt137.2.1 bt137.2.2).bind fun t141 => (mask_Decode.l0 k t141 0 0 bt137.1 bt137.2.1 bt137.2.2))))
def mask_Decode.l0 : Nat → Int → Int → Int → Int → Int → Int → Option (Int × Int)
 | 0, _, _, _, _, _, _ => none
 | k + 1, x9, x10, x11, x141000, x141001, x141002 => if x11 < 64 then (if 0 ≤ x11 then (mask_Decode.l0 k x9 (Go.bits .or .u64 x10 (shl .u64 x9 x11)) (wrap64 (x11 + x141000)) x141000 x141001 x141002) else (none)) else (some (x10, 0))
end
def mask_Decode.f (k : Nat) (a0 : Int) (a1 : Int) (a2 : Int) : Option (Int × Int) := if a0 < 0 then (mask_Decode.j0 k a0 a1 a2 true) else (if a0 > 1 then (mask_Decode.j0 k a0 a1 a2 true) else (if a1 < 0 then (mask_Decode.j0 k a0 a1 a2 true) else (if a1 > 63 then (mask_Decode.j0 k a0 a1 a2 true) else (if a2 < 0 then (mask_Decode.j0 k a0 a1 a2 true) else (mask_Decode.j0 k a0 a1 a2 (decide (a2 > 63)))))))
theorem mask_Decode.mono_l : ∀ k, (∀ y0 y1 y2 y3, LeO (mask_Decode.j0 k y0 y1 y2 y3) (mask_Decode.j0 (k + 1) y0 y1 y2 y3)) ∧ (∀ y0 y1 y2 y3 y4 y5, LeO (mask_Decode.l0 k y0 y1 y2 y3 y4 y5) (mask_Decode.l0 (k + 1) y0 y1 y2 y3 y4 y5))
 | 0 => ⟨fun _ _ _ _ r h => by simp [mask_Decode.j0] at h, fun _ _ _ _ _ _ r h => by simp [mask_Decode.l0] at h⟩
 | k + 1 => by
  obtain ⟨ih0, ih1⟩ := mask_Decode.mono_l k
  refine ⟨?_, ?_⟩
  ·intro y0 y1 y2 y3
   unfold mask_Decode.j0
   repeat' first
   | (with_reducible exact ih0 _ _ _ _)
   | (with_reducible exact ih1 _ _ _ _ _ _)
   | (with_reducible exact mask_part.mono _ _ _ _)
   | (with_reducible exact LeO.refl _)
   | (with_reducible exact LeO.none _)
   | (with_reducible refine LeO.ite ?_ ?_)
   | (with_reducible refine LeO.bind ?_ (fun _ => ?_))
  ·intro y0 y1 y2 y3 y4 y5
   unfold mask_Decode.l0
   repeat' first
   | (with_reducible exact ih0 _ _ _ _)
   | (with_reducible exact ih1 _ _ _ _ _ _)
   | (with_reducible exact mask_part.mono _ _ _ _)
   | (with_reducible exact LeO.refl _)
   | (with_reducible exact LeO.none _)
   | (with_reducible refine LeO.ite ?_ ?_)
   | (with_reducible refine LeO.bind ?_ (fun _ => ?_))
theorem mask_Decode.mono : ∀ a0 a1 a2 k, LeO (mask_Decode.f k a0 a1 a2) (mask_Decode.f (k + 1) a0 a1 a2) := by
 intro a0 a1 a2 k
 obtain ⟨ih0, ih1⟩ := mask_Decode.mono_l k
 unfold mask_Decode.f
 repeat' first
  | (with_reducible exact ih0 _ _ _ _)
  | (with_reducible exact ih1 _ _ _ _ _ _)
  | (with_reducible exact mask_part.mono _ _ _ _)
  | (with_reducible exact LeO.refl _)
  | (with_reducible exact LeO.none _)
  | (with_reducible refine LeO.ite ?_ ?_)
  | (with_reducible refine LeO.bind ?_ (fun _ => ?_))
set_option maxHeartbeats 8000000 in
set_option maxRecDepth 100000 in
theorem mask_Decode.calls (k : Nat) (a0 : Int) (a1 : Int) (a2 : Int) (r1 : Int) (r2 : Int) (w : World) (h : mask_Decode.f k a0 a1 a2 = some (r1, r2)) :
 Calls Tryd.prog 102 #[.int .i64 a0, .int .i64 a1, .int .i64 a2] w fun e w' => e = .returned (.tuple #[.int .u64 r1, .int .i64 r2]) ∧ Below w.heap.size w w' := by
 have hu168 := Tryd.underlying168
 have HB := Azz.mk (Below.refl w.heap.size w)
 have H : (if a0 < 0 then (mask_Decode.j0 k a0 a1 a2 true) else (if a0 > 1 then (mask_Decode.j0 k a0 a1 a2 true) else (if a1 < 0 then (mask_Decode.j0 k a0 a1 a2 true) else (if a1 > 63 then (mask_Decode.j0 k a0 a1 a2 true) else (if a2 < 0 then (mask_Decode.j0 k a0 a1 a2 true) else (mask_Decode.j0 k a0 a1 a2 (decide (a2 > 63)))))))) = some (r1, r2) := h
 clear h
 have HC4 := Azz.mk H
 clear H
 go_enter Tryd.func102, Tryd.ntmps102
 go_upto_region 1 with (fail)
 go_cut [33] (fun v33 wc => ∃ (kq : Nat) (x33_3 : Bool), v33 = .bool x33_3 ∧ Azz (mask_Decode.j0 kq a0 a1 a2 x33_3 = some (r1, r2)) ∧ Azz (kq ≤ k) ∧ Azz (Below w.heap.size w wc))
 case first =>
  have H := HC4.out
  clear HC4
  by_cases c5 : a0 < 0
  ·rw [if_pos c5] at H
   have c5b0 := decide_eq_true c5
   clear c5
   (first | rw [c5b0] | (simp only [i64_w, i32_w]; rw [c5b0]) | skip)
   have H' := Azz.mk H
   clear H
   go_wp2
   go_meet
   case rel => exact ⟨_, (true), (by first | rfl | (simp; done) | (simp [*]; done)), H', ⟨by first | omega | exact Nat.le_refl _⟩, ⟨by repeat (first | (with_reducible first | exact HB.out | apply bAA | apply bNN | apply bDD) | exact HB.out)⟩⟩
  ·rw [if_neg c5] at H
   have c5b0 := decide_eq_false c5
   clear c5
   (first | rw [c5b0] | (simp only [i64_w, i32_w]; rw [c5b0]) | skip)
   by_cases c6 : a0 > 1
   ·rw [if_pos c6] at H
    have c6b0 := decide_eq_true c6
    clear c6
    have H' := Azz.mk H
    clear H
    go_wp2
    go_meet
    case rel => exact ⟨_, (true), (by first | rfl | (simp; done) | (simp [*]; done)), H', ⟨by first | omega | exact Nat.le_refl _⟩, ⟨by repeat (first | (with_reducible first | exact HB.out | apply bAA | apply bNN | apply bDD) | exact HB.out)⟩⟩
   ·rw [if_neg c6] at H
    have c6b0 := decide_eq_false c6
    clear c6
    by_cases c7 : a1 < 0
    ·rw [if_pos c7] at H
     have c7b0 := decide_eq_true c7
     clear c7
     have H' := Azz.mk H
     clear H
     go_wp2
     go_meet
     case rel => exact ⟨_, (true), (by first | rfl | (simp; done) | (simp [*]; done)), H', ⟨by first | omega | exact Nat.le_refl _⟩, ⟨by repeat (first | (with_reducible first | exact HB.out | apply bAA | apply bNN | apply bDD) | exact HB.out)⟩⟩
    ·rw [if_neg c7] at H
     have c7b0 := decide_eq_false c7
     clear c7
     by_cases c8 : a1 > 63
     ·rw [if_pos c8] at H
      have c8b0 := decide_eq_true c8
      clear c8
      have H' := Azz.mk H
      clear H
      go_wp2
      go_meet
      case rel => exact ⟨_, (true), (by first | rfl | (simp; done) | (simp [*]; done)), H', ⟨by first | omega | exact Nat.le_refl _⟩, ⟨by repeat (first | (with_reducible first | exact HB.out | apply bAA | apply bNN | apply bDD) | exact HB.out)⟩⟩
     ·rw [if_neg c8] at H
      have c8b0 := decide_eq_false c8
      clear c8
      by_cases c9 : a2 < 0
      ·rw [if_pos c9] at H
       have c9b0 := decide_eq_true c9
       clear c9
       have H' := Azz.mk H
       clear H
       go_wp2
       go_meet
       case rel => exact ⟨_, (true), (by first | rfl | (simp; done) | (simp [*]; done)), H', ⟨by first | omega | exact Nat.le_refl _⟩, ⟨by repeat (first | (with_reducible first | exact HB.out | apply bAA | apply bNN | apply bDD) | exact HB.out)⟩⟩
      ·rw [if_neg c9] at H
       have c9b0 := decide_eq_false c9
       clear c9
       have H' := Azz.mk H
       clear H
       go_wp2
       go_meet
       case rel => exact ⟨_, (decide (a2 > 63)), (by first | rfl | (simp; done) | (simp [*]; done)), H', ⟨by first | omega | exact Nat.le_refl _⟩, ⟨by repeat (first | (with_reducible first | exact HB.out | apply bAA | apply bNN | apply bDD) | exact HB.out)⟩⟩
 case rest =>
  clear HC4
  try clear c1
  try clear p2
  try clear c5
  try clear c5b0
  try clear c6
  try clear c6b0
  try clear c7
  try clear c7b0
  try clear c8
  try clear c8b0
  try clear c9
  try clear c9b0
  obtain ⟨kq, x33_3, rfl, HA, HJ3, HB⟩ := hcut
  cases kq with
  | zero => exact absurd HA.out (by simp [mask_Decode.j0])
  | succ kj3 =>
   have H := HA.out
   clear HA
   simp only [mask_Decode.j0] at H
   by_cases c10 : x33_3 = true
   ·subst c10
    rw [if_pos rfl] at H
    simp only [Option.some.injEq, Prod.mk.injEq] at H
    obtain ⟨rfl, rfl⟩ := H
    go_wp2
    go_ret2
    exact ⟨by first | rfl | (simp [eNN, eSS] <;> rfl) | (simp [*, eNN, eSS] <;> rfl), by repeat (first | (with_reducible first | exact HB.out | apply bAA | apply bNN | apply bDD) | exact HB.out)⟩
   ·replace c10 := Bool.eq_false_iff.mpr c10
    subst c10
    rw [if_neg (show ¬ (false = true) by decide)] at H
    replace H := Option.bind_eq_some_iff.mp H
    obtain ⟨⟨t137, t138, t139⟩, A110, H⟩ := H
    (try dsimp only at H)
    have A11 := Azz.mk A110
    clear A110
    by_cases c12 : (t137 == 0 && (t138 == 0 && (t139 == 0))) = true
    ·rw [if_pos c12] at H
     have c12b0 : (t137 == 0 && (t138 == 0 && (t139 == 0))) = true := c12
     (try (have c12b1 : decide (t137 = 0 && (t138 == 0 && (t139 == 0))) = true := by simpa using c12))
     (try (have c12b2 : (t137 == 0 && (t138 == 0 && (t139 == 0))) = true := by simpa using c12))
     clear c12
     simp only [Option.some.injEq, Prod.mk.injEq] at H
     obtain ⟨rfl, rfl⟩ := H
     go_wp2_with (first | ((with_reducible refine gate_callee (f := 111) rfl ?_); refine goesL_ (some 37) rfl rfl Tryd.func111 (by kernel_rfl) rfl #[.int .i64 a0, .int .i64 a1, .int .i64 a2] rfl (by (try simp only [List.map_toArray, List.map_cons, List.map_nil]); first | done | rfl | (simp only [List.length_drop, List.length_take]; rfl)) ?_; (with_reducible refine (mask_read.calls a0 a1 a2 t137 t138 t139 _ A11.out).mono ?_); rintro e w13 ⟨rfl, hb⟩; refine ⟨_, rfl, ?_⟩; have n0_ := Azz.mk (bTT (by with_reducible repeat first | exact HB.out | apply bAA | apply bNN | apply bDD) hb); clear HB; have HB := n0_; clear n0_; (try clear hb); (try clear hb2); (try clear hk); (try clear hi)) | ((with_reducible refine gate_dst (N := 8) rfl ?_); refine box_event ?hg (N := 8) ?hd (cs := #[.int .i64 0, .int .i64 0, .int .i64 0]) (t := 168) ?hr ?_; (case hd => rfl); (case hg => rfl); (case hr => first | (go_simp; done) | (go_simp; rfl)); intro gb140 hg w14 hbox hb; have n0_ := Azz.mk (bTT (by with_reducible repeat first | exact HB.out | apply bAA | apply bNN | apply bDD) hb); have n1_ := Azz.mk (hbox); have n2_ := Azz.mk ((by rw [hg]; exact (bZZ (by with_reducible repeat first | exact HB.out | apply bAA | apply bNN | apply bDD)) : w.heap.size ≤ gb140)); have n3_ := Azz.mk ((by rw [hg]; exact (bZZ (by with_reducible repeat first | exact HB.out | apply bAA | apply bNN | apply bDD)) : w.heap.size ≤ gb140)); clear HB; have HB := n0_; have BK140 := n1_; have GW140 := n2_; have GE140 := n3_; clear n0_ n1_ n2_ n3_; clear hb hbox hg; obtain ⟨hcz15_0, hcz15_1, hcz15_2, hfz15_0, hfz15_1, hfz15_2⟩ := cel3 BK140.out))
     go_ret2
     exact ⟨by first | rfl | (simp [eNN, eSS] <;> rfl) | (simp [*, eNN, eSS] <;> rfl), by repeat (first | (with_reducible first | exact HB.out | apply bAA | apply bNN | apply bDD | refine bSS ?_ GE140.out) | exact HB.out)⟩
    ·rw [if_neg c12] at H
     have c12b0 : (t137 == 0 && (t138 == 0 && (t139 == 0))) = false := by simpa using c12
     (try (have c12b1 : decide (t137 = 0 && (t138 == 0 && (t139 == 0))) = false := by simpa using c12))
     (try (have c12b2 : (t137 == 0 && (t138 == 0 && (t139 == 0))) = false := by simpa using c12))
     (try (have c12b3 : ¬ (t137 = 0 && (t138 == 0 && (t139 == 0))) := by simpa using c12))
     clear c12
     replace H := Option.bind_eq_some_iff.mp H
     obtain ⟨t141, A160, H⟩ := H
     (try dsimp only at H)
     have A16 := Azz.mk A160
     clear A160
     have H' := Azz.mk H
     clear H
     go_wp2_with (first | ((with_reducible refine gate_callee (f := 111) rfl ?_); refine goesL_ (some 37) rfl rfl Tryd.func111 (by kernel_rfl) rfl #[.int .i64 a0, .int .i64 a1, .int .i64 a2] rfl (by (try simp only [List.map_toArray, List.map_cons, List.map_nil]); first | done | rfl | (simp only [List.length_drop, List.length_take]; rfl)) ?_; (with_reducible refine (mask_read.calls a0 a1 a2 t137 t138 t139 _ A11.out).mono ?_); rintro e w17 ⟨rfl, hb⟩; refine ⟨_, rfl, ?_⟩; have n0_ := Azz.mk (bTT (by with_reducible repeat first | exact HB.out | apply bAA | apply bNN | apply bDD) hb); clear HB; have HB := n0_; clear n0_; (try clear hb); (try clear hb2); (try clear hk); (try clear hi)) | ((with_reducible refine gate_dst (N := 8) rfl ?_); refine box_event ?hg (N := 8) ?hd (cs := #[.int .i64 0, .int .i64 0, .int .i64 0]) (t := 168) ?hr ?_; (case hd => rfl); (case hg => rfl); (case hr => first | (go_simp; done) | (go_simp; rfl)); intro gb140 hg w18 hbox hb; have n0_ := Azz.mk (bTT (by with_reducible repeat first | exact HB.out | apply bAA | apply bNN | apply bDD) hb); have n1_ := Azz.mk (hbox); have n2_ := Azz.mk ((by rw [hg]; exact (bZZ (by with_reducible repeat first | exact HB.out | apply bAA | apply bNN | apply bDD)) : w.heap.size ≤ gb140)); have n3_ := Azz.mk ((by rw [hg]; exact (bZZ (by with_reducible repeat first | exact HB.out | apply bAA | apply bNN | apply bDD)) : w.heap.size ≤ gb140)); clear HB; have HB := n0_; have BK140 := n1_; have GW140 := n2_; have GE140 := n3_; clear n0_ n1_ n2_ n3_; clear hb hbox hg; obtain ⟨hcz19_0, hcz19_1, hcz19_2, hfz19_0, hfz19_1, hfz19_2⟩ := cel3 BK140.out) | ((with_reducible refine gate_callee (f := 112) rfl ?_); refine goesL_ (some 42) rfl rfl Tryd.func112 (by kernel_rfl) rfl #[.agg #[.int .i64 t137, .int .i64 t138, .int .i64 t139]] rfl (by (try simp only [List.map_toArray, List.map_cons, List.map_nil]); first | done | rfl | (simp only [List.length_drop, List.length_take]; rfl)) ?_; (with_reducible refine (mask_part.calls kj3 t137 t138 t139 t141 _ A16.out).mono ?_); rintro e w20 ⟨rfl, hb⟩; refine ⟨_, rfl, ?_⟩; have n0_ := Azz.mk (kBB (g := gb140) (o := .cells #[.int .i64 t137, .int .i64 t138, .int .i64 t139] 168 (0, 0)) (by apply put3; (with_reducible repeat first | apply kNN | apply kDD | apply kAA); exact BK140.out) hb); have n1_ := Azz.mk (bTT (by with_reducible repeat first | exact HB.out | apply bAA | apply bNN | apply bDD | refine bSS ?_ GE140.out) hb); clear BK140; clear HB; have BK140 := n0_; have HB := n1_; clear n0_ n1_; (try clear hb); (try clear hb2); (try clear hk); (try clear hi)))
     go_loopg [10, 11] kj3 (fun kq v10 v11 w' => ∃ (x10_2 : Int) (x11_2 : Int), v10 = .int .u64 x10_2 ∧ v11 = .int .i64 x11_2 ∧ Azz (mask_Decode.l0 kq t141 x10_2 x11_2 t137 t138 t139 = some (r1, r2)) ∧ Azz (kq ≤ kj3) ∧ Azz (w'.heap[gb140]? = some (.cells #[.int .i64 t137, .int .i64 t138, .int .i64 t139] 168 (0, 0))) ∧ Azz (Below w.heap.size w w'))
     case atStart => exact ⟨(0), (0), (by first | rfl | (simp; done) | (simp [*]; done)), (by first | rfl | (simp; done) | (simp [*]; done)), H', ⟨Nat.le_refl _⟩, ⟨by (with_reducible repeat first | apply kNN | apply kDD | apply kAA); exact BK140.out⟩, ⟨by repeat (first | (with_reducible first | exact HB.out | apply bAA | apply bNN | apply bDD | refine bSS ?_ GE140.out) | exact HB.out)⟩⟩
     case round =>
      clear H'
      try clear c1
      try clear p2
      try clear c5
      try clear c5b0
      try clear c6
      try clear c6b0
      try clear c7
      try clear c7b0
      try clear c8
      try clear c8b0
      try clear c9
      try clear c9b0
      try clear c10
      try clear c11
      try clear c12
      try clear c12b0
      try clear c12b1
      try clear c12b2
      try clear p2
      try clear hcz15_0 hcz15_1 hcz15_2 hcz19_0 hcz19_1 hcz19_2 hfz15_0 hfz15_1 hfz15_2 hfz19_0 hfz19_1 hfz19_2
      obtain ⟨x10_2, x11_2, rfl, rfl, HA, HK2, BK140, HB⟩ := hrel
      cases gk with
      | zero => exact absurd HA.out (by simp [mask_Decode.l0])
      | succ k2 =>
       have H := HA.out
       clear HA
       simp only [mask_Decode.l0] at H
       by_cases c21 : x11_2 < 64
       ·rw [if_pos c21] at H
        have c21b0 := decide_eq_true c21
        clear c21
        by_cases c22 : 0 ≤ x11_2
        ·rw [if_pos c22] at H
         have c22b0 := eq_true c22
         have c22b1 := decide_eq_true c22
         clear c22
         obtain ⟨ji23, hji23⟩ : ∃ j_ : Int, (shl .u64 t141 x11_2) = j_ := ⟨_, rfl⟩
         replace H : (mask_Decode.l0 k2 t141 (Go.bits .or .u64 x10_2 (ji23)) (wrap64 (x11_2 + t137)) t137 t138 t139) = some (r1, r2) := by first | (rw [hji23] at H; exact H) | (simp only [hji23] at H ⊢; exact H)
         have hji23_ : (IntKind.u64.wrap (t141 * 2 ^ min x11_2.toNat 64)) = ji23 := hji23
         have hji23z : x11_2 ≤ 64 → (IntKind.u64.wrap (t141 * 2 ^ x11_2.toNat)) = ji23 := shl_small hji23
         have H' := Azz.mk H
         clear H
         obtain ⟨hcz24_0, hcz24_1, hcz24_2, hfz24_0, hfz24_1, hfz24_2⟩ := cel3 BK140.out
         go_wp2
         go_roundg k2
         case measure => have := HJ3.out; have := HK2.out; omega
         case rel => exact ⟨(Go.bits .or .u64 x10_2 (ji23)), (wrap64 (x11_2 + t137)), (by first | rfl | (simp; done) | (simp only [← hji23] <;> (first | rfl | simp)) | (simp [*]; done)), (by first | rfl | (simp; done) | (simp [*]; done)), H', ⟨by have := HJ3.out; have := HK2.out; omega⟩, ⟨by (with_reducible repeat first | apply kNN | apply kDD | apply kAA); exact BK140.out⟩, ⟨by repeat (first | (with_reducible first | exact HB.out | apply bAA | apply bNN | apply bDD | refine bSS ?_ GE140.out) | exact HB.out)⟩⟩
        ·rw [if_neg c22] at H
         exact absurd H (by simp)
       ·rw [if_neg c21] at H
        have c21b0 := decide_eq_false c21
        clear c21
        simp only [Option.some.injEq, Prod.mk.injEq] at H
        obtain ⟨rfl, rfl⟩ := H
        go_wp2
        go_ret2
        exact ⟨by first | rfl | (simp [eNN, eSS] <;> rfl) | (simp [*, eNN, eSS] <;> rfl), by repeat (first | (with_reducible first | exact HB.out | apply bAA | apply bNN | apply bDD | refine bSS ?_ GE140.out) | exact HB.out)⟩
end Go.Proofs.YtngmipfodjgmmaaDoor.P
