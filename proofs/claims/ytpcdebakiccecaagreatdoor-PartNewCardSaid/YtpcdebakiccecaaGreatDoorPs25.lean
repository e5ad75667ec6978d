/- Walks and plain laws of this claim, a part. -/
import Derived.Test.YtpcdebakiccecaaGreatDoorPs24
namespace Go.Proofs.YtpcdebakiccecaaGreatDoor.P
open Go.RowKit Go.Proofs.YtpcdebakiccecaaGreatDoorW.PrintWords Go.Proofs.YtpcdebakiccecaaGreatDoorW.PrintLast Go.Proofs.YtpcdebakiccecaaGreatDoorW.PrintMore
attribute [local go_sem] max2_int min2_int max_two min_two max_three min_three max_four min_four   -- for this text's walks alone
set_option linter.unusedVariables false
set_option linter.unusedSimpArgs false
def operand_Reg.f (k : Nat) (a0 : ByteArray) : Option (Int × Bool × Int) := if a0.toList = ([115, 112] : List UInt8) then (some (31, true, 0)) else (if a0.toList = ([120, 122, 114] : List UInt8) then (some (31, false, 0)) else (if (a0.size : Int) < 2 then (some (0, false, 3)) else (if (a0.size : Int) > 3 then (some (0, false, 3)) else (if 0 < (a0.size : Int) then (if (bt a0 0) = 120 then (if 1 ≤ (a0.size : Int) then ((num_Value.f k (a0.extract 1 a0.size)).bind fun bt102 => (if bt102.2 = 0 then (if bt102.1 ≥ 31 then (some (0, false, 3)) else ((num_Text.f bt102.1).bind fun t104 => (if t104.toList = (a0.extract 1 a0.size).toList then (some (wrap64 (bt102.1), false, 0)) else (some (0, false, 3))))) else (some (0, false, 3)))) else (none)) else (some (0, false, 3))) else (none)))))
theorem operand_Reg.mono : ∀ a0 k, LeO (operand_Reg.f k a0) (operand_Reg.f (k + 1) a0) := by
 intro a0 k
 unfold operand_Reg.f
 repeat' first
  | (with_reducible exact num_Value.mono _ _)
  | (with_reducible exact LeO.refl _)
  | (with_reducible exact LeO.none _)
  | (with_reducible refine LeO.ite ?_ ?_)
  | (with_reducible refine LeO.bind ?_ (fun _ => ?_))
set_option maxHeartbeats 8000000 in
set_option maxRecDepth 100000 in
theorem operand_Reg.calls (k : Nat) (a0 : ByteArray) (r1 : Int) (r2 : Bool) (r3 : Int) (w : World) (h : operand_Reg.f k a0 = some (r1, r2, r3)) :
 Calls Tryz.prog 18 #[.string a0] w fun e w' => e = .returned (.tuple #[.int .i64 r1, .bool r2, .int .i64 r3]) ∧ Below w.heap.size w w' := by
 have HB := Azz.mk (Below.refl w.heap.size w)
 have H : (if a0.toList = ([115, 112] : List UInt8) then (some (31, true, 0)) else (if a0.toList = ([120, 122, 114] : List UInt8) then (some (31, false, 0)) else (if (a0.size : Int) < 2 then (some (0, false, 3)) else (if (a0.size : Int) > 3 then (some (0, false, 3)) else (if 0 < (a0.size : Int) then (if (bt a0 0) = 120 then (if 1 ≤ (a0.size : Int) then ((num_Value.f k (a0.extract 1 a0.size)).bind fun bt102 => (if bt102.2 = 0 then (if bt102.1 ≥ 31 then (some (0, false, 3)) else ((num_Text.f bt102.1).bind fun t104 => (if t104.toList = (a0.extract 1 a0.size).toList then (some (wrap64 (bt102.1), false, 0)) else (some (0, false, 3))))) else (some (0, false, 3)))) else (none)) else (some (0, false, 3))) else (none)))))) = some (r1, r2, r3) := h
 clear h
 by_cases c2 : a0.toList = ([115, 112] : List UInt8)
 ·rw [if_pos c2] at H
  have c2b0 := beq_iff_eq.mpr c2
  have c2b1 := bne_eq_false_iff_eq.mpr c2
  clear c2
  simp only [Option.some.injEq, Prod.mk.injEq] at H
  obtain ⟨rfl, rfl, rfl⟩ := H
  go_enter Tryz.func18, Tryz.ntmps18
  go_wp2
  repeat (go_quiet (fail); try go_wp2)
  go_ret3
  exact ⟨by first | rfl | (simp [eNN, eSS] <;> rfl) | (simp [*, eNN, eSS] <;> rfl), by repeat (first | (with_reducible first | exact HB.out | apply bAA | apply bNN | apply bDD) | exact HB.out)⟩
 ·rw [if_neg c2] at H
  have c2b0 := beq_eq_false_iff_ne.mpr c2
  have c2b1 := bne_iff_ne.mpr c2
  by_cases c3 : a0.toList = ([120, 122, 114] : List UInt8)
  ·rw [if_pos c3] at H
   have c3b0 := beq_iff_eq.mpr c3
   have c3b1 := bne_eq_false_iff_eq.mpr c3
   clear c3
   simp only [Option.some.injEq, Prod.mk.injEq] at H
   obtain ⟨rfl, rfl, rfl⟩ := H
   go_enter Tryz.func18, Tryz.ntmps18
   go_wp2
   repeat (go_quiet (fail); try go_wp2)
   go_ret3
   exact ⟨by first | rfl | (simp [eNN, eSS] <;> rfl) | (simp [*, eNN, eSS] <;> rfl), by repeat (first | (with_reducible first | exact HB.out | apply bAA | apply bNN | apply bDD) | exact HB.out)⟩
  ·rw [if_neg c3] at H
   have c3b0 := beq_eq_false_iff_ne.mpr c3
   have c3b1 := bne_iff_ne.mpr c3
   by_cases c4 : (a0.size : Int) < 2
   ·rw [if_pos c4] at H
    have c4b0 := decide_eq_true c4
    have c4b1 : decide (a0.size < 2) = true := decide_eq_true (by omega)
    clear c4
    simp only [Option.some.injEq, Prod.mk.injEq] at H
    obtain ⟨rfl, rfl, rfl⟩ := H
    go_enter Tryz.func18, Tryz.ntmps18
    go_wp2
    repeat (go_quiet (fail); try go_wp2)
    go_ret3
    exact ⟨by first | rfl | (simp [eNN, eSS] <;> rfl) | (simp [*, eNN, eSS] <;> rfl), by repeat (first | (with_reducible first | exact HB.out | apply bAA | apply bNN | apply bDD) | exact HB.out)⟩
   ·rw [if_neg c4] at H
    have c4b0 := decide_eq_false c4
    have c4b1 : decide (a0.size < 2) = false := decide_eq_false (by omega)
    clear c4
    by_cases c5 : (a0.size : Int) > 3
    ·rw [if_pos c5] at H
     have c5b0 := decide_eq_true c5
     have c5b1 : decide (3 < a0.size) = true := decide_eq_true (by omega)
     clear c5
     simp only [Option.some.injEq, Prod.mk.injEq] at H
     obtain ⟨rfl, rfl, rfl⟩ := H
     go_enter Tryz.func18, Tryz.ntmps18
     go_wp2
     repeat (go_quiet (fail); try go_wp2)
     go_ret3
     exact ⟨by first | rfl | (simp [eNN, eSS] <;> rfl) | (simp [*, eNN, eSS] <;> rfl), by repeat (first | (with_reducible first | exact HB.out | apply bAA | apply bNN | apply bDD) | exact HB.out)⟩
    ·rw [if_neg c5] at H
     have c5b0 := decide_eq_false c5
     have c5b1 : decide (3 < a0.size) = false := decide_eq_false (by omega)
     clear c5
     by_cases c6 : 0 < (a0.size : Int)
     ·rw [if_pos c6] at H
      have c6b0 := decide_eq_true c6
      have c6b1 : decide (0 < a0.size) = true := decide_eq_true (by omega)
      clear c6
      by_cases c8 : (bt a0 0) = 120
      ·rw [if_pos c8] at H
       have c8b0 := beq_iff_eq.mpr c8
       have c8b1 := bne_eq_false_iff_eq.mpr c8
       clear c8
       by_cases c9 : 1 ≤ (a0.size : Int)
       ·rw [if_pos c9] at H
        have c9b0 := eq_true c9
        have c9b1 := decide_eq_true c9
        clear c9
        replace H := Option.bind_eq_some_iff.mp H
        obtain ⟨⟨t102, t103⟩, A100, H⟩ := H
        (try dsimp only at H)
        have A10 := Azz.mk A100
        clear A100
        by_cases c11 : t103 = 0
        ·rw [if_pos c11] at H
         have c11b0 := beq_iff_eq.mpr c11
         have c11b1 := bne_eq_false_iff_eq.mpr c11
         clear c11
         by_cases c12 : t102 ≥ 31
         ·rw [if_pos c12] at H
          have c12b0 := decide_eq_true c12
          clear c12
          simp only [Option.some.injEq, Prod.mk.injEq] at H
          obtain ⟨rfl, rfl, rfl⟩ := H
          have p7 : 0 ≤ (0 : Int) := (by omega)
          have q7 : 0 < a0.size := (by have : (0 : Int) < (a0.size : Int) := of_decide_eq_true (by first | (with_reducible assumption) | assumption); omega)
          have hx7 : ∀ h : 0 < a0.size, ((a0[0]'h).toNat : Int) = bt a0 0 := bt_at a0 0
          clear p7
          have qi7 : (0 < (a0.size : Int)) = True := eq_true (of_decide_eq_true (by first | (with_reducible assumption) | assumption))
          replace q7 := eq_true q7
          go_enter Tryz.func18, Tryz.ntmps18
          go_wp2_with (first | (go_at_call 28; (with_reducible refine (num_Value.calls k (a0.extract 1 a0.size) t102 t103 _ A10.out).mono ?_); rintro e w13 ⟨rfl, hb⟩; have n0_ := Azz.mk (bTT (by with_reducible repeat first | exact HB.out | apply bAA | apply bNN | apply bDD) hb); clear HB; have HB := n0_; clear n0_; (try clear hb); (try clear hb2); (try clear hk); (try clear hi)))
          repeat (go_quiet (first | (go_at_call 28; (with_reducible refine (num_Value.calls k (a0.extract 1 a0.size) t102 t103 _ A10.out).mono ?_); rintro e w13 ⟨rfl, hb⟩; have n0_ := Azz.mk (bTT (by with_reducible repeat first | exact HB.out | apply bAA | apply bNN | apply bDD) hb); clear HB; have HB := n0_; clear n0_; (try clear hb); (try clear hb2); (try clear hk); (try clear hi))); try go_wp2_with (first | (go_at_call 28; (with_reducible refine (num_Value.calls k (a0.extract 1 a0.size) t102 t103 _ A10.out).mono ?_); rintro e w13 ⟨rfl, hb⟩; have n0_ := Azz.mk (bTT (by with_reducible repeat first | exact HB.out | apply bAA | apply bNN | apply bDD) hb); clear HB; have HB := n0_; clear n0_; (try clear hb); (try clear hb2); (try clear hk); (try clear hi))))
          go_ret3
          exact ⟨by first | rfl | (simp [eNN, eSS] <;> rfl) | (simp [*, eNN, eSS] <;> rfl), by repeat (first | (with_reducible first | exact HB.out | apply bAA | apply bNN | apply bDD) | exact HB.out)⟩
         ·rw [if_neg c12] at H
          have c12b0 := decide_eq_false c12
          clear c12
          replace H := Option.bind_eq_some_iff.mp H
          obtain ⟨t104, A140, H⟩ := H
          (try dsimp only at H)
          have A14 := Azz.mk A140
          clear A140
          have c15b0 := eq_true (of_decide_eq_true (by first | (with_reducible assumption) | assumption) : 1 ≤ (a0.size : Int))
          by_cases c16 : t104.toList = (a0.extract 1 a0.size).toList
          ·rw [if_pos c16] at H
           have c16b0 := beq_iff_eq.mpr c16
           have c16b1 := bne_eq_false_iff_eq.mpr c16
           clear c16
           simp only [Option.some.injEq, Prod.mk.injEq] at H
           obtain ⟨rfl, rfl, rfl⟩ := H
           have p7 : 0 ≤ (0 : Int) := (by omega)
           have q7 : 0 < a0.size := (by have : (0 : Int) < (a0.size : Int) := of_decide_eq_true (by first | (with_reducible assumption) | assumption); omega)
           have hx7 : ∀ h : 0 < a0.size, ((a0[0]'h).toNat : Int) = bt a0 0 := bt_at a0 0
           clear p7
           have qi7 : (0 < (a0.size : Int)) = True := eq_true (of_decide_eq_true (by first | (with_reducible assumption) | assumption))
           replace q7 := eq_true q7
           go_enter Tryz.func18, Tryz.ntmps18
           go_wp2_with (first | (go_at_call 28; (with_reducible refine (num_Value.calls k (a0.extract 1 a0.size) t102 t103 _ A10.out).mono ?_); rintro e w17 ⟨rfl, hb⟩; have n0_ := Azz.mk (bTT (by with_reducible repeat first | exact HB.out | apply bAA | apply bNN | apply bDD) hb); clear HB; have HB := n0_; clear n0_; (try clear hb); (try clear hb2); (try clear hk); (try clear hi)) | (go_at_call 29; (with_reducible refine (num_Text.calls t102 t104 _ A14.out).mono ?_); rintro e w' ⟨rfl, ⟨nd, rfl⟩⟩; (try first | exact ⟨rfl, _, World.drewN_drewN _ _ _⟩ | exact ⟨rfl, _, Eq.trans (World.drewN_drewN _ _ _) (congrArg (World.drewN _) (Nat.add_assoc _ _ _))⟩)))
           repeat (go_quiet (first | (go_at_call 28; (with_reducible refine (num_Value.calls k (a0.extract 1 a0.size) t102 t103 _ A10.out).mono ?_); rintro e w17 ⟨rfl, hb⟩; have n0_ := Azz.mk (bTT (by with_reducible repeat first | exact HB.out | apply bAA | apply bNN | apply bDD) hb); clear HB; have HB := n0_; clear n0_; (try clear hb); (try clear hb2); (try clear hk); (try clear hi)) | (go_at_call 29; (with_reducible refine (num_Text.calls t102 t104 _ A14.out).mono ?_); rintro e w' ⟨rfl, ⟨nd, rfl⟩⟩; (try first | exact ⟨rfl, _, World.drewN_drewN _ _ _⟩ | exact ⟨rfl, _, Eq.trans (World.drewN_drewN _ _ _) (congrArg (World.drewN _) (Nat.add_assoc _ _ _))⟩))); try go_wp2_with (first | (go_at_call 28; (with_reducible refine (num_Value.calls k (a0.extract 1 a0.size) t102 t103 _ A10.out).mono ?_); rintro e w17 ⟨rfl, hb⟩; have n0_ := Azz.mk (bTT (by with_reducible repeat first | exact HB.out | apply bAA | apply bNN | apply bDD) hb); clear HB; have HB := n0_; clear n0_; (try clear hb); (try clear hb2); (try clear hk); (try clear hi)) | (go_at_call 29; (with_reducible refine (num_Text.calls t102 t104 _ A14.out).mono ?_); rintro e w' ⟨rfl, ⟨nd, rfl⟩⟩; (try first | exact ⟨rfl, _, World.drewN_drewN _ _ _⟩ | exact ⟨rfl, _, Eq.trans (World.drewN_drewN _ _ _) (congrArg (World.drewN _) (Nat.add_assoc _ _ _))⟩))))
           go_ret3
           exact ⟨by first | rfl | (simp [eNN, eSS] <;> rfl) | (simp [*, eNN, eSS] <;> rfl), by repeat (first | (with_reducible first | exact HB.out | apply bAA | apply bNN | apply bDD) | exact HB.out)⟩
          ·rw [if_neg c16] at H
           have c16b0 := beq_eq_false_iff_ne.mpr c16
           have c16b1 := bne_iff_ne.mpr c16
           simp only [Option.some.injEq, Prod.mk.injEq] at H
           obtain ⟨rfl, rfl, rfl⟩ := H
           have p7 : 0 ≤ (0 : Int) := (by omega)
           have q7 : 0 < a0.size := (by have : (0 : Int) < (a0.size : Int) := of_decide_eq_true (by first | (with_reducible assumption) | assumption); omega)
           have hx7 : ∀ h : 0 < a0.size, ((a0[0]'h).toNat : Int) = bt a0 0 := bt_at a0 0
           clear p7
           have qi7 : (0 < (a0.size : Int)) = True := eq_true (of_decide_eq_true (by first | (with_reducible assumption) | assumption))
           replace q7 := eq_true q7
           go_enter Tryz.func18, Tryz.ntmps18
           go_wp2_with (first | (go_at_call 28; (with_reducible refine (num_Value.calls k (a0.extract 1 a0.size) t102 t103 _ A10.out).mono ?_); rintro e w18 ⟨rfl, hb⟩; have n0_ := Azz.mk (bTT (by with_reducible repeat first | exact HB.out | apply bAA | apply bNN | apply bDD) hb); clear HB; have HB := n0_; clear n0_; (try clear hb); (try clear hb2); (try clear hk); (try clear hi)) | (go_at_call 29; (with_reducible refine (num_Text.calls t102 t104 _ A14.out).mono ?_); rintro e w' ⟨rfl, ⟨nd, rfl⟩⟩; (try first | exact ⟨rfl, _, World.drewN_drewN _ _ _⟩ | exact ⟨rfl, _, Eq.trans (World.drewN_drewN _ _ _) (congrArg (World.drewN _) (Nat.add_assoc _ _ _))⟩)))
           repeat (go_quiet (first | (go_at_call 28; (with_reducible refine (num_Value.calls k (a0.extract 1 a0.size) t102 t103 _ A10.out).mono ?_); rintro e w18 ⟨rfl, hb⟩; have n0_ := Azz.mk (bTT (by with_reducible repeat first | exact HB.out | apply bAA | apply bNN | apply bDD) hb); clear HB; have HB := n0_; clear n0_; (try clear hb); (try clear hb2); (try clear hk); (try clear hi)) | (go_at_call 29; (with_reducible refine (num_Text.calls t102 t104 _ A14.out).mono ?_); rintro e w' ⟨rfl, ⟨nd, rfl⟩⟩; (try first | exact ⟨rfl, _, World.drewN_drewN _ _ _⟩ | exact ⟨rfl, _, Eq.trans (World.drewN_drewN _ _ _) (congrArg (World.drewN _) (Nat.add_assoc _ _ _))⟩))); try go_wp2_with (first | (go_at_call 28; (with_reducible refine (num_Value.calls k (a0.extract 1 a0.size) t102 t103 _ A10.out).mono ?_); rintro e w18 ⟨rfl, hb⟩; have n0_ := Azz.mk (bTT (by with_reducible repeat first | exact HB.out | apply bAA | apply bNN | apply bDD) hb); clear HB; have HB := n0_; clear n0_; (try clear hb); (try clear hb2); (try clear hk); (try clear hi)) | (go_at_call 29; (with_reducible refine (num_Text.calls t102 t104 _ A14.out).mono ?_); rintro e w' ⟨rfl, ⟨nd, rfl⟩⟩; (try first | exact ⟨rfl, _, World.drewN_drewN _ _ _⟩ | exact ⟨rfl, _, Eq.trans (World.drewN_drewN _ _ _) (congrArg (World.drewN _) (Nat.add_assoc _ _ _))⟩))))
           go_ret3
           exact ⟨by first | rfl | (simp [eNN, eSS] <;> rfl) | (simp [*, eNN, eSS] <;> rfl), by repeat (first | (with_reducible first | exact HB.out | apply bAA | apply bNN | apply bDD) | exact HB.out)⟩
        ·rw [if_neg c11] at H
         have c11b0 := beq_eq_false_iff_ne.mpr c11
         have c11b1 := bne_iff_ne.mpr c11
         simp only [Option.some.injEq, Prod.mk.injEq] at H
         obtain ⟨rfl, rfl, rfl⟩ := H
         have p7 : 0 ≤ (0 : Int) := (by omega)
         have q7 : 0 < a0.size := (by have : (0 : Int) < (a0.size : Int) := of_decide_eq_true (by first | (with_reducible assumption) | assumption); omega)
         have hx7 : ∀ h : 0 < a0.size, ((a0[0]'h).toNat : Int) = bt a0 0 := bt_at a0 0
         clear p7
         have qi7 : (0 < (a0.size : Int)) = True := eq_true (of_decide_eq_true (by first | (with_reducible assumption) | assumption))
         replace q7 := eq_true q7
         go_enter Tryz.func18, Tryz.ntmps18
         go_wp2_with (first | (go_at_call 28; (with_reducible refine (num_Value.calls k (a0.extract 1 a0.size) t102 t103 _ A10.out).mono ?_); rintro e w19 ⟨rfl, hb⟩; have n0_ := Azz.mk (bTT (by with_reducible repeat first | exact HB.out | apply bAA | apply bNN | apply bDD) hb); clear HB; have HB := n0_; clear n0_; (try clear hb); (try clear hb2); (try clear hk); (try clear hi)))
         repeat (go_quiet (first | (go_at_call 28; (with_reducible refine (num_Value.calls k (a0.extract 1 a0.size) t102 t103 _ A10.out).mono ?_); rintro e w19 ⟨rfl, hb⟩; have n0_ := Azz.mk (bTT (by with_reducible repeat first | exact HB.out | apply bAA | apply bNN | apply bDD) hb); clear HB; have HB := n0_; clear n0_; (try clear hb); (try clear hb2); (try clear hk); (try clear hi))); try go_wp2_with (first | (go_at_call 28; (with_reducible refine (num_Value.calls k (a0.extract 1 a0.size) t102 t103 _ A10.out).mono ?_); rintro e w19 ⟨rfl, hb⟩; have n0_ := Azz.mk (bTT (by with_reducible repeat first | exact HB.out | apply bAA | apply bNN | apply bDD) hb); clear HB; have HB := n0_; clear n0_; (try clear hb); (try clear hb2); (try clear hk); (try clear hi))))
         go_ret3
         exact ⟨by first | rfl | (simp [eNN, eSS] <;> rfl) | (simp [*, eNN, eSS] <;> rfl), by repeat (first | (with_reducible first | exact HB.out | apply bAA | apply bNN | apply bDD) | exact HB.out)⟩
       ·rw [if_neg c9] at H
        exact absurd H (by simp)
      ·rw [if_neg c8] at H
       have c8b0 := beq_eq_false_iff_ne.mpr c8
       have c8b1 := bne_iff_ne.mpr c8
       simp only [Option.some.injEq, Prod.mk.injEq] at H
       obtain ⟨rfl, rfl, rfl⟩ := H
       have p7 : 0 ≤ (0 : Int) := (by omega)
       have q7 : 0 < a0.size := (by have : (0 : Int) < (a0.size : Int) := of_decide_eq_true (by first | (with_reducible assumption) | assumption); omega)
       have hx7 : ∀ h : 0 < a0.size, ((a0[0]'h).toNat : Int) = bt a0 0 := bt_at a0 0
       clear p7
       have qi7 : (0 < (a0.size : Int)) = True := eq_true (of_decide_eq_true (by first | (with_reducible assumption) | assumption))
       replace q7 := eq_true q7
       go_enter Tryz.func18, Tryz.ntmps18
       go_wp2
       repeat (go_quiet (fail); try go_wp2)
       go_ret3
       exact ⟨by first | rfl | (simp [eNN, eSS] <;> rfl) | (simp [*, eNN, eSS] <;> rfl), by repeat (first | (with_reducible first | exact HB.out | apply bAA | apply bNN | apply bDD) | exact HB.out)⟩
     ·rw [if_neg c6] at H
      exact absurd H (by simp)
def lex_letter.j0 : Nat → Int → Bool → Option (Bool)
 | 0, _, _ => none
 | k + 1, x0, x3 => if x3 = true then (some true) else (if x0 ≥ 65 then (if x0 ≤ 90 then (some true) else (if x0 = 95 then (some true) else (if x0 = 46 then (some true) else (some (x0 == 36))))) else (if x0 = 95 then (some true) else (if x0 = 46 then (some true) else (some (x0 == 36)))))
def lex_letter.f (k : Nat) (a0 : Int) : Option (Bool) := if a0 ≥ 97 then (lex_letter.j0 k a0 (decide (a0 ≤ 122))) else (lex_letter.j0 k a0 false)
theorem lex_letter.mono_l : ∀ k, (∀ y0 y1, LeO (lex_letter.j0 k y0 y1) (lex_letter.j0 (k + 1) y0 y1))
 | 0 => fun _ _ r h => by simp [lex_letter.j0] at h
 | k + 1 => by
  have ih0 := lex_letter.mono_l k
  ·intro y0 y1
   unfold lex_letter.j0
   repeat' first
   | (with_reducible exact ih0 _ _)
   | (with_reducible exact LeO.refl _)
   | (with_reducible exact LeO.none _)
   | (with_reducible refine LeO.ite ?_ ?_)
   | (with_reducible refine LeO.bind ?_ (fun _ => ?_))
theorem lex_letter.mono : ∀ a0 k, LeO (lex_letter.f k a0) (lex_letter.f (k + 1) a0) := by
 intro a0 k
 have ih0 := lex_letter.mono_l k
 unfold lex_letter.f
 repeat' first
  | (with_reducible exact ih0 _ _)
  | (with_reducible exact LeO.refl _)
  | (with_reducible exact LeO.none _)
  | (with_reducible refine LeO.ite ?_ ?_)
  | (with_reducible refine LeO.bind ?_ (fun _ => ?_))
set_option maxHeartbeats 8000000 in
set_option maxRecDepth 100000 in
theorem lex_letter.calls (k : Nat) (a0 : Int) (r : Bool) (w : World) (h : lex_letter.f k a0 = some r) :
 Calls Tryz.prog 30 #[.int .i64 a0] w fun e w' => e = .returned (.bool r) ∧ Drawn0 w w' := by
 have H : (if a0 ≥ 97 then (lex_letter.j0 k a0 (decide (a0 ≤ 122))) else (lex_letter.j0 k a0 false)) = some r := h
 clear h
 have HC2 := Azz.mk H
 clear H
 go_enter Tryz.func30, Tryz.ntmps30
 go_upto_region 1 with (fail)
 go_cut [3] (fun v3 wc => ∃ (kq : Nat) (x3_1 : Bool), v3 = .bool x3_1 ∧ Azz (lex_letter.j0 kq a0 x3_1 = some r) ∧ Azz (kq ≤ k) ∧ Drawn0 w wc)
 case first =>
  have H := HC2.out
  clear HC2
  by_cases c3 : a0 ≥ 97
  ·rw [if_pos c3] at H
   have c3b0 := decide_eq_true c3
   clear c3
   (first | rw [c3b0] | (simp only [i64_w, i32_w]; rw [c3b0]) | skip)
   have H' := Azz.mk H
   clear H
   go_wp2
   go_meet
   case rel => exact ⟨_, (decide (a0 ≤ 122)), (by first | rfl | (simp; done) | (simp [*]; done)), H', ⟨by first | omega | exact Nat.le_refl _⟩, by repeat (first | exact Drawn0.refl _ | apply Drawn0.step)⟩
  ·rw [if_neg c3] at H
   have c3b0 := decide_eq_false c3
   clear c3
   (first | rw [c3b0] | (simp only [i64_w, i32_w]; rw [c3b0]) | skip)
   have H' := Azz.mk H
   clear H
   go_wp2
   go_meet
   case rel => exact ⟨_, (false), (by first | rfl | (simp; done) | (simp [*]; done)), H', ⟨by first | omega | exact Nat.le_refl _⟩, by repeat (first | exact Drawn0.refl _ | apply Drawn0.step)⟩
 case rest =>
  clear HC2
  try clear p2
  try clear c3
  try clear c3b0
  obtain ⟨kq, x3_1, rfl, HA, HJ1, ⟨mc1, rfl⟩⟩ := hcut
  cases kq with
  | zero => exact absurd HA.out (by simp [lex_letter.j0])
  | succ kj1 =>
   have H := HA.out
   clear HA
   simp only [lex_letter.j0] at H
   by_cases c4 : x3_1 = true
   ·subst c4
    rw [if_pos rfl] at H
    obtain rfl := Option.some.inj H
    go_wp2
    go_ret
    exact ⟨by first | rfl | (simp; done) | (simp [*]; done), by repeat (first | exact Drawn0.refl _ | apply Drawn0.step)⟩
   ·replace c4 := Bool.eq_false_iff.mpr c4
    subst c4
    rw [if_neg (show ¬ (false = true) by decide)] at H
    by_cases c5 : a0 ≥ 65
    ·rw [if_pos c5] at H
     have c5b0 := decide_eq_true c5
     clear c5
     by_cases c6 : a0 ≤ 90
     ·rw [if_pos c6] at H
      have c6b0 := decide_eq_true c6
      clear c6
      obtain rfl := Option.some.inj H
      go_wp2
      go_ret
      exact ⟨by first | rfl | (simp; done) | (simp [*]; done), by repeat (first | exact Drawn0.refl _ | apply Drawn0.step)⟩
     ·rw [if_neg c6] at H
      have c6b0 := decide_eq_false c6
      clear c6
      by_cases c7 : a0 = 95
      ·rw [if_pos c7] at H
       have c7b0 := beq_iff_eq.mpr c7
       have c7b1 := bne_eq_false_iff_eq.mpr c7
       clear c7
       obtain rfl := Option.some.inj H
       go_wp2
       go_ret
       exact ⟨by first | rfl | (simp; done) | (simp [*]; done), by repeat (first | exact Drawn0.refl _ | apply Drawn0.step)⟩
      ·rw [if_neg c7] at H
       have c7b0 := beq_eq_false_iff_ne.mpr c7
       have c7b1 := bne_iff_ne.mpr c7
       by_cases c8 : a0 = 46
       ·rw [if_pos c8] at H
        have c8b0 := beq_iff_eq.mpr c8
        have c8b1 := bne_eq_false_iff_eq.mpr c8
        clear c8
        obtain rfl := Option.some.inj H
        go_wp2
        go_ret
        exact ⟨by first | rfl | (simp; done) | (simp [*]; done), by repeat (first | exact Drawn0.refl _ | apply Drawn0.step)⟩
       ·rw [if_neg c8] at H
        have c8b0 := beq_eq_false_iff_ne.mpr c8
        have c8b1 := bne_iff_ne.mpr c8
        obtain rfl := Option.some.inj H
        go_wp2
        go_ret
        exact ⟨by first | rfl | (simp; done) | (simp [*]; done), by repeat (first | exact Drawn0.refl _ | apply Drawn0.step)⟩
    ·rw [if_neg c5] at H
     have c5b0 := decide_eq_false c5
     clear c5
     by_cases c9 : a0 = 95
     ·rw [if_pos c9] at H
      have c9b0 := beq_iff_eq.mpr c9
      have c9b1 := bne_eq_false_iff_eq.mpr c9
      clear c9
      obtain rfl := Option.some.inj H
      go_wp2
      go_ret
      exact ⟨by first | rfl | (simp; done) | (simp [*]; done), by repeat (first | exact Drawn0.refl _ | apply Drawn0.step)⟩
     ·rw [if_neg c9] at H
      have c9b0 := beq_eq_false_iff_ne.mpr c9
      have c9b1 := bne_iff_ne.mpr c9
      by_cases c10 : a0 = 46
      ·rw [if_pos c10] at H
       have c10b0 := beq_iff_eq.mpr c10
       have c10b1 := bne_eq_false_iff_eq.mpr c10
       clear c10
       obtain rfl := Option.some.inj H
       go_wp2
       go_ret
       exact ⟨by first | rfl | (simp; done) | (simp [*]; done), by repeat (first | exact Drawn0.refl _ | apply Drawn0.step)⟩
      ·rw [if_neg c10] at H
       have c10b0 := beq_eq_false_iff_ne.mpr c10
       have c10b1 := bne_iff_ne.mpr c10
       obtain rfl := Option.some.inj H
       go_wp2
       go_ret
       exact ⟨by first | rfl | (simp; done) | (simp [*]; done), by repeat (first | exact Drawn0.refl _ | apply Drawn0.step)⟩
def lex_digit.f (a0 : Int) : Option (Bool) := if a0 ≥ 48 then (some (decide (a0 ≤ 57))) else (some false)
set_option maxHeartbeats 8000000 in
set_option maxRecDepth 100000 in
theorem lex_digit.calls (a0 : Int) (r : Bool) (w : World) (h : lex_digit.f a0 = some r) :
 Calls Tryz.prog 31 #[.int .i64 a0] w fun e w' => e = .returned (.bool r) ∧ Drawn0 w w' := by
 have H : (if a0 ≥ 48 then (some (decide (a0 ≤ 57))) else (some false)) = some r := h
 clear h
 by_cases c2 : a0 ≥ 48
 ·rw [if_pos c2] at H
  have c2b0 := decide_eq_true c2
  clear c2
  obtain rfl := Option.some.inj H
  go_enter Tryz.func31, Tryz.ntmps31
  go_wp2
  go_ret
  exact ⟨by first | rfl | (simp; done) | (simp [*]; done), by repeat (first | exact Drawn0.refl _ | apply Drawn0.step)⟩
 ·rw [if_neg c2] at H
  have c2b0 := decide_eq_false c2
  clear c2
  obtain rfl := Option.some.inj H
  go_enter Tryz.func31, Tryz.ntmps31
  go_wp2
  go_ret
  exact ⟨by first | rfl | (simp; done) | (simp [*]; done), by repeat (first | exact Drawn0.refl _ | apply Drawn0.step)⟩
def lex_IsWord.l0 : Nat → ByteArray → Nat → Option Bool
 | 0, _, _ => none
 | k + 1, s, i => if i < s.size then (if bt s (i : Int) < 128 then ((lex_letter.f k (bt s (i : Int))).bind fun t => if t = true then lex_IsWord.l0 k s (i + 1) else (if i = 0 then some false else (lex_digit.f (bt s (i : Int))).bind fun u => if u = true then lex_IsWord.l0 k s (i + 1) else some false)) else some false) else some true
def lex_IsWord.f (k : Nat) (a0 : ByteArray) : Option Bool := if a0.size = 0 then some false else (if (a0.size : Int) > 31 then some false else lex_IsWord.l0 k a0 0)
theorem lex_IsWord.mono_l : ∀ k s i, LeO (lex_IsWord.l0 k s i) (lex_IsWord.l0 (k + 1) s i)
 | 0, s, i => fun r h => by simp [lex_IsWord.l0] at h
 | k + 1, s, i => by
  have ih := lex_IsWord.mono_l k
  rw [lex_IsWord.l0, lex_IsWord.l0.eq_2 s i (k + 1)]
  refine LeO.ite (LeO.ite (LeO.bind (lex_letter.mono _ k) fun t => LeO.ite (ih _ _) (LeO.ite (LeO.refl _) (LeO.bind (LeO.refl _) fun u => LeO.ite (ih _ _) (LeO.refl _)))) (LeO.refl _)) (LeO.refl _)
theorem lex_IsWord.mono : ∀ a0 k, LeO (lex_IsWord.f k a0) (lex_IsWord.f (k + 1) a0) := by
 intro a0 k
 unfold lex_IsWord.f
 exact LeO.ite (LeO.refl _) (LeO.ite (LeO.refl _) (lex_IsWord.mono_l k _ _))
theorem lex_letter.high (r : Int) (h : 128 ≤ r) : lex_letter.f 9 r = some false := by
 unfold lex_letter.f
 rw [if_pos (by omega), decide_eq_false (by omega : ¬ r ≤ 122), lex_letter.j0, if_neg (by decide), if_pos (by omega), if_neg (by omega), if_neg (by omega), if_neg (by omega), beq_eq_false_iff_ne.mpr (by omega)]
theorem lex_digit.high (r : Int) (h : 128 ≤ r) : lex_digit.f r = some false := by
 unfold lex_digit.f
 rw [if_pos (by omega), decide_eq_false (by omega : ¬ r ≤ 57)]
theorem lex_IsWord.iter_drewN (w : World) (s : ByteArray) (p m n : Nat) : ((w.drewN m).iter s p).drewN n = (w.drewN (m + n)).iter s p := by
 rw [← World.drewN_drewN]
 rfl
theorem lex_IsWord.iter_below (w : World) (s : ByteArray) (p m : Nat) : Below w.heap.size w ((w.drewN m).iter s p) := by
 unfold World.iter
 repeat (first | exact Below.refl _ _ | apply bAA | apply bNN | apply bDD)
set_option maxRecDepth 100000 in
theorem lex_IsWord.calls (k : Nat) (a0 : ByteArray) (r : Bool) (w : World) (h : lex_IsWord.f k a0 = some r) :
 Calls Tryz.prog 19 #[.string a0] w fun e w' => e = .returned (.bool r) ∧ Below w.heap.size w w' := by
 unfold lex_IsWord.f at h
 by_cases h0 : a0.size = 0
 ·rw [if_pos h0] at h
  obtain rfl := Option.some.inj h
  obtain rfl : a0 = ⟨#[]⟩ := by
   cases a0
   rename_i d
   have : d = #[] := Array.eq_empty_of_size_eq_zero h0
   rw [this]
  clear h
  go_enter Tryz.func19, Tryz.ntmps19
  go_wp2
  go_ret
  exact ⟨rfl, by repeat (first | exact Below.refl _ _ | apply bAA | apply bNN | apply bDD)⟩
 ·rw [if_neg h0] at h
  have n0 : (a0.toList == ([] : List UInt8)) = false := by
   rw [Go.Lib.toList_data]
   have : a0.data.toList.length = a0.size := by rw [Array.length_toList]; rfl
   cases hd : a0.data.toList with
   | nil => rw [hd] at this; exact absurd this.symm h0
   | cons x l => rfl
  by_cases h1 : (a0.size : Int) > 31
  ·rw [if_pos h1] at h
   obtain rfl := Option.some.inj h
   have b1 : decide ((31 : Int) < (a0.size : Int)) = true := decide_eq_true h1
   clear h h0 h1
   go_enter Tryz.func19, Tryz.ntmps19
   go_wp2
   go_ret
   exact ⟨rfl, by repeat (first | exact Below.refl _ _ | apply bAA | apply bNN | apply bDD)⟩
  ·rw [if_neg h1] at h
   have b1 : decide ((31 : Int) < (a0.size : Int)) = false := decide_eq_false h1
   have H' := Azz.mk h
   have K1 := Azz.mk h1
   clear h h0 h1
   go_enter Tryz.func19, Tryz.ntmps19
   go_wp2
   go_loopg [3] k (fun kq v3 w' => ∃ (m pos : Nat), Azz (lex_IsWord.l0 kq a0 pos = some r) ∧ Azz (kq ≤ k) ∧ w' = (w.drewN m).iter a0 pos)
   case atStart => exact ⟨0, 0, H', ⟨Nat.le_refl _⟩, rfl⟩
   case round =>
    clear H' n0 b1
    obtain ⟨m, pos, HA, HK, rfl⟩ := hrel
    cases gk with
    | zero => exact absurd HA.out (by simp [lex_IsWord.l0])
    | succ k1 =>
     have H := HA.out
     clear HA
     rw [lex_IsWord.l0] at H
     by_cases hp : pos < a0.size
     ·rw [if_pos hp] at H
      have ebt : bt a0 (pos : Int) = ((a0[pos]'hp).toNat : Int) := by
       unfold bt
       rw [dif_pos (by rw [Int.toNat_natCast]; exact hp)]
       rfl
      by_cases ha : bt a0 (pos : Int) < 128
      ·rw [if_pos ha] at H
       have ha2 : (a0[pos]'hp).toNat < 128 := by rw [ebt] at ha; omega
       have hnx : ∀ ty, (Instr.next (.pointer (some ⟨w.heap.size, 0, none⟩)) true ty).run Tryz.prog ((w.drewN m).iter a0 pos) = .ok (.tuple #[.bool true, .int .i64 pos, .int .i32 (bt a0 (pos : Int))]) ((w.drewN m).iter a0 (pos + 1)) := by
        intro ty
        rw [ebt]
        exact run_next_ascii (P := Tryz.prog) (w.drewN m) a0 pos ty hp ha2
       have cb : 0 ≤ bt a0 (pos : Int) := by rw [ebt]; omega
       generalize bt a0 (pos : Int) = c at ha cb hnx H
       clear ebt ha2
       have e1 : IntKind.i64.wrap c = c := by rw [i64_w]; unfold wrap64; omega
       cases ht : lex_letter.f k1 c with
       | none => rw [ht] at H; exact absurd H (by simp)
       | some t =>
        rw [ht, Option.bind_some] at H
        have arm := Azz.mk (fun W => lex_letter.calls k1 c t W ht)
        clear ht
        cases t with
        | true =>
         rw [if_pos rfl] at H
         have H' := Azz.mk H
         clear H
         go_wp2_with (first | (go_at_call 30; (try rw [e1]); (with_reducible refine (arm.out _).mono ?_); rintro e w' ⟨rfl, ⟨nd, rfl⟩⟩))
         go_roundg k1
         case measure => have := HK.out; omega
         case rel => exact ⟨_, pos + 1, H', ⟨by have := HK.out; omega⟩, lex_IsWord.iter_drewN ..⟩
        | false =>
         rw [if_neg (by decide)] at H
         by_cases hz : pos = 0
         ·rw [if_pos hz] at H
          obtain rfl := Option.some.inj H
          subst hz
          go_wp2_with (first | (go_at_call 30; (try rw [e1]); (with_reducible refine (arm.out _).mono ?_); rintro e w' ⟨rfl, ⟨nd, rfl⟩⟩))
          go_ret
          exact ⟨rfl, by rw [lex_IsWord.iter_drewN]; exact lex_IsWord.iter_below ..⟩
         ·rw [if_neg hz] at H
          have bz : (((pos : Nat) : Int) == 0) = false := beq_eq_false_iff_ne.mpr (by omega)
          cases hu : lex_digit.f c with
          | none => rw [hu] at H; exact absurd H (by simp)
          | some u =>
           rw [hu, Option.bind_some] at H
           have arm2 := Azz.mk (fun W => lex_digit.calls c u W hu)
           clear hu hz
           cases u with
           | true =>
            rw [if_pos rfl] at H
            have H' := Azz.mk H
            clear H
            go_wp2_with (first | (go_at_call 30; (try rw [e1]); (with_reducible refine (arm.out _).mono ?_); rintro e w' ⟨rfl, ⟨nd, rfl⟩⟩) | (go_at_call 31; (try rw [e1]); (with_reducible refine (arm2.out _).mono ?_); rintro e w' ⟨rfl, ⟨nd2, rfl⟩⟩))
            go_roundg k1
            case measure => have := HK.out; omega
            case rel => exact ⟨_, pos + 1, H', ⟨by have := HK.out; omega⟩, lex_IsWord.iter_drewN ..⟩
           | false =>
            rw [if_neg (by decide)] at H
            obtain rfl := Option.some.inj H
            go_wp2_with (first | (go_at_call 30; (try rw [e1]); (with_reducible refine (arm.out _).mono ?_); rintro e w' ⟨rfl, ⟨nd, rfl⟩⟩) | (go_at_call 31; (try rw [e1]); (with_reducible refine (arm2.out _).mono ?_); rintro e w' ⟨rfl, ⟨nd2, rfl⟩⟩))
            go_ret
            exact ⟨rfl, by rw [lex_IsWord.iter_drewN]; exact lex_IsWord.iter_below ..⟩
      ·rw [if_neg ha] at H
       obtain rfl := Option.some.inj H
       obtain ⟨hd, _⟩ := decode_high a0 pos hp (by rw [ebt] at ha; omega)
       have hnx := fun ty => run_next_any (P := Tryz.prog) (w.drewN m) a0 pos ty hp
       have hl := decode_le a0 pos
       generalize (Utf8.decode a0 pos).2 = q at hnx
       generalize (Utf8.decode a0 pos).1 = c at hd hl hnx
       replace hnx : ∀ ty, (Instr.next (.pointer (some ⟨w.heap.size, 0, none⟩)) true ty).run Tryz.prog ((w.drewN m).iter a0 pos) = .ok (.tuple #[.bool true, .int .i64 pos, .int .i32 ((c : Nat) : Int)]) ((w.drewN m).iter a0 (pos + q)) := hnx
       have e1 : IntKind.i64.wrap ((c : Nat) : Int) = ((c : Nat) : Int) := by rw [i64_w]; unfold wrap64; omega
       have arm := Azz.mk (fun W => lex_letter.calls 9 ((c : Nat) : Int) false W (lex_letter.high _ (by omega)))
       have arm2 := Azz.mk (fun W => lex_digit.calls ((c : Nat) : Int) false W (lex_digit.high _ (by omega)))
       clear ebt ha
       by_cases hz : pos = 0
       ·subst hz
        go_wp2_with (first | (go_at_call 30; (try rw [e1]); (with_reducible refine (arm.out _).mono ?_); rintro e w' ⟨rfl, ⟨nd, rfl⟩⟩))
        go_ret
        exact ⟨rfl, by rw [lex_IsWord.iter_drewN]; exact lex_IsWord.iter_below ..⟩
       ·have bz : (((pos : Nat) : Int) == 0) = false := beq_eq_false_iff_ne.mpr (by omega)
        clear hz
        go_wp2_with (first | (go_at_call 30; (try rw [e1]); (with_reducible refine (arm.out _).mono ?_); rintro e w' ⟨rfl, ⟨nd, rfl⟩⟩) | (go_at_call 31; (try rw [e1]); (with_reducible refine (arm2.out _).mono ?_); rintro e w' ⟨rfl, ⟨nd2, rfl⟩⟩))
        go_ret
        exact ⟨rfl, by rw [lex_IsWord.iter_drewN]; exact lex_IsWord.iter_below ..⟩
     ·rw [if_neg hp] at H
      obtain rfl := Option.some.inj H
      have hnx : ∀ ty, (Instr.next (.pointer (some ⟨w.heap.size, 0, none⟩)) true ty).run Tryz.prog ((w.drewN m).iter a0 pos) = .ok (.tuple #[.bool false]) ((w.drewN m).iter a0 pos) := fun ty => run_next_end (P := Tryz.prog) (w.drewN m) a0 pos ty hp
      clear hp
      go_wp2
      go_ret
      exact ⟨rfl, lex_IsWord.iter_below ..⟩
end Go.Proofs.YtpcdebakiccecaaGreatDoor.P
