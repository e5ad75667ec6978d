/- Walks and plain laws of this claim, a part. -/
import Derived.Test.YtngmipfodjgmmaaDoorFr30
namespace Go.Proofs.YtngmipfodjgmmaaDoor.P
open Go.RowKit Go.Proofs.YtngmipfodjgmmaaDoorW.PrintWords Go.Proofs.YtngmipfodjgmmaaDoorW.PrintLast Go.Proofs.YtngmipfodjgmmaaDoorW.PrintMore
attribute [local go_sem] max2_int min2_int max_two min_two max_three min_three max_four min_four   -- for this text's walks alone
set_option linter.unusedVariables false
set_option linter.unusedSimpArgs false
def code_masked.f (k : Nat) (a0 : Int) : Option (Int) := (code_part.f a0 22 1).bind fun t142 => ((code_part.f a0 16 6).bind fun t143 => ((code_part.f a0 10 6).bind fun t144 => ((mask_Decode.f k t142 t143 t144).bind fun bt145 => (if bt145.2 = 0 then (some bt145.1) else (none)))))
theorem code_masked.mono : ∀ a0 k, LeO (code_masked.f k a0) (code_masked.f (k + 1) a0) := by
 intro a0 k
 unfold code_masked.f
 repeat' first
  | (with_reducible exact mask_Decode.mono _ _ _ _)
  | (with_reducible exact LeO.refl _)
  | (with_reducible exact LeO.none _)
  | (with_reducible refine LeO.ite ?_ ?_)
  | (with_reducible refine LeO.bind ?_ (fun _ => ?_))
set_option maxHeartbeats 8000000 in
set_option maxRecDepth 100000 in
theorem code_masked.calls (k : Nat) (a0 : Int) (r : Int) (w : World) (h : code_masked.f k a0 = some r) :
 Calls Tryd.prog 86 #[.int .u32 a0] w fun e w' => e = .returned (.int .u64 r) ∧ Below w.heap.size w w' := by
 have HB := Azz.mk (Below.refl w.heap.size w)
 have H : ((code_part.f a0 22 1).bind fun t142 => ((code_part.f a0 16 6).bind fun t143 => ((code_part.f a0 10 6).bind fun t144 => ((mask_Decode.f k t142 t143 t144).bind fun bt145 => (if bt145.2 = 0 then (some bt145.1) else (none)))))) = some r := h
 clear h
 replace H := Option.bind_eq_some_iff.mp H
 obtain ⟨t142, A20, H⟩ := H
 (try dsimp only at H)
 have A2 := Azz.mk A20
 clear A20
 replace H := Option.bind_eq_some_iff.mp H
 obtain ⟨t143, A30, H⟩ := H
 (try dsimp only at H)
 have A3 := Azz.mk A30
 clear A30
 replace H := Option.bind_eq_some_iff.mp H
 obtain ⟨t144, A40, H⟩ := H
 (try dsimp only at H)
 have A4 := Azz.mk A40
 clear A40
 replace H := Option.bind_eq_some_iff.mp H
 obtain ⟨⟨t145, t146⟩, A50, H⟩ := H
 (try dsimp only at H)
 have A5 := Azz.mk A50
 clear A50
 by_cases c6 : t146 = 0
 ·rw [if_pos c6] at H
  have c6b0 := beq_iff_eq.mpr c6
  have c6b1 := bne_eq_false_iff_eq.mpr c6
  clear c6
  obtain rfl := Option.some.inj H
  go_enter Tryd.func86, Tryd.ntmps86
  go_wp2_with (first | ((with_reducible refine gate_callee (f := 84) rfl ?_); refine goesL_ (some 7) rfl rfl Tryd.func84 (by kernel_rfl) rfl #[.int .u32 a0, .int .i64 22, .int .i64 1] rfl (by (try simp only [List.map_toArray, List.map_cons, List.map_nil]); first | done | rfl | (simp only [List.length_drop, List.length_take]; rfl)) ?_; (with_reducible refine (code_part.calls a0 22 1 t142 _ A2.out).mono ?_); rintro e w' ⟨rfl, ⟨nd, rfl⟩⟩; refine ⟨_, rfl, ?_⟩) | ((with_reducible refine gate_callee (f := 84) rfl ?_); refine goesL_ (some 9) rfl rfl Tryd.func84 (by kernel_rfl) rfl #[.int .u32 a0, .int .i64 16, .int .i64 6] rfl (by (try simp only [List.map_toArray, List.map_cons, List.map_nil]); first | done | rfl | (simp only [List.length_drop, List.length_take]; rfl)) ?_; (with_reducible refine (code_part.calls a0 16 6 t143 _ A3.out).mono ?_); rintro e w' ⟨rfl, ⟨nd, rfl⟩⟩; refine ⟨_, rfl, ?_⟩) | ((with_reducible refine gate_callee (f := 84) rfl ?_); refine goesL_ (some 11) rfl rfl Tryd.func84 (by kernel_rfl) rfl #[.int .u32 a0, .int .i64 10, .int .i64 6] rfl (by (try simp only [List.map_toArray, List.map_cons, List.map_nil]); first | done | rfl | (simp only [List.length_drop, List.length_take]; rfl)) ?_; (with_reducible refine (code_part.calls a0 10 6 t144 _ A4.out).mono ?_); rintro e w' ⟨rfl, ⟨nd, rfl⟩⟩; refine ⟨_, rfl, ?_⟩) | ((with_reducible refine gate_callee (f := 102) rfl ?_); refine goesL_ (some 12) rfl rfl Tryd.func102 (by kernel_rfl) rfl #[.int .i64 t142, .int .i64 t143, .int .i64 t144] rfl (by (try simp only [List.map_toArray, List.map_cons, List.map_nil]); first | done | rfl | (simp only [List.length_drop, List.length_take]; rfl)) ?_; (with_reducible refine (mask_Decode.calls k t142 t143 t144 t145 t146 _ A5.out).mono ?_); rintro e w7 ⟨rfl, hb⟩; refine ⟨_, rfl, ?_⟩; have n0_ := Azz.mk (bTT (by with_reducible repeat first | exact HB.out | apply bAA | apply bNN | apply bDD) hb); clear HB; have HB := n0_; clear n0_; (try clear hb); (try clear hb2); (try clear hk); (try clear hi)))
  go_ret
  exact ⟨by first | rfl | (simp [eNN, eSS] <;> rfl) | (simp [*, eNN, eSS] <;> rfl), by repeat (first | (with_reducible first | exact HB.out | apply bAA | apply bNN | apply bDD) | exact HB.out)⟩
 ·rw [if_neg c6] at H
  exact absurd H (by simp)
def bits_Signed.j0 : Nat → Int → Int → Bool → Option (Int × Int)
 | 0, _, _, _ => none
 | k + 1, x0, x1, x12 => if x12 = true then (some (0, 1)) else (if 0 ≤ x1 then (if (shr .u32 x0 x1) = 0 then (if 0 ≤ (wrap64 (x1 - 1)) then (if (shr .u32 x0 (wrap64 (x1 - 1))) = 1 then (some (wrap64 ((wrap64 (x0)) - (shl .i64 1 x1)), 0)) else (some (wrap64 (x0), 0))) else (none)) else (some (0, 4))) else (none))
def bits_Signed.f (k : Nat) (a0 : Int) (a1 : Int) : Option (Int × Int) := if a1 < 1 then (bits_Signed.j0 k a0 a1 true) else (bits_Signed.j0 k a0 a1 (decide (a1 > 32)))
set_option maxHeartbeats 8000000 in
set_option maxRecDepth 100000 in
theorem bits_Signed.calls (k : Nat) (a0 : Int) (a1 : Int) (r1 : Int) (r2 : Int) (w : World) (h : bits_Signed.f k a0 a1 = some (r1, r2)) :
 Calls Tryd.prog 88 #[.int .u32 a0, .int .i64 a1] w fun e w' => e = .returned (.tuple #[.int .i64 r1, .int .i64 r2]) ∧ Drawn0 w w' := by
 have H : (if a1 < 1 then (bits_Signed.j0 k a0 a1 true) else (bits_Signed.j0 k a0 a1 (decide (a1 > 32)))) = some (r1, r2) := h
 clear h
 have HC3 := Azz.mk H
 clear H
 go_enter Tryd.func88, Tryd.ntmps88
 go_upto_region 1 with (fail)
 go_cut [12] (fun v12 wc => ∃ (kq : Nat) (x12_2 : Bool), v12 = .bool x12_2 ∧ Azz (bits_Signed.j0 kq a0 a1 x12_2 = some (r1, r2)) ∧ Azz (kq ≤ k) ∧ Drawn0 w wc)
 case first =>
  have H := HC3.out
  clear HC3
  by_cases c4 : a1 < 1
  ·rw [if_pos c4] at H
   have c4b0 := decide_eq_true c4
   clear c4
   (first | rw [c4b0] | (simp only [i64_w, i32_w]; rw [c4b0]) | skip)
   have H' := Azz.mk H
   clear H
   go_wp2
   go_meet
   case rel => exact ⟨_, (true), (by first | rfl | (simp; done) | (simp [*]; done)), H', ⟨by first | omega | exact Nat.le_refl _⟩, by repeat (first | exact Drawn0.refl _ | apply Drawn0.step)⟩
  ·rw [if_neg c4] at H
   have c4b0 := decide_eq_false c4
   clear c4
   (first | rw [c4b0] | (simp only [i64_w, i32_w]; rw [c4b0]) | skip)
   have H' := Azz.mk H
   clear H
   go_wp2
   go_meet
   case rel => exact ⟨_, (decide (a1 > 32)), (by first | rfl | (simp; done) | (simp [*]; done)), H', ⟨by first | omega | exact Nat.le_refl _⟩, by repeat (first | exact Drawn0.refl _ | apply Drawn0.step)⟩
 case rest =>
  clear HC3
  try clear p2
  try clear c4
  try clear c4b0
  obtain ⟨kq, x12_2, rfl, HA, HJ2, ⟨mc2, rfl⟩⟩ := hcut
  cases kq with
  | zero => exact absurd HA.out (by simp [bits_Signed.j0])
  | succ kj2 =>
   have H := HA.out
   clear HA
   simp only [bits_Signed.j0] at H
   by_cases c5 : x12_2 = true
   ·subst c5
    rw [if_pos rfl] at H
    simp only [Option.some.injEq, Prod.mk.injEq] at H
    obtain ⟨rfl, rfl⟩ := H
    go_wp2
    go_ret2
    exact ⟨by first | rfl | (simp; done) | (simp [*]; done), by repeat (first | exact Drawn0.refl _ | apply Drawn0.step)⟩
   ·replace c5 := Bool.eq_false_iff.mpr c5
    subst c5
    rw [if_neg (show ¬ (false = true) by decide)] at H
    by_cases c6 : 0 ≤ a1
    ·rw [if_pos c6] at H
     have c6b0 := eq_true c6
     have c6b1 := decide_eq_true c6
     clear c6
     obtain ⟨ji7, hji7⟩ : ∃ j_ : Int, (shr .u32 a0 a1) = j_ := ⟨_, rfl⟩
     replace H : (if (ji7) = 0 then (if 0 ≤ (wrap64 (a1 - 1)) then (if (shr .u32 a0 (wrap64 (a1 - 1))) = 1 then (some (wrap64 ((wrap64 (a0)) - (shl .i64 1 a1)), 0)) else (some (wrap64 (a0), 0))) else (none)) else (some (0, 4))) = some (r1, r2) := by first | (rw [hji7] at H; exact H) | (simp only [hji7] at H ⊢; exact H)
     have hji7_ : (a0 / 2 ^ min a1.toNat 32) = ji7 := hji7
     have hji7z : a1 ≤ 32 → (a0 / 2 ^ a1.toNat) = ji7 := shr_small hji7
     by_cases c8 : (ji7) = 0
     ·rw [if_pos c8] at H
      have c8b0 := beq_iff_eq.mpr c8
      have c8b1 := bne_eq_false_iff_eq.mpr c8
      clear c8
      obtain ⟨ji9, hji9⟩ : ∃ j_ : Int, (wrap64 (a1 - 1)) = j_ := ⟨_, rfl⟩
      replace H : (if 0 ≤ (ji9) then (if (shr .u32 a0 (ji9)) = 1 then (some (wrap64 ((wrap64 (a0)) - (shl .i64 1 a1)), 0)) else (some (wrap64 (a0), 0))) else (none)) = some (r1, r2) := by first | (rw [hji9] at H; exact H) | (simp only [hji9] at H ⊢; exact H)
      have hji9w : (IntKind.i64.wrap (a1 - 1)) = ji9 := (i64_w _).trans hji9
      by_cases c10 : 0 ≤ (ji9)
      ·rw [if_pos c10] at H
       have c10b0 := eq_true c10
       have c10b1 := decide_eq_true c10
       clear c10
       obtain ⟨ji11, hji11⟩ : ∃ j_ : Int, (shr .u32 a0 (ji9)) = j_ := ⟨_, rfl⟩
       replace H : (if (ji11) = 1 then (some (wrap64 ((wrap64 (a0)) - (shl .i64 1 a1)), 0)) else (some (wrap64 (a0), 0))) = some (r1, r2) := by first | (rw [hji11] at H; exact H) | (simp only [hji11] at H ⊢; exact H)
       have hji11_ : (a0 / 2 ^ min (ji9).toNat 32) = ji11 := hji11
       have hji11z : (ji9) ≤ 32 → (a0 / 2 ^ (ji9).toNat) = ji11 := shr_small hji11
       by_cases c12 : (ji11) = 1
       ·rw [if_pos c12] at H
        have c12b0 := beq_iff_eq.mpr c12
        have c12b1 := bne_eq_false_iff_eq.mpr c12
        clear c12
        have c13b0 := eq_true (of_decide_eq_true (by first | (with_reducible assumption) | assumption) : 0 ≤ a1)
        obtain ⟨ji14, hji14⟩ : ∃ j_ : Int, (shl .i64 1 a1) = j_ := ⟨_, rfl⟩
        replace H : (some (wrap64 ((wrap64 (a0)) - (ji14)), 0)) = some (r1, r2) := by first | (rw [hji14] at H; exact H) | (simp only [hji14] at H ⊢; exact H)
        have hji14_ : (IntKind.i64.wrap (1 * 2 ^ min a1.toNat 64)) = ji14 := hji14
        have hji14z : a1 ≤ 64 → (IntKind.i64.wrap (1 * 2 ^ a1.toNat)) = ji14 := shl_small hji14
        have hji14u : (IntKind.i64.wrap (2 ^ min a1.toNat 64)) = ji14 := by have h_ := hji14_; rw [Int.one_mul] at h_; exact h_
        have hji14v : a1 ≤ 64 → (IntKind.i64.wrap (2 ^ a1.toNat)) = ji14 := fun hle_ => by have h_ := hji14z hle_; rw [Int.one_mul] at h_; exact h_
        have hji14y : (wrap64 (1 * 2 ^ min a1.toNat 64)) = ji14 := (i64_w _).symm.trans hji14_
        have hji14x : a1 ≤ 64 → (wrap64 (1 * 2 ^ a1.toNat)) = ji14 := fun h_ => (i64_w _).symm.trans (hji14z h_)
        simp only [Option.some.injEq, Prod.mk.injEq] at H
        obtain ⟨rfl, rfl⟩ := H
        go_wp2
        go_ret2
        exact ⟨by first | rfl | (simp; done) | (simp only [← hji7, ← hji9, ← hji11, ← hji14] <;> (first | rfl | simp)) | (simp [*]; done), by repeat (first | exact Drawn0.refl _ | apply Drawn0.step)⟩
       ·rw [if_neg c12] at H
        have c12b0 := beq_eq_false_iff_ne.mpr c12
        have c12b1 := bne_iff_ne.mpr c12
        simp only [Option.some.injEq, Prod.mk.injEq] at H
        obtain ⟨rfl, rfl⟩ := H
        go_wp2
        go_ret2
        exact ⟨by first | rfl | (simp; done) | (simp only [← hji7, ← hji9, ← hji11] <;> (first | rfl | simp)) | (simp [*]; done), by repeat (first | exact Drawn0.refl _ | apply Drawn0.step)⟩
      ·rw [if_neg c10] at H
       exact absurd H (by simp)
     ·rw [if_neg c8] at H
      have c8b0 := beq_eq_false_iff_ne.mpr c8
      have c8b1 := bne_iff_ne.mpr c8
      simp only [Option.some.injEq, Prod.mk.injEq] at H
      obtain ⟨rfl, rfl⟩ := H
      go_wp2
      go_ret2
      exact ⟨by first | rfl | (simp; done) | (simp only [← hji7] <;> (first | rfl | simp)) | (simp [*]; done), by repeat (first | exact Drawn0.refl _ | apply Drawn0.step)⟩
    ·rw [if_neg c6] at H
     exact absurd H (by simp)
def code_signed.f (k : Nat) (a0 : Int) (a1 : Int) (a2 : Int) : Option (Int) := (bits_Field.f a0 a1 a2).bind fun bt147 => ((bits_Signed.f k bt147.1 a2).bind fun bt149 => (some bt149.1))
set_option maxHeartbeats 8000000 in
set_option maxRecDepth 100000 in
theorem code_signed.calls (k : Nat) (a0 : Int) (a1 : Int) (a2 : Int) (r : Int) (w : World) (h : code_signed.f k a0 a1 a2 = some r) :
 Calls Tryd.prog 87 #[.int .u32 a0, .int .i64 a1, .int .i64 a2] w fun e w' => e = .returned (.int .i64 r) ∧ Drawn0 w w' := by
 have H : ((bits_Field.f a0 a1 a2).bind fun bt147 => ((bits_Signed.f k bt147.1 a2).bind fun bt149 => (some bt149.1))) = some r := h
 clear h
 replace H := Option.bind_eq_some_iff.mp H
 obtain ⟨⟨t147, t148⟩, A40, H⟩ := H
 (try dsimp only at H)
 have A4 := Azz.mk A40
 clear A40
 replace H := Option.bind_eq_some_iff.mp H
 obtain ⟨⟨t149, t150⟩, A50, H⟩ := H
 (try dsimp only at H)
 have A5 := Azz.mk A50
 clear A50
 obtain rfl := Option.some.inj H
 go_enter Tryd.func87, Tryd.ntmps87
 go_wp2_with (first | ((with_reducible refine gate_callee (f := 101) rfl ?_); refine goesL_ (some 15) rfl rfl Tryd.func101 (by kernel_rfl) rfl #[.int .u32 a0, .int .i64 a1, .int .i64 a2] rfl (by (try simp only [List.map_toArray, List.map_cons, List.map_nil]); first | done | rfl | (simp only [List.length_drop, List.length_take]; rfl)) ?_; (with_reducible refine (bits_Field.calls a0 a1 a2 t147 t148 _ A4.out).mono ?_); rintro e w' ⟨rfl, ⟨nd, rfl⟩⟩; refine ⟨_, rfl, ?_⟩) | ((with_reducible refine gate_callee (f := 88) rfl ?_); refine goesL_ (some 21) rfl rfl Tryd.func88 (by kernel_rfl) rfl #[.int .u32 t147, .int .i64 a2] rfl (by (try simp only [List.map_toArray, List.map_cons, List.map_nil]); first | done | rfl | (simp only [List.length_drop, List.length_take]; rfl)) ?_; (with_reducible refine (bits_Signed.calls k t147 a2 t149 t150 _ A5.out).mono ?_); rintro e w' ⟨rfl, ⟨nd, rfl⟩⟩; refine ⟨_, rfl, ?_⟩))
 go_ret
 exact ⟨by first | rfl | (simp; done) | (simp [*]; done), by repeat (first | exact Drawn0.refl _ | apply Drawn0.step)⟩
end Go.Proofs.YtngmipfodjgmmaaDoor.P
