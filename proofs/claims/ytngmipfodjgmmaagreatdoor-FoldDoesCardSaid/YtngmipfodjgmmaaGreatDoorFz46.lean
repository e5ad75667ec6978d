/- Walks and plain laws of this claim, a part. -/
import Derived.Test.YtngmipfodjgmmaaGreatDoorFz45
set_option maxRecDepth 100000
set_option maxHeartbeats 8000000
set_option linter.unusedVariables false
set_option linter.unusedSimpArgs false
namespace Go.Proofs.YtngmipfodjgmmaaGreatDoor.P
open Go.RowKit Wa Wb Wc
attribute [local go_sem] max2_int min2_int max_two min_two max_three min_three max_four min_four
def cleatref04_Shape.f (a0 : Int) : Option (Int) := (some (([0, 1, 1, 1, 2, 2, 2, 2, 3, 3, 3, 3, 4, 4, 4, 4, 5, 5, 5, 5, 6, 6, 7, 7, 8, 8, 9, 10, 10, 11, 11, 12, 9, 9, 13, 13, 13, 14, 15, 16] : List Int) : List Int)).bind fun y220 => (if a0 < 1 then (some 0) else (if a0 > 39 then (some 0) else (if 0 ≤ a0 then (if a0 < (y220.length : Int) then (some (rd y220 a0)) else (none)) else (none))))
theorem cleatref04_Shape.calls (a0 : Int) (r : Int) (w : World) (h : cleatref04_Shape.f a0 = some r) :
 Calls Tryz.prog 107 #[.int .i64 a0] w fun e w' => e = .returned (.int .i64 r) ∧ Below w.heap.size w w' := by
 have HB := Azz.mk (Below.refl w.heap.size w)
 have H : ((some (([0, 1, 1, 1, 2, 2, 2, 2, 3, 3, 3, 3, 4, 4, 4, 4, 5, 5, 5, 5, 6, 6, 7, 7, 8, 8, 9, 10, 10, 11, 11, 12, 9, 9, 13, 13, 13, 14, 15, 16] : List Int) : List Int)).bind fun y220 => (if a0 < 1 then (some 0) else (if a0 > 39 then (some 0) else (if 0 ≤ a0 then (if a0 < (y220.length : Int) then (some (rd y220 a0)) else (none)) else (none))))) = some r := h
 clear h
 obtain ⟨y220, hy220⟩ : ∃ y_ : List Int, y_ = (([0, 1, 1, 1, 2, 2, 2, 2, 3, 3, 3, 3, 4, 4, 4, 4, 5, 5, 5, 5, 6, 6, 7, 7, 8, 8, 9, 10, 10, 11, 11, 12, 9, 9, 13, 13, 13, 14, 15, 16] : List Int)) := ⟨_, rfl⟩
 replace H : (if a0 < 1 then (some 0) else (if a0 > 39 then (some 0) else (if 0 ≤ a0 then (if a0 < (y220.length : Int) then (some (rd y220 a0)) else (none)) else (none)))) = some r := by first | (rw [hy220]; with_reducible exact H) | (have H2_ := (Option.bind_some _ _).symm.trans H; rw [hy220]; with_reducible exact H2_) | (have H2_ := (Option.bind_some _ _).symm.trans H; with_reducible exact H2_) | with_reducible exact H | (rw [hy220]; exact H) | exact H
 have Ny220 := Azz.mk hy220
 clear hy220
 by_cases c2 : a0 < 1
 ·rw [if_pos c2] at H
  have c2b0 := dT_ c2
  clear c2
  obtain rfl := sI H
  go_enter Tryz.func107, Tryz.ntmps107
  go_wp2_with (first | ((with_reducible refine gate_dst (N := 4) rfl ?_); refine Kd.R_lit (Kd.int .i64) _ 3 ?hg (N := 4) ?hd (xs := ([0, 1, 1, 1, 2, 2, 2, 2, 3, 3, 3, 3, 4, 4, 4, 4, 5, 5, 5, 5, 6, 6, 7, 7, 8, 8, 9, 10, 10, 11, 11, 12, 9, 9, 13, 13, 13, 14, 15, 16] : List Int)) (inner := [.int .i64 0, .int .i64 1, .int .i64 1, .int .i64 1, .int .i64 2, .int .i64 2, .int .i64 2, .int .i64 2, .int .i64 3, .int .i64 3, .int .i64 3, .int .i64 3, .int .i64 4, .int .i64 4, .int .i64 4, .int .i64 4, .int .i64 5, .int .i64 5, .int .i64 5, .int .i64 5, .int .i64 6, .int .i64 6, .int .i64 7, .int .i64 7, .int .i64 8, .int .i64 8, .int .i64 9, .int .i64 10, .int .i64 10, .int .i64 11, .int .i64 11, .int .i64 12, .int .i64 9, .int .i64 9, .int .i64 13, .int .i64 13, .int .i64 13, .int .i64 14, .int .i64 15, .int .i64 16]) (ok := fun _ => True) (okp := fun _ => True) ?hr ?hp (fun _ hk => hk) trivial (Below.refl _ _) (Nat.le_refl _) (by simp) ?_; (case hd => rfl); (case hg => rfl); (case hr => first | (go_simp; done) | (go_simp; rfl)); (case hp => exact (Reps.one (show Kd.M (Kd.int .i64) _ _ _ 0 [.int .i64 0] from rfl) (Reps.one (show Kd.M (Kd.int .i64) _ _ _ 1 [.int .i64 1] from rfl) (Reps.one (show Kd.M (Kd.int .i64) _ _ _ 1 [.int .i64 1] from rfl) (Reps.one (show Kd.M (Kd.int .i64) _ _ _ 1 [.int .i64 1] from rfl) (Reps.one (show Kd.M (Kd.int .i64) _ _ _ 2 [.int .i64 2] from rfl) (Reps.one (show Kd.M (Kd.int .i64) _ _ _ 2 [.int .i64 2] from rfl) (Reps.one (show Kd.M (Kd.int .i64) _ _ _ 2 [.int .i64 2] from rfl) (Reps.one (show Kd.M (Kd.int .i64) _ _ _ 2 [.int .i64 2] from rfl) (Reps.one (show Kd.M (Kd.int .i64) _ _ _ 3 [.int .i64 3] from rfl) (Reps.one (show Kd.M (Kd.int .i64) _ _ _ 3 [.int .i64 3] from rfl) (Reps.one (show Kd.M (Kd.int .i64) _ _ _ 3 [.int .i64 3] from rfl) (Reps.one (show Kd.M (Kd.int .i64) _ _ _ 3 [.int .i64 3] from rfl) (Reps.one (show Kd.M (Kd.int .i64) _ _ _ 4 [.int .i64 4] from rfl) (Reps.one (show Kd.M (Kd.int .i64) _ _ _ 4 [.int .i64 4] from rfl) (Reps.one (show Kd.M (Kd.int .i64) _ _ _ 4 [.int .i64 4] from rfl) (Reps.one (show Kd.M (Kd.int .i64) _ _ _ 4 [.int .i64 4] from rfl) (Reps.one (show Kd.M (Kd.int .i64) _ _ _ 5 [.int .i64 5] from rfl) (Reps.one (show Kd.M (Kd.int .i64) _ _ _ 5 [.int .i64 5] from rfl) (Reps.one (show Kd.M (Kd.int .i64) _ _ _ 5 [.int .i64 5] from rfl) (Reps.one (show Kd.M (Kd.int .i64) _ _ _ 5 [.int .i64 5] from rfl) (Reps.one (show Kd.M (Kd.int .i64) _ _ _ 6 [.int .i64 6] from rfl) (Reps.one (show Kd.M (Kd.int .i64) _ _ _ 6 [.int .i64 6] from rfl) (Reps.one (show Kd.M (Kd.int .i64) _ _ _ 7 [.int .i64 7] from rfl) (Reps.one (show Kd.M (Kd.int .i64) _ _ _ 7 [.int .i64 7] from rfl) (Reps.one (show Kd.M (Kd.int .i64) _ _ _ 8 [.int .i64 8] from rfl) (Reps.one (show Kd.M (Kd.int .i64) _ _ _ 8 [.int .i64 8] from rfl) (Reps.one (show Kd.M (Kd.int .i64) _ _ _ 9 [.int .i64 9] from rfl) (Reps.one (show Kd.M (Kd.int .i64) _ _ _ 10 [.int .i64 10] from rfl) (Reps.one (show Kd.M (Kd.int .i64) _ _ _ 10 [.int .i64 10] from rfl) (Reps.one (show Kd.M (Kd.int .i64) _ _ _ 11 [.int .i64 11] from rfl) (Reps.one (show Kd.M (Kd.int .i64) _ _ _ 11 [.int .i64 11] from rfl) (Reps.one (show Kd.M (Kd.int .i64) _ _ _ 12 [.int .i64 12] from rfl) (Reps.one (show Kd.M (Kd.int .i64) _ _ _ 9 [.int .i64 9] from rfl) (Reps.one (show Kd.M (Kd.int .i64) _ _ _ 9 [.int .i64 9] from rfl) (Reps.one (show Kd.M (Kd.int .i64) _ _ _ 13 [.int .i64 13] from rfl) (Reps.one (show Kd.M (Kd.int .i64) _ _ _ 13 [.int .i64 13] from rfl) (Reps.one (show Kd.M (Kd.int .i64) _ _ _ 13 [.int .i64 13] from rfl) (Reps.one (show Kd.M (Kd.int .i64) _ _ _ 14 [.int .i64 14] from rfl) (Reps.one (show Kd.M (Kd.int .i64) _ _ _ 15 [.int .i64 15] from rfl) (Reps.one (show Kd.M (Kd.int .i64) _ _ _ 16 [.int .i64 16] from rfl) (Reps.none _ _)))))))))))))))))))))))))))))))))))))))))); intro v221 w3 ho4 hb hg_ hnew_; clear hg_ hnew_; (first | rw [← Ny220.out] at ho4 | (simp only [Int.reduceToNat] at ho4; rw [← Ny220.out] at ho4)); have n0_ := Azz.mk (Kd.R_lower ho4 (bZZ (by with_reducible repeat first | exact HB.out | apply bAA | apply bNN | apply bDD))); have n1_ := Azz.mk (bTT (by with_reducible repeat first | exact HB.out | apply bAA | apply bNN | apply bDD) hb); clear HB; have HO222 := n0_; have HB := n1_; clear n0_ n1_; clear hb ho4))
  go_ret
  exact ⟨eqB, by repeat (first | (with_reducible first | exact HB.out | apply bAA | apply bNN | apply bDD) | exact HB.out)⟩
 rw [if_neg c2] at H
 have c2b0 := dF_ c2
 clear c2
 by_cases c5 : a0 > 39
 ·rw [if_pos c5] at H
  have c5b0 := dT_ c5
  clear c5
  obtain rfl := sI H
  go_enter Tryz.func107, Tryz.ntmps107
  go_wp2_with (first | ((with_reducible refine gate_dst (N := 4) rfl ?_); refine Kd.R_lit (Kd.int .i64) _ 3 ?hg (N := 4) ?hd (xs := ([0, 1, 1, 1, 2, 2, 2, 2, 3, 3, 3, 3, 4, 4, 4, 4, 5, 5, 5, 5, 6, 6, 7, 7, 8, 8, 9, 10, 10, 11, 11, 12, 9, 9, 13, 13, 13, 14, 15, 16] : List Int)) (inner := [.int .i64 0, .int .i64 1, .int .i64 1, .int .i64 1, .int .i64 2, .int .i64 2, .int .i64 2, .int .i64 2, .int .i64 3, .int .i64 3, .int .i64 3, .int .i64 3, .int .i64 4, .int .i64 4, .int .i64 4, .int .i64 4, .int .i64 5, .int .i64 5, .int .i64 5, .int .i64 5, .int .i64 6, .int .i64 6, .int .i64 7, .int .i64 7, .int .i64 8, .int .i64 8, .int .i64 9, .int .i64 10, .int .i64 10, .int .i64 11, .int .i64 11, .int .i64 12, .int .i64 9, .int .i64 9, .int .i64 13, .int .i64 13, .int .i64 13, .int .i64 14, .int .i64 15, .int .i64 16]) (ok := fun _ => True) (okp := fun _ => True) ?hr ?hp (fun _ hk => hk) trivial (Below.refl _ _) (Nat.le_refl _) (by simp) ?_; (case hd => rfl); (case hg => rfl); (case hr => first | (go_simp; done) | (go_simp; rfl)); (case hp => exact (Reps.one (show Kd.M (Kd.int .i64) _ _ _ 0 [.int .i64 0] from rfl) (Reps.one (show Kd.M (Kd.int .i64) _ _ _ 1 [.int .i64 1] from rfl) (Reps.one (show Kd.M (Kd.int .i64) _ _ _ 1 [.int .i64 1] from rfl) (Reps.one (show Kd.M (Kd.int .i64) _ _ _ 1 [.int .i64 1] from rfl) (Reps.one (show Kd.M (Kd.int .i64) _ _ _ 2 [.int .i64 2] from rfl) (Reps.one (show Kd.M (Kd.int .i64) _ _ _ 2 [.int .i64 2] from rfl) (Reps.one (show Kd.M (Kd.int .i64) _ _ _ 2 [.int .i64 2] from rfl) (Reps.one (show Kd.M (Kd.int .i64) _ _ _ 2 [.int .i64 2] from rfl) (Reps.one (show Kd.M (Kd.int .i64) _ _ _ 3 [.int .i64 3] from rfl) (Reps.one (show Kd.M (Kd.int .i64) _ _ _ 3 [.int .i64 3] from rfl) (Reps.one (show Kd.M (Kd.int .i64) _ _ _ 3 [.int .i64 3] from rfl) (Reps.one (show Kd.M (Kd.int .i64) _ _ _ 3 [.int .i64 3] from rfl) (Reps.one (show Kd.M (Kd.int .i64) _ _ _ 4 [.int .i64 4] from rfl) (Reps.one (show Kd.M (Kd.int .i64) _ _ _ 4 [.int .i64 4] from rfl) (Reps.one (show Kd.M (Kd.int .i64) _ _ _ 4 [.int .i64 4] from rfl) (Reps.one (show Kd.M (Kd.int .i64) _ _ _ 4 [.int .i64 4] from rfl) (Reps.one (show Kd.M (Kd.int .i64) _ _ _ 5 [.int .i64 5] from rfl) (Reps.one (show Kd.M (Kd.int .i64) _ _ _ 5 [.int .i64 5] from rfl) (Reps.one (show Kd.M (Kd.int .i64) _ _ _ 5 [.int .i64 5] from rfl) (Reps.one (show Kd.M (Kd.int .i64) _ _ _ 5 [.int .i64 5] from rfl) (Reps.one (show Kd.M (Kd.int .i64) _ _ _ 6 [.int .i64 6] from rfl) (Reps.one (show Kd.M (Kd.int .i64) _ _ _ 6 [.int .i64 6] from rfl) (Reps.one (show Kd.M (Kd.int .i64) _ _ _ 7 [.int .i64 7] from rfl) (Reps.one (show Kd.M (Kd.int .i64) _ _ _ 7 [.int .i64 7] from rfl) (Reps.one (show Kd.M (Kd.int .i64) _ _ _ 8 [.int .i64 8] from rfl) (Reps.one (show Kd.M (Kd.int .i64) _ _ _ 8 [.int .i64 8] from rfl) (Reps.one (show Kd.M (Kd.int .i64) _ _ _ 9 [.int .i64 9] from rfl) (Reps.one (show Kd.M (Kd.int .i64) _ _ _ 10 [.int .i64 10] from rfl) (Reps.one (show Kd.M (Kd.int .i64) _ _ _ 10 [.int .i64 10] from rfl) (Reps.one (show Kd.M (Kd.int .i64) _ _ _ 11 [.int .i64 11] from rfl) (Reps.one (show Kd.M (Kd.int .i64) _ _ _ 11 [.int .i64 11] from rfl) (Reps.one (show Kd.M (Kd.int .i64) _ _ _ 12 [.int .i64 12] from rfl) (Reps.one (show Kd.M (Kd.int .i64) _ _ _ 9 [.int .i64 9] from rfl) (Reps.one (show Kd.M (Kd.int .i64) _ _ _ 9 [.int .i64 9] from rfl) (Reps.one (show Kd.M (Kd.int .i64) _ _ _ 13 [.int .i64 13] from rfl) (Reps.one (show Kd.M (Kd.int .i64) _ _ _ 13 [.int .i64 13] from rfl) (Reps.one (show Kd.M (Kd.int .i64) _ _ _ 13 [.int .i64 13] from rfl) (Reps.one (show Kd.M (Kd.int .i64) _ _ _ 14 [.int .i64 14] from rfl) (Reps.one (show Kd.M (Kd.int .i64) _ _ _ 15 [.int .i64 15] from rfl) (Reps.one (show Kd.M (Kd.int .i64) _ _ _ 16 [.int .i64 16] from rfl) (Reps.none _ _)))))))))))))))))))))))))))))))))))))))))); intro v221 w6 ho7 hb hg_ hnew_; clear hg_ hnew_; (first | rw [← Ny220.out] at ho7 | (simp only [Int.reduceToNat] at ho7; rw [← Ny220.out] at ho7)); have n0_ := Azz.mk (Kd.R_lower ho7 (bZZ (by with_reducible repeat first | exact HB.out | apply bAA | apply bNN | apply bDD))); have n1_ := Azz.mk (bTT (by with_reducible repeat first | exact HB.out | apply bAA | apply bNN | apply bDD) hb); clear HB; have HO222 := n0_; have HB := n1_; clear n0_ n1_; clear hb ho7))
  go_ret
  exact ⟨eqB, by repeat (first | (with_reducible first | exact HB.out | apply bAA | apply bNN | apply bDD) | exact HB.out)⟩
 rw [if_neg c5] at H
 have c5b0 := dF_ c5
 clear c5
 by_cases c8 : 0 ≤ a0
 ·rw [if_pos c8] at H
  have c8b0 := dT_ c8
  clear c8
  by_cases c9 : a0 < (y220.length : Int)
  ·rw [if_pos c9] at H
   have c9b0 := dT_ c9
   clear c9
   obtain rfl := sI H
   go_enter Tryz.func107, Tryz.ntmps107
   go_wp2_with (first | ((with_reducible refine gate_dst (N := 4) rfl ?_); refine Kd.R_lit (Kd.int .i64) _ 3 ?hg (N := 4) ?hd (xs := ([0, 1, 1, 1, 2, 2, 2, 2, 3, 3, 3, 3, 4, 4, 4, 4, 5, 5, 5, 5, 6, 6, 7, 7, 8, 8, 9, 10, 10, 11, 11, 12, 9, 9, 13, 13, 13, 14, 15, 16] : List Int)) (inner := [.int .i64 0, .int .i64 1, .int .i64 1, .int .i64 1, .int .i64 2, .int .i64 2, .int .i64 2, .int .i64 2, .int .i64 3, .int .i64 3, .int .i64 3, .int .i64 3, .int .i64 4, .int .i64 4, .int .i64 4, .int .i64 4, .int .i64 5, .int .i64 5, .int .i64 5, .int .i64 5, .int .i64 6, .int .i64 6, .int .i64 7, .int .i64 7, .int .i64 8, .int .i64 8, .int .i64 9, .int .i64 10, .int .i64 10, .int .i64 11, .int .i64 11, .int .i64 12, .int .i64 9, .int .i64 9, .int .i64 13, .int .i64 13, .int .i64 13, .int .i64 14, .int .i64 15, .int .i64 16]) (ok := fun _ => True) (okp := fun _ => True) ?hr ?hp (fun _ hk => hk) trivial (Below.refl _ _) (Nat.le_refl _) (by simp) ?_; (case hd => rfl); (case hg => rfl); (case hr => first | (go_simp; done) | (go_simp; rfl)); (case hp => exact (Reps.one (show Kd.M (Kd.int .i64) _ _ _ 0 [.int .i64 0] from rfl) (Reps.one (show Kd.M (Kd.int .i64) _ _ _ 1 [.int .i64 1] from rfl) (Reps.one (show Kd.M (Kd.int .i64) _ _ _ 1 [.int .i64 1] from rfl) (Reps.one (show Kd.M (Kd.int .i64) _ _ _ 1 [.int .i64 1] from rfl) (Reps.one (show Kd.M (Kd.int .i64) _ _ _ 2 [.int .i64 2] from rfl) (Reps.one (show Kd.M (Kd.int .i64) _ _ _ 2 [.int .i64 2] from rfl) (Reps.one (show Kd.M (Kd.int .i64) _ _ _ 2 [.int .i64 2] from rfl) (Reps.one (show Kd.M (Kd.int .i64) _ _ _ 2 [.int .i64 2] from rfl) (Reps.one (show Kd.M (Kd.int .i64) _ _ _ 3 [.int .i64 3] from rfl) (Reps.one (show Kd.M (Kd.int .i64) _ _ _ 3 [.int .i64 3] from rfl) (Reps.one (show Kd.M (Kd.int .i64) _ _ _ 3 [.int .i64 3] from rfl) (Reps.one (show Kd.M (Kd.int .i64) _ _ _ 3 [.int .i64 3] from rfl) (Reps.one (show Kd.M (Kd.int .i64) _ _ _ 4 [.int .i64 4] from rfl) (Reps.one (show Kd.M (Kd.int .i64) _ _ _ 4 [.int .i64 4] from rfl) (Reps.one (show Kd.M (Kd.int .i64) _ _ _ 4 [.int .i64 4] from rfl) (Reps.one (show Kd.M (Kd.int .i64) _ _ _ 4 [.int .i64 4] from rfl) (Reps.one (show Kd.M (Kd.int .i64) _ _ _ 5 [.int .i64 5] from rfl) (Reps.one (show Kd.M (Kd.int .i64) _ _ _ 5 [.int .i64 5] from rfl) (Reps.one (show Kd.M (Kd.int .i64) _ _ _ 5 [.int .i64 5] from rfl) (Reps.one (show Kd.M (Kd.int .i64) _ _ _ 5 [.int .i64 5] from rfl) (Reps.one (show Kd.M (Kd.int .i64) _ _ _ 6 [.int .i64 6] from rfl) (Reps.one (show Kd.M (Kd.int .i64) _ _ _ 6 [.int .i64 6] from rfl) (Reps.one (show Kd.M (Kd.int .i64) _ _ _ 7 [.int .i64 7] from rfl) (Reps.one (show Kd.M (Kd.int .i64) _ _ _ 7 [.int .i64 7] from rfl) (Reps.one (show Kd.M (Kd.int .i64) _ _ _ 8 [.int .i64 8] from rfl) (Reps.one (show Kd.M (Kd.int .i64) _ _ _ 8 [.int .i64 8] from rfl) (Reps.one (show Kd.M (Kd.int .i64) _ _ _ 9 [.int .i64 9] from rfl) (Reps.one (show Kd.M (Kd.int .i64) _ _ _ 10 [.int .i64 10] from rfl) (Reps.one (show Kd.M (Kd.int .i64) _ _ _ 10 [.int .i64 10] from rfl) (Reps.one (show Kd.M (Kd.int .i64) _ _ _ 11 [.int .i64 11] from rfl) (Reps.one (show Kd.M (Kd.int .i64) _ _ _ 11 [.int .i64 11] from rfl) (Reps.one (show Kd.M (Kd.int .i64) _ _ _ 12 [.int .i64 12] from rfl) (Reps.one (show Kd.M (Kd.int .i64) _ _ _ 9 [.int .i64 9] from rfl) (Reps.one (show Kd.M (Kd.int .i64) _ _ _ 9 [.int .i64 9] from rfl) (Reps.one (show Kd.M (Kd.int .i64) _ _ _ 13 [.int .i64 13] from rfl) (Reps.one (show Kd.M (Kd.int .i64) _ _ _ 13 [.int .i64 13] from rfl) (Reps.one (show Kd.M (Kd.int .i64) _ _ _ 13 [.int .i64 13] from rfl) (Reps.one (show Kd.M (Kd.int .i64) _ _ _ 14 [.int .i64 14] from rfl) (Reps.one (show Kd.M (Kd.int .i64) _ _ _ 15 [.int .i64 15] from rfl) (Reps.one (show Kd.M (Kd.int .i64) _ _ _ 16 [.int .i64 16] from rfl) (Reps.none _ _)))))))))))))))))))))))))))))))))))))))))); intro v221 w10 ho11 hb hg_ hnew_; clear hg_ hnew_; (first | rw [← Ny220.out] at ho11 | (simp only [Int.reduceToNat] at ho11; rw [← Ny220.out] at ho11)); have n0_ := Azz.mk (Kd.R_lower ho11 (bZZ (by with_reducible repeat first | exact HB.out | apply bAA | apply bNN | apply bDD))); have n1_ := Azz.mk (bTT (by with_reducible repeat first | exact HB.out | apply bAA | apply bNN | apply bDD) hb); clear HB; have HO222 := n0_; have HB := n1_; clear n0_ n1_; clear hb ho11; obtain ⟨Ao12, co12, eo12⟩ := Kd.R_slice HO222.out; subst eo12; have p223 : 0 ≤ (a0 : Int) := of_decide_eq_true (by first | (with_reducible assumption) | assumption); have q223 : a0 < (y220.length : Int) := of_decide_eq_true (by first | (with_reducible assumption) | assumption); obtain ⟨ad223, e223, hx223_0⟩ := Kd.at_int (Kd.R_reads' HO222.out).2.2 a0 p223 q223; cases e223; replace p223 := eq_true p223; replace q223 := eq_true q223))
   go_ret
   exact ⟨eqB, by repeat (first | (with_reducible first | exact HB.out | apply bAA | apply bNN | apply bDD) | exact HB.out)⟩
  rw [if_neg c9] at H
  exact absurd H (by simp)
 rw [if_neg c8] at H
 exact absurd H (by simp)
def cleatref01_Right.f (a0 : Int) (a1 : Int) : Option (Bool) := if a0 ≥ 0 then (if a0 ≤ 31 then (if a1 ≥ 1 then (some (decide (a1 ≤ (wrap64 (32 - a0))))) else (some false)) else (some false)) else (some false)
theorem cleatref01_Right.calls (a0 : Int) (a1 : Int) (r : Bool) (w : World) (h : cleatref01_Right.f a0 a1 = some r) :
 Calls Tryz.prog 132 #[.int .i64 a0, .int .i64 a1] w fun e w' => e = .returned (.bool r) ∧ Drawn0 w w' := by
 have H : (if a0 ≥ 0 then (if a0 ≤ 31 then (if a1 ≥ 1 then (some (decide (a1 ≤ (wrap64 (32 - a0))))) else (some false)) else (some false)) else (some false)) = some r := h
 clear h
 by_cases c3 : a0 ≥ 0
 rotate_left
 ·rw [if_neg c3] at H
  have c3b0 := dF_ c3
  clear c3
  obtain rfl := sI H
  go_enter Tryz.func132, Tryz.ntmps132
  go_wp2
  go_ret
  exact ⟨by first | rfl | (simp; done) | (simp [*]; done), d0S⟩
 rw [if_pos c3] at H
 have c3b0 := dT_ c3
 clear c3
 by_cases c4 : a0 ≤ 31
 ·rw [if_pos c4] at H
  have c4b0 := dT_ c4
  clear c4
  by_cases c5 : a1 ≥ 1
  ·rw [if_pos c5] at H
   have c5b0 := dT_ c5
   clear c5
   obtain rfl := sI H
   go_enter Tryz.func132, Tryz.ntmps132
   go_wp2
   go_ret
   exact ⟨by first | rfl | (simp; done) | (simp [*]; done), d0S⟩
  rw [if_neg c5] at H
  have c5b0 := dF_ c5
  clear c5
  obtain rfl := sI H
  go_enter Tryz.func132, Tryz.ntmps132
  go_wp2
  go_ret
  exact ⟨by first | rfl | (simp; done) | (simp [*]; done), d0S⟩
 rw [if_neg c4] at H
 have c4b0 := dF_ c4
 clear c4
 obtain rfl := sI H
 go_enter Tryz.func132, Tryz.ntmps132
 go_wp2
 go_ret
 exact ⟨by first | rfl | (simp; done) | (simp [*]; done), d0S⟩
def cleatref01_Field.f (k : Nat) (a0 : Int) (a1 : Int) (a2 : Int) : Option (Int × Int) := (cleatref01_Right.f a1 a2).bind fun t224 => (if t224 = true then ((cleatref01_Power.f k a1).bind fun t225 => (if t225 = 0 then (none) else ((cleatref01_Power.f k a2).bind fun t226 => (if t226 = 0 then (none) else (some ((Int.tmod (IntKind.u64.wrap (Int.tdiv (IntKind.u64.wrap (a0)) t225)) t226) % 4294967296, 0)))))) else (some (0, 1)))
theorem cleatref01_Field.calls (k : Nat) (a0 : Int) (a1 : Int) (a2 : Int) (r1 : Int) (r2 : Int) (w : World) (h : cleatref01_Field.f k a0 a1 a2 = some (r1, r2)) :
 Calls Tryz.prog 108 #[.int .u32 a0, .int .i64 a1, .int .i64 a2] w fun e w' => e = .returned (.tuple #[.int .u32 r1, .int .i64 r2]) ∧ Drawn0 w w' := by
 have H : ((cleatref01_Right.f a1 a2).bind fun t224 => (if t224 = true then ((cleatref01_Power.f k a1).bind fun t225 => (if t225 = 0 then (none) else ((cleatref01_Power.f k a2).bind fun t226 => (if t226 = 0 then (none) else (some ((Int.tmod (IntKind.u64.wrap (Int.tdiv (IntKind.u64.wrap (a0)) t225)) t226) % 4294967296, 0)))))) else (some (0, 1)))) = some (r1, r2) := h
 clear h
 obtain ⟨t224, A4, H⟩ := bnd H
 (try dsimp only at H)
 by_cases c5 : t224 = true
 ·subst c5
  rw [if_pos rfl] at H
  obtain ⟨t225, A6, H⟩ := bnd H
  (try dsimp only at H)
  by_cases c7 : t225 = 0
  ·rw [if_pos c7] at H
   exact absurd H (by simp)
  rw [if_neg c7] at H
  obtain ⟨c7b0, c7b1⟩ := bn_ c7
  obtain ⟨t226, A8, H⟩ := bnd H
  (try dsimp only at H)
  by_cases c9 : t226 = 0
  ·rw [if_pos c9] at H
   exact absurd H (by simp)
  rw [if_neg c9] at H
  obtain ⟨c9b0, c9b1⟩ := bn_ c9
  simp only [sJ_, pJ_] at H
  obtain ⟨rfl, rfl⟩ := H
  go_enter Tryz.func108, Tryz.ntmps108
  go_wp2_with (first | (go_at_call 132; (with_reducible refine (cleatref01_Right.calls a1 a2 true _ A4.out).mono ?_); rintro e w' ⟨rfl, ⟨nd, rfl⟩⟩; (try first | exact ⟨rfl, _, dd2⟩ | exact ⟨rfl, _, dd3⟩)) | (go_at_call 90; (with_reducible refine (cleatref01_Power.calls k a1 t225 _ A6.out).mono ?_); rintro e w' ⟨rfl, ⟨nd, rfl⟩⟩; (try first | exact ⟨rfl, _, dd2⟩ | exact ⟨rfl, _, dd3⟩)) | (go_at_call 90; (with_reducible refine (cleatref01_Power.calls k a2 t226 _ A8.out).mono ?_); rintro e w' ⟨rfl, ⟨nd, rfl⟩⟩; (try first | exact ⟨rfl, _, dd2⟩ | exact ⟨rfl, _, dd3⟩)))
  repeat (go_quiet (first | (go_at_call 132; (with_reducible refine (cleatref01_Right.calls a1 a2 true _ A4.out).mono ?_); rintro e w' ⟨rfl, ⟨nd, rfl⟩⟩; (try first | exact ⟨rfl, _, dd2⟩ | exact ⟨rfl, _, dd3⟩)) | (go_at_call 90; (with_reducible refine (cleatref01_Power.calls k a1 t225 _ A6.out).mono ?_); rintro e w' ⟨rfl, ⟨nd, rfl⟩⟩; (try first | exact ⟨rfl, _, dd2⟩ | exact ⟨rfl, _, dd3⟩)) | (go_at_call 90; (with_reducible refine (cleatref01_Power.calls k a2 t226 _ A8.out).mono ?_); rintro e w' ⟨rfl, ⟨nd, rfl⟩⟩; (try first | exact ⟨rfl, _, dd2⟩ | exact ⟨rfl, _, dd3⟩))); try go_wp2_with (first | (go_at_call 132; (with_reducible refine (cleatref01_Right.calls a1 a2 true _ A4.out).mono ?_); rintro e w' ⟨rfl, ⟨nd, rfl⟩⟩; (try first | exact ⟨rfl, _, dd2⟩ | exact ⟨rfl, _, dd3⟩)) | (go_at_call 90; (with_reducible refine (cleatref01_Power.calls k a1 t225 _ A6.out).mono ?_); rintro e w' ⟨rfl, ⟨nd, rfl⟩⟩; (try first | exact ⟨rfl, _, dd2⟩ | exact ⟨rfl, _, dd3⟩)) | (go_at_call 90; (with_reducible refine (cleatref01_Power.calls k a2 t226 _ A8.out).mono ?_); rintro e w' ⟨rfl, ⟨nd, rfl⟩⟩; (try first | exact ⟨rfl, _, dd2⟩ | exact ⟨rfl, _, dd3⟩))))
  go_ret2
  exact ⟨by first | rfl | (simp; done) | (simp [*]; done), d0S⟩
 replace c5 := Bool.eq_false_iff.mpr c5
 subst c5
 rw [if_neg nFT] at H
 simp only [sJ_, pJ_] at H
 obtain ⟨rfl, rfl⟩ := H
 go_enter Tryz.func108, Tryz.ntmps108
 go_wp2_with (first | (go_at_call 132; (with_reducible refine (cleatref01_Right.calls a1 a2 false _ A4.out).mono ?_); rintro e w' ⟨rfl, ⟨nd, rfl⟩⟩; (try first | exact ⟨rfl, _, dd2⟩ | exact ⟨rfl, _, dd3⟩)))
 repeat (go_quiet (first | (go_at_call 132; (with_reducible refine (cleatref01_Right.calls a1 a2 false _ A4.out).mono ?_); rintro e w' ⟨rfl, ⟨nd, rfl⟩⟩; (try first | exact ⟨rfl, _, dd2⟩ | exact ⟨rfl, _, dd3⟩))); try go_wp2_with (first | (go_at_call 132; (with_reducible refine (cleatref01_Right.calls a1 a2 false _ A4.out).mono ?_); rintro e w' ⟨rfl, ⟨nd, rfl⟩⟩; (try first | exact ⟨rfl, _, dd2⟩ | exact ⟨rfl, _, dd3⟩))))
 go_ret2
 exact ⟨by first | rfl | (simp; done) | (simp [*]; done), d0S⟩
def cleatref05_bases.f  : Option (List Int) := some (([0, 3531603968, 2457862144, 4068474880, 2432696320, 3506438144, 2969567232, 4043309056, 2449473536, 2986344448, 3523215360, 4060086272, 2332033024, 3405774848, 2868903936, 3942645760, 2315255808, 2852126720, 3388997632, 3925868544, 2600468480, 2600501248, 4181721088, 4177526784, 960495616, 956301312, 1476395008, 268435456, 2415919104, 335544320, 2483027968, 1409286144, 3019898880, 3036676096, 3592355840, 3594452992, 3596550144, 3556769793, 3573751839, 2592079872] : List Int))
theorem cleatref05_bases.calls  (r : List Int) (w : World) (h : cleatref05_bases.f  = some r) :
 Calls Tryz.prog 152 #[] w fun e w' => ∃ v0_ : Value, e = .returned (v0_) ∧ Kd.R (Kd.int .u32) 124 w' w.heap.size (fun _ => True) v0_ r ∧ Below w.heap.size w w' := by
 have HB := Azz.mk (Below.refl w.heap.size w)
 have H : (some (([0, 3531603968, 2457862144, 4068474880, 2432696320, 3506438144, 2969567232, 4043309056, 2449473536, 2986344448, 3523215360, 4060086272, 2332033024, 3405774848, 2868903936, 3942645760, 2315255808, 2852126720, 3388997632, 3925868544, 2600468480, 2600501248, 4181721088, 4177526784, 960495616, 956301312, 1476395008, 268435456, 2415919104, 335544320, 2483027968, 1409286144, 3019898880, 3036676096, 3592355840, 3594452992, 3596550144, 3556769793, 3573751839, 2592079872] : List Int))) = some r := h
 clear h
 obtain ⟨y227, hy227⟩ : ∃ y_ : List Int, y_ = (([0, 3531603968, 2457862144, 4068474880, 2432696320, 3506438144, 2969567232, 4043309056, 2449473536, 2986344448, 3523215360, 4060086272, 2332033024, 3405774848, 2868903936, 3942645760, 2315255808, 2852126720, 3388997632, 3925868544, 2600468480, 2600501248, 4181721088, 4177526784, 960495616, 956301312, 1476395008, 268435456, 2415919104, 335544320, 2483027968, 1409286144, 3019898880, 3036676096, 3592355840, 3594452992, 3596550144, 3556769793, 3573751839, 2592079872] : List Int)) := ⟨_, rfl⟩
 replace H : (some y227) = some r := by first | (rw [hy227]; with_reducible exact H) | (have H2_ := (Option.bind_some _ _).symm.trans H; rw [hy227]; with_reducible exact H2_) | (have H2_ := (Option.bind_some _ _).symm.trans H; with_reducible exact H2_) | with_reducible exact H | (rw [hy227]; exact H) | exact H
 have Ny227 := Azz.mk hy227
 clear hy227
 obtain rfl := sI H
 go_enter Tryz.func152, Tryz.ntmps152
 go_wp2_with (first | ((with_reducible refine gate_dst (N := 1) rfl ?_); refine Kd.R_lit (Kd.int .u32) _ 124 ?hg (N := 1) ?hd (xs := ([0, 3531603968, 2457862144, 4068474880, 2432696320, 3506438144, 2969567232, 4043309056, 2449473536, 2986344448, 3523215360, 4060086272, 2332033024, 3405774848, 2868903936, 3942645760, 2315255808, 2852126720, 3388997632, 3925868544, 2600468480, 2600501248, 4181721088, 4177526784, 960495616, 956301312, 1476395008, 268435456, 2415919104, 335544320, 2483027968, 1409286144, 3019898880, 3036676096, 3592355840, 3594452992, 3596550144, 3556769793, 3573751839, 2592079872] : List Int)) (inner := [.int .u32 0, .int .u32 3531603968, .int .u32 2457862144, .int .u32 4068474880, .int .u32 2432696320, .int .u32 3506438144, .int .u32 2969567232, .int .u32 4043309056, .int .u32 2449473536, .int .u32 2986344448, .int .u32 3523215360, .int .u32 4060086272, .int .u32 2332033024, .int .u32 3405774848, .int .u32 2868903936, .int .u32 3942645760, .int .u32 2315255808, .int .u32 2852126720, .int .u32 3388997632, .int .u32 3925868544, .int .u32 2600468480, .int .u32 2600501248, .int .u32 4181721088, .int .u32 4177526784, .int .u32 960495616, .int .u32 956301312, .int .u32 1476395008, .int .u32 268435456, .int .u32 2415919104, .int .u32 335544320, .int .u32 2483027968, .int .u32 1409286144, .int .u32 3019898880, .int .u32 3036676096, .int .u32 3592355840, .int .u32 3594452992, .int .u32 3596550144, .int .u32 3556769793, .int .u32 3573751839, .int .u32 2592079872]) (ok := fun _ => True) (okp := fun _ => True) ?hr ?hp (fun _ hk => hk) trivial (Below.refl _ _) (Nat.le_refl _) (by simp) ?_; (case hd => rfl); (case hg => rfl); (case hr => first | (go_simp; done) | (go_simp; rfl)); (case hp => exact (Reps.one (show Kd.M (Kd.int .u32) _ _ _ 0 [.int .u32 0] from rfl) (Reps.one (show Kd.M (Kd.int .u32) _ _ _ 3531603968 [.int .u32 3531603968] from rfl) (Reps.one (show Kd.M (Kd.int .u32) _ _ _ 2457862144 [.int .u32 2457862144] from rfl) (Reps.one (show Kd.M (Kd.int .u32) _ _ _ 4068474880 [.int .u32 4068474880] from rfl) (Reps.one (show Kd.M (Kd.int .u32) _ _ _ 2432696320 [.int .u32 2432696320] from rfl) (Reps.one (show Kd.M (Kd.int .u32) _ _ _ 3506438144 [.int .u32 3506438144] from rfl) (Reps.one (show Kd.M (Kd.int .u32) _ _ _ 2969567232 [.int .u32 2969567232] from rfl) (Reps.one (show Kd.M (Kd.int .u32) _ _ _ 4043309056 [.int .u32 4043309056] from rfl) (Reps.one (show Kd.M (Kd.int .u32) _ _ _ 2449473536 [.int .u32 2449473536] from rfl) (Reps.one (show Kd.M (Kd.int .u32) _ _ _ 2986344448 [.int .u32 2986344448] from rfl) (Reps.one (show Kd.M (Kd.int .u32) _ _ _ 3523215360 [.int .u32 3523215360] from rfl) (Reps.one (show Kd.M (Kd.int .u32) _ _ _ 4060086272 [.int .u32 4060086272] from rfl) (Reps.one (show Kd.M (Kd.int .u32) _ _ _ 2332033024 [.int .u32 2332033024] from rfl) (Reps.one (show Kd.M (Kd.int .u32) _ _ _ 3405774848 [.int .u32 3405774848] from rfl) (Reps.one (show Kd.M (Kd.int .u32) _ _ _ 2868903936 [.int .u32 2868903936] from rfl) (Reps.one (show Kd.M (Kd.int .u32) _ _ _ 3942645760 [.int .u32 3942645760] from rfl) (Reps.one (show Kd.M (Kd.int .u32) _ _ _ 2315255808 [.int .u32 2315255808] from rfl) (Reps.one (show Kd.M (Kd.int .u32) _ _ _ 2852126720 [.int .u32 2852126720] from rfl) (Reps.one (show Kd.M (Kd.int .u32) _ _ _ 3388997632 [.int .u32 3388997632] from rfl) (Reps.one (show Kd.M (Kd.int .u32) _ _ _ 3925868544 [.int .u32 3925868544] from rfl) (Reps.one (show Kd.M (Kd.int .u32) _ _ _ 2600468480 [.int .u32 2600468480] from rfl) (Reps.one (show Kd.M (Kd.int .u32) _ _ _ 2600501248 [.int .u32 2600501248] from rfl) (Reps.one (show Kd.M (Kd.int .u32) _ _ _ 4181721088 [.int .u32 4181721088] from rfl) (Reps.one (show Kd.M (Kd.int .u32) _ _ _ 4177526784 [.int .u32 4177526784] from rfl) (Reps.one (show Kd.M (Kd.int .u32) _ _ _ 960495616 [.int .u32 960495616] from rfl) (Reps.one (show Kd.M (Kd.int .u32) _ _ _ 956301312 [.int .u32 956301312] from rfl) (Reps.one (show Kd.M (Kd.int .u32) _ _ _ 1476395008 [.int .u32 1476395008] from rfl) (Reps.one (show Kd.M (Kd.int .u32) _ _ _ 268435456 [.int .u32 268435456] from rfl) (Reps.one (show Kd.M (Kd.int .u32) _ _ _ 2415919104 [.int .u32 2415919104] from rfl) (Reps.one (show Kd.M (Kd.int .u32) _ _ _ 335544320 [.int .u32 335544320] from rfl) (Reps.one (show Kd.M (Kd.int .u32) _ _ _ 2483027968 [.int .u32 2483027968] from rfl) (Reps.one (show Kd.M (Kd.int .u32) _ _ _ 1409286144 [.int .u32 1409286144] from rfl) (Reps.one (show Kd.M (Kd.int .u32) _ _ _ 3019898880 [.int .u32 3019898880] from rfl) (Reps.one (show Kd.M (Kd.int .u32) _ _ _ 3036676096 [.int .u32 3036676096] from rfl) (Reps.one (show Kd.M (Kd.int .u32) _ _ _ 3592355840 [.int .u32 3592355840] from rfl) (Reps.one (show Kd.M (Kd.int .u32) _ _ _ 3594452992 [.int .u32 3594452992] from rfl) (Reps.one (show Kd.M (Kd.int .u32) _ _ _ 3596550144 [.int .u32 3596550144] from rfl) (Reps.one (show Kd.M (Kd.int .u32) _ _ _ 3556769793 [.int .u32 3556769793] from rfl) (Reps.one (show Kd.M (Kd.int .u32) _ _ _ 3573751839 [.int .u32 3573751839] from rfl) (Reps.one (show Kd.M (Kd.int .u32) _ _ _ 2592079872 [.int .u32 2592079872] from rfl) (Reps.none _ _)))))))))))))))))))))))))))))))))))))))))); intro v228 w1 ho2 hb hg_ hnew_; clear hg_ hnew_; (first | rw [← Ny227.out] at ho2 | (simp only [Int.reduceToNat] at ho2; rw [← Ny227.out] at ho2)); have n0_ := Azz.mk (Kd.R_lower ho2 (bZZ (by with_reducible repeat first | exact HB.out | apply bAA | apply bNN | apply bDD))); have n1_ := Azz.mk (bTT (by with_reducible repeat first | exact HB.out | apply bAA | apply bNN | apply bDD) hb); clear HB; have HO229 := n0_; have HB := n1_; clear n0_ n1_; clear hb ho2))
 go_ret
 exact ⟨_, by first | rfl | (simp [eNN, eSS] <;> rfl) | (simp [*, eNN, eSS] <;> rfl), by (with_reducible repeat (first | apply Kd.R_alloc | apply Kd.R_drewN | apply Kd.R_drew)); exact HO229.out, by repeat (first | (with_reducible first | exact HB.out | apply bAA | apply bNN | apply bDD) | exact HB.out)⟩
def cleatref05_Base.f (a0 : Int) : Option (Int × Int) := if a0 < 1 then (some (0, 1)) else (if a0 > 39 then (some (0, 1)) else ((cleatref05_bases.f).bind fun t230 => (if 0 ≤ a0 then (if a0 < (t230.length : Int) then (some (rd t230 a0, 0)) else (none)) else (none))))
theorem cleatref05_Base.calls (a0 : Int) (r1 : Int) (r2 : Int) (w : World) (h : cleatref05_Base.f a0 = some (r1, r2)) :
 Calls Tryz.prog 131 #[.int .i64 a0] w fun e w' => e = .returned (.tuple #[.int .u32 r1, .int .i64 r2]) ∧ Below w.heap.size w w' := by
 have HB := Azz.mk (Below.refl w.heap.size w)
 have H : (if a0 < 1 then (some (0, 1)) else (if a0 > 39 then (some (0, 1)) else ((cleatref05_bases.f).bind fun t230 => (if 0 ≤ a0 then (if a0 < (t230.length : Int) then (some (rd t230 a0, 0)) else (none)) else (none))))) = some (r1, r2) := h
 clear h
 by_cases c2 : a0 < 1
 ·rw [if_pos c2] at H
  have c2b0 := dT_ c2
  clear c2
  simp only [sJ_, pJ_] at H
  obtain ⟨rfl, rfl⟩ := H
  go_enter Tryz.func131, Tryz.ntmps131
  go_wp2
  go_ret2
  exact ⟨eqB, by repeat (first | (with_reducible first | exact HB.out | apply bAA | apply bNN | apply bDD) | exact HB.out)⟩
 rw [if_neg c2] at H
 have c2b0 := dF_ c2
 clear c2
 by_cases c3 : a0 > 39
 ·rw [if_pos c3] at H
  have c3b0 := dT_ c3
  clear c3
  simp only [sJ_, pJ_] at H
  obtain ⟨rfl, rfl⟩ := H
  go_enter Tryz.func131, Tryz.ntmps131
  go_wp2
  go_ret2
  exact ⟨eqB, by repeat (first | (with_reducible first | exact HB.out | apply bAA | apply bNN | apply bDD) | exact HB.out)⟩
 rw [if_neg c3] at H
 have c3b0 := dF_ c3
 clear c3
 obtain ⟨t230, A4, H⟩ := bnd H
 (try dsimp only at H)
 by_cases c5 : 0 ≤ a0
 ·rw [if_pos c5] at H
  have c5b0 := dT_ c5
  clear c5
  by_cases c6 : a0 < (t230.length : Int)
  ·rw [if_pos c6] at H
   have c6b0 := dT_ c6
   clear c6
   simp only [sJ_, pJ_] at H
   obtain ⟨rfl, rfl⟩ := H
   go_enter Tryz.func131, Tryz.ntmps131
   go_wp2_with (first | ((with_reducible refine g_c (f := 152) rfl ?_); refine gM (some 11) rfl rfl Tryz.func152 #[] rfl ?_; (with_reducible refine (cleatref05_bases.calls  t230 _ A4.out).mono ?_); rintro e w7 ⟨v231, rfl, ho0, hb⟩; refine ⟨_, rfl, ?_⟩; have n0_ := Azz.mk (Kd.R_lower ho0 (bZZ (by with_reducible repeat first | exact HB.out | apply bAA | apply bNN | apply bDD))); have n1_ := Azz.mk (bTT (by with_reducible repeat first | exact HB.out | apply bAA | apply bNN | apply bDD) hb); clear HB; have HO232 := n0_; have HB := n1_; clear n0_ n1_; (try clear hb); (try clear hb2); (try clear hk); (try clear hi); (try clear ho0); obtain ⟨Ao8, co8, eo8⟩ := Kd.R_slice HO232.out; subst eo8; have p233 : 0 ≤ (a0 : Int) := of_decide_eq_true (by first | (with_reducible assumption) | assumption); have q233 : a0 < (t230.length : Int) := of_decide_eq_true (by first | (with_reducible assumption) | assumption); obtain ⟨ad233, e233, hx233_0⟩ := Kd.at_int (Kd.R_reads' HO232.out).2.2 a0 p233 q233; cases e233; replace p233 := eq_true p233; replace q233 := eq_true q233))
   go_ret2
   exact ⟨eqB, by repeat (first | (with_reducible first | exact HB.out | apply bAA | apply bNN | apply bDD) | exact HB.out)⟩
  rw [if_neg c6] at H
  exact absurd H (by simp)
 rw [if_neg c5] at H
 exact absurd H (by simp)
mutual
def cleatref04_Has.j0 : Nat → Int → ByteArray → List ByteArray → Bool → Option (Bool)
 | 0, _, _, _, _ => none
 | k + 1, x0, x1, x5, x14 => if x14 = true then (some false) else (if 0 ≤ x0 then (if x0 < (x5.length : Int) then (cleatref04_Has.l0 k x1 (rdOf ByteArray.empty x5 x0) 0) else (none)) else (none))
def cleatref04_Has.l0 : Nat → ByteArray → ByteArray → Int → Option (Bool)
 | 0, _, _, _ => none
 | k + 1, x1, x6, x7 => if x7 < (x6.size : Int) then (if 0 ≤ x7 then (if x7 ≤ (wrap64 (x7 + 1)) then (if (wrap64 (x7 + 1)) ≤ (x6.size : Int) then (if (x6.extract (x7 : Int).toNat ((wrap64 (x7 + 1)) : Int).toNat).toList = x1.toList then (some true) else (cleatref04_Has.l0 k x1 x6 (wrap64 (x7 + 1)))) else (none)) else (none)) else (none)) else (some false)
end
def cleatref04_Has.f (k : Nat) (a0 : Int) (a1 : ByteArray) : Option (Bool) := (some (([(⟨#[]⟩ : ByteArray), (⟨#[100, 105, 119]⟩ : ByteArray), (⟨#[100, 110, 105, 119]⟩ : ByteArray), (⟨#[100, 110, 107]⟩ : ByteArray), (⟨#[100, 110, 109, 115, 119]⟩ : ByteArray), (⟨#[100, 110, 109, 115, 119]⟩ : ByteArray), (⟨#[100, 110, 109, 97]⟩ : ByteArray), (⟨#[100, 110, 105]⟩ : ByteArray), (⟨#[100, 110, 105]⟩ : ByteArray), (⟨#[100, 105]⟩ : ByteArray), (⟨#[100, 105]⟩ : ByteArray), (⟨#[105]⟩ : ByteArray), (⟨#[99, 105]⟩ : ByteArray), (⟨#[110]⟩ : ByteArray), (⟨#[105]⟩ : ByteArray), (⟨#[]⟩ : ByteArray), (⟨#[100, 110, 109, 99]⟩ : ByteArray)] : List ByteArray) : List ByteArray)).bind fun y237 => (if a0 < 0 then (cleatref04_Has.j0 k a0 a1 y237 true) else (cleatref04_Has.j0 k a0 a1 y237 (decide (a0 > 16))))
theorem cleatref04_Has.calls (k : Nat) (a0 : Int) (a1 : ByteArray) (r : Bool) (w : World) (h : cleatref04_Has.f k a0 a1 = some r) :
 Calls Tryz.prog 133 #[.int .i64 a0, .string a1] w fun e w' => e = .returned (.bool r) ∧ Below w.heap.size w w' := by
 have HB := Azz.mk (Below.refl w.heap.size w)
 have H : ((some (([(⟨#[]⟩ : ByteArray), (⟨#[100, 105, 119]⟩ : ByteArray), (⟨#[100, 110, 105, 119]⟩ : ByteArray), (⟨#[100, 110, 107]⟩ : ByteArray), (⟨#[100, 110, 109, 115, 119]⟩ : ByteArray), (⟨#[100, 110, 109, 115, 119]⟩ : ByteArray), (⟨#[100, 110, 109, 97]⟩ : ByteArray), (⟨#[100, 110, 105]⟩ : ByteArray), (⟨#[100, 110, 105]⟩ : ByteArray), (⟨#[100, 105]⟩ : ByteArray), (⟨#[100, 105]⟩ : ByteArray), (⟨#[105]⟩ : ByteArray), (⟨#[99, 105]⟩ : ByteArray), (⟨#[110]⟩ : ByteArray), (⟨#[105]⟩ : ByteArray), (⟨#[]⟩ : ByteArray), (⟨#[100, 110, 109, 99]⟩ : ByteArray)] : List ByteArray) : List ByteArray)).bind fun y237 => (if a0 < 0 then (cleatref04_Has.j0 k a0 a1 y237 true) else (cleatref04_Has.j0 k a0 a1 y237 (decide (a0 > 16))))) = some r := h
 clear h
 obtain ⟨y237, hy237⟩ : ∃ y_ : List ByteArray, y_ = (([(⟨#[]⟩ : ByteArray), (⟨#[100, 105, 119]⟩ : ByteArray), (⟨#[100, 110, 105, 119]⟩ : ByteArray), (⟨#[100, 110, 107]⟩ : ByteArray), (⟨#[100, 110, 109, 115, 119]⟩ : ByteArray), (⟨#[100, 110, 109, 115, 119]⟩ : ByteArray), (⟨#[100, 110, 109, 97]⟩ : ByteArray), (⟨#[100, 110, 105]⟩ : ByteArray), (⟨#[100, 110, 105]⟩ : ByteArray), (⟨#[100, 105]⟩ : ByteArray), (⟨#[100, 105]⟩ : ByteArray), (⟨#[105]⟩ : ByteArray), (⟨#[99, 105]⟩ : ByteArray), (⟨#[110]⟩ : ByteArray), (⟨#[105]⟩ : ByteArray), (⟨#[]⟩ : ByteArray), (⟨#[100, 110, 109, 99]⟩ : ByteArray)] : List ByteArray)) := ⟨_, rfl⟩
 replace H : (if a0 < 0 then (cleatref04_Has.j0 k a0 a1 y237 true) else (cleatref04_Has.j0 k a0 a1 y237 (decide (a0 > 16)))) = some r := by first | (rw [hy237]; with_reducible exact H) | (have H2_ := (Option.bind_some _ _).symm.trans H; rw [hy237]; with_reducible exact H2_) | (have H2_ := (Option.bind_some _ _).symm.trans H; with_reducible exact H2_) | with_reducible exact H | (rw [hy237]; exact H) | exact H
 have Ny237 := Azz.mk hy237
 clear hy237
 have HC3 := Azz.mk H
 clear H
 go_enter Tryz.func133, Tryz.ntmps133
 go_upto_region 2 with (first | ((with_reducible refine gate_dst (N := 8) rfl ?_); refine Kd.R_lit Kd.string _ 9 ?hg (N := 8) ?hd (xs := ([(⟨#[]⟩ : ByteArray), (⟨#[100, 105, 119]⟩ : ByteArray), (⟨#[100, 110, 105, 119]⟩ : ByteArray), (⟨#[100, 110, 107]⟩ : ByteArray), (⟨#[100, 110, 109, 115, 119]⟩ : ByteArray), (⟨#[100, 110, 109, 115, 119]⟩ : ByteArray), (⟨#[100, 110, 109, 97]⟩ : ByteArray), (⟨#[100, 110, 105]⟩ : ByteArray), (⟨#[100, 110, 105]⟩ : ByteArray), (⟨#[100, 105]⟩ : ByteArray), (⟨#[100, 105]⟩ : ByteArray), (⟨#[105]⟩ : ByteArray), (⟨#[99, 105]⟩ : ByteArray), (⟨#[110]⟩ : ByteArray), (⟨#[105]⟩ : ByteArray), (⟨#[]⟩ : ByteArray), (⟨#[100, 110, 109, 99]⟩ : ByteArray)] : List ByteArray)) (inner := [.string (⟨#[]⟩ : ByteArray), .string (⟨#[100, 105, 119]⟩ : ByteArray), .string (⟨#[100, 110, 105, 119]⟩ : ByteArray), .string (⟨#[100, 110, 107]⟩ : ByteArray), .string (⟨#[100, 110, 109, 115, 119]⟩ : ByteArray), .string (⟨#[100, 110, 109, 115, 119]⟩ : ByteArray), .string (⟨#[100, 110, 109, 97]⟩ : ByteArray), .string (⟨#[100, 110, 105]⟩ : ByteArray), .string (⟨#[100, 110, 105]⟩ : ByteArray), .string (⟨#[100, 105]⟩ : ByteArray), .string (⟨#[100, 105]⟩ : ByteArray), .string (⟨#[105]⟩ : ByteArray), .string (⟨#[99, 105]⟩ : ByteArray), .string (⟨#[110]⟩ : ByteArray), .string (⟨#[105]⟩ : ByteArray), .string (⟨#[]⟩ : ByteArray), .string (⟨#[100, 110, 109, 99]⟩ : ByteArray)]) (ok := fun _ => True) (okp := fun _ => True) ?hr ?hp (fun _ hk => hk) trivial (Below.refl _ _) (Nat.le_refl _) (by simp) ?_; (case hd => rfl); (case hg => rfl); (case hr => first | (go_simp; done) | (go_simp; rfl)); (case hp => exact (Reps.one (show Kd.M Kd.string _ _ _ (⟨#[]⟩ : ByteArray) [.string (⟨#[]⟩ : ByteArray)] from rfl) (Reps.one (show Kd.M Kd.string _ _ _ (⟨#[100, 105, 119]⟩ : ByteArray) [.string (⟨#[100, 105, 119]⟩ : ByteArray)] from rfl) (Reps.one (show Kd.M Kd.string _ _ _ (⟨#[100, 110, 105, 119]⟩ : ByteArray) [.string (⟨#[100, 110, 105, 119]⟩ : ByteArray)] from rfl) (Reps.one (show Kd.M Kd.string _ _ _ (⟨#[100, 110, 107]⟩ : ByteArray) [.string (⟨#[100, 110, 107]⟩ : ByteArray)] from rfl) (Reps.one (show Kd.M Kd.string _ _ _ (⟨#[100, 110, 109, 115, 119]⟩ : ByteArray) [.string (⟨#[100, 110, 109, 115, 119]⟩ : ByteArray)] from rfl) (Reps.one (show Kd.M Kd.string _ _ _ (⟨#[100, 110, 109, 115, 119]⟩ : ByteArray) [.string (⟨#[100, 110, 109, 115, 119]⟩ : ByteArray)] from rfl) (Reps.one (show Kd.M Kd.string _ _ _ (⟨#[100, 110, 109, 97]⟩ : ByteArray) [.string (⟨#[100, 110, 109, 97]⟩ : ByteArray)] from rfl) (Reps.one (show Kd.M Kd.string _ _ _ (⟨#[100, 110, 105]⟩ : ByteArray) [.string (⟨#[100, 110, 105]⟩ : ByteArray)] from rfl) (Reps.one (show Kd.M Kd.string _ _ _ (⟨#[100, 110, 105]⟩ : ByteArray) [.string (⟨#[100, 110, 105]⟩ : ByteArray)] from rfl) (Reps.one (show Kd.M Kd.string _ _ _ (⟨#[100, 105]⟩ : ByteArray) [.string (⟨#[100, 105]⟩ : ByteArray)] from rfl) (Reps.one (show Kd.M Kd.string _ _ _ (⟨#[100, 105]⟩ : ByteArray) [.string (⟨#[100, 105]⟩ : ByteArray)] from rfl) (Reps.one (show Kd.M Kd.string _ _ _ (⟨#[105]⟩ : ByteArray) [.string (⟨#[105]⟩ : ByteArray)] from rfl) (Reps.one (show Kd.M Kd.string _ _ _ (⟨#[99, 105]⟩ : ByteArray) [.string (⟨#[99, 105]⟩ : ByteArray)] from rfl) (Reps.one (show Kd.M Kd.string _ _ _ (⟨#[110]⟩ : ByteArray) [.string (⟨#[110]⟩ : ByteArray)] from rfl) (Reps.one (show Kd.M Kd.string _ _ _ (⟨#[105]⟩ : ByteArray) [.string (⟨#[105]⟩ : ByteArray)] from rfl) (Reps.one (show Kd.M Kd.string _ _ _ (⟨#[]⟩ : ByteArray) [.string (⟨#[]⟩ : ByteArray)] from rfl) (Reps.one (show Kd.M Kd.string _ _ _ (⟨#[100, 110, 109, 99]⟩ : ByteArray) [.string (⟨#[100, 110, 109, 99]⟩ : ByteArray)] from rfl) (Reps.none _ _))))))))))))))))))); intro v238 w4 ho5 hb hg_ hnew_; clear hg_ hnew_; (first | rw [← Ny237.out] at ho5 | (simp only [Int.reduceToNat] at ho5; rw [← Ny237.out] at ho5)); have n0_ := Azz.mk (Kd.R_lower ho5 (bZZ (by with_reducible repeat first | exact HB.out | apply bAA | apply bNN | apply bDD))); have n1_ := Azz.mk (bTT (by with_reducible repeat first | exact HB.out | apply bAA | apply bNN | apply bDD) hb); clear HB; have HO239 := n0_; have HB := n1_; clear n0_ n1_; clear hb ho5))
 (try simp only [Act.put, l_A, l_0, l_1])
 go_cut [14] (fun v14 wc => ∃ (kq : Nat) (x14_2 : Bool), v14 = .bool x14_2 ∧ Azz (cleatref04_Has.j0 kq a0 a1 y237 x14_2 = some r) ∧ Azz (kq ≤ k) ∧ Azz (Kd.R Kd.string 9 wc w.heap.size (fun _ => True) v238 y237) ∧ Azz (Below w.heap.size w wc))
 case first =>
  have H := HC3.out
  clear HC3
  by_cases c6 : a0 < 0
  ·rw [if_pos c6] at H
   have c6b0 := dT_ c6
   clear c6
   (first | rw [c6b0] | (simp only [i64_w, i32_w]; rw [c6b0]) | skip)
   have H' := Azz.mk H
   clear H
   go_wp2
   go_meet
   case rel => exact ⟨_, (true), eqS, H', ⟨leS⟩, ⟨by (with_reducible repeat (first | apply Kd.R_alloc | apply Kd.R_drewN | apply Kd.R_drew)); exact HO239.out⟩, ⟨by repeat (first | (with_reducible first | exact HB.out | apply bAA | apply bNN | apply bDD) | exact HB.out)⟩⟩
  rw [if_neg c6] at H
  have c6b0 := dF_ c6
  clear c6
  (first | rw [c6b0] | (simp only [i64_w, i32_w]; rw [c6b0]) | skip)
  have H' := Azz.mk H
  clear H
  go_wp2
  go_meet
  case rel => exact ⟨_, (decide (a0 > 16)), eqS, H', ⟨leS⟩, ⟨by (with_reducible repeat (first | apply Kd.R_alloc | apply Kd.R_drewN | apply Kd.R_drew)); exact HO239.out⟩, ⟨by repeat (first | (with_reducible first | exact HB.out | apply bAA | apply bNN | apply bDD) | exact HB.out)⟩⟩
 case rest =>
  clear HC3
  try clear c1
  try clear p2
  try clear c6
  try clear c6b0
  obtain ⟨kq, x14_2, rfl, HA, HJ2, HO_5, HB⟩ := hcut
  cases kq with
  | zero => exact absurd HA.out (by simp [cleatref04_Has.j0])
  | succ kj2 =>
   have H := HA.out
   clear HA
   simp only [cleatref04_Has.j0] at H
   by_cases c7 : x14_2 = true
   ·subst c7
    rw [if_pos rfl] at H
    obtain rfl := sI H
    go_wp2
    go_ret
    exact ⟨eqB, by repeat (first | (with_reducible first | exact HB.out | apply bAA | apply bNN | apply bDD) | exact HB.out)⟩
   replace c7 := Bool.eq_false_iff.mpr c7
   subst c7
   rw [if_neg nFT] at H
   by_cases c8 : 0 ≤ a0
   rotate_left
   ·rw [if_neg c8] at H
    exact absurd H (by simp)
   rw [if_pos c8] at H
   have c8b0 := dT_ c8
   clear c8
   by_cases c9 : a0 < (y237.length : Int)
   rotate_left
   ·rw [if_neg c9] at H
    exact absurd H (by simp)
   rw [if_pos c9] at H
   have c9b0 := dT_ c9
   clear c9
   have H' := Azz.mk H
   clear H
   obtain ⟨Ao10, co10, eo10⟩ := Kd.R_slice HO_5.out
   subst eo10
   have p240 : 0 ≤ (a0 : Int) := of_decide_eq_true (by first | (with_reducible assumption) | assumption)
   have q240 : a0 < (y237.length : Int) := of_decide_eq_true (by first | (with_reducible assumption) | assumption)
   obtain ⟨ad240, e240, hx240_0⟩ := Kd.at_string (Kd.R_reads' HO_5.out).2.2 a0 p240 q240
   cases e240
   replace p240 := eq_true p240
   replace q240 := eq_true q240
   go_wp2
   go_loopg [7] kj2 (fun kq v7 w' => ∃ (x7_2 : Int), v7 = .int .i64 x7_2 ∧ Azz (cleatref04_Has.l0 kq a1 (rdOf ByteArray.empty y237 a0) x7_2 = some r) ∧ Azz (kq ≤ kj2) ∧ Azz (Below w.heap.size w w'))
   case atStart => exact ⟨(0), eqS, H', ⟨Nat.le_refl _⟩, ⟨by repeat (first | (with_reducible first | exact HB.out | apply bAA | apply bNN | apply bDD) | exact HB.out)⟩⟩
   case round =>
    clear H'
    try clear c1
    try clear p2
    try clear q2
    try clear hx2
    try clear c6
    try clear c6b0
    try clear c7
    try clear c8
    try clear c8b0
    try clear c9
    try clear c9b0
    try clear hx240_0
    try clear p2
    try clear p240
    try clear q240
    obtain ⟨x7_2, rfl, HA, HK2, HB⟩ := hrel
    cases gk with
    | zero => exact absurd HA.out (by simp [cleatref04_Has.l0])
    | succ k2 =>
     have H := HA.out
     clear HA
     simp only [cleatref04_Has.l0] at H
     by_cases c11 : x7_2 < ((rdOf ByteArray.empty y237 a0).size : Int)
     rotate_left
     ·rw [if_neg c11] at H
      have c11b0 := dF_ c11
      clear c11
      obtain rfl := sI H
      go_wp2
      go_ret
      exact ⟨eqB, by repeat (first | (with_reducible first | exact HB.out | apply bAA | apply bNN | apply bDD) | exact HB.out)⟩
     rw [if_pos c11] at H
     have c11b0 := dT_ c11
     clear c11
     by_cases c12 : 0 ≤ x7_2
     rotate_left
     ·rw [if_neg c12] at H
      exact absurd H (by simp)
     rw [if_pos c12] at H
     have c12b0 := eq_true c12
     have c12b1 := dT_ c12
     clear c12
     by_cases c13 : x7_2 ≤ (wrap64 (x7_2 + 1))
     rotate_left
     ·rw [if_neg c13] at H
      exact absurd H (by simp)
     rw [if_pos c13] at H
     have c13b0 := eq_true c13
     have c13b1 := dT_ c13
     by_cases c14 : (wrap64 (x7_2 + 1)) ≤ ((rdOf ByteArray.empty y237 a0).size : Int)
     ·rw [if_pos c14] at H
      have c14b0 := eq_true c14
      have c14b1 := dT_ c14
      by_cases c15 : ((rdOf ByteArray.empty y237 a0).extract (x7_2 : Int).toNat ((wrap64 (x7_2 + 1)) : Int).toNat).toList = a1.toList
      ·rw [if_pos c15] at H
       obtain ⟨c15b0, c15b1⟩ := be_ c15
       clear c15
       obtain rfl := sI H
       go_wp2
       go_ret
       exact ⟨eqB, by repeat (first | (with_reducible first | exact HB.out | apply bAA | apply bNN | apply bDD) | exact HB.out)⟩
      rw [if_neg c15] at H
      obtain ⟨c15b0, c15b1⟩ := bn_ c15
      have H' := Azz.mk H
      clear H
      go_wp2
      go_roundg k2
      case measure => have := HJ2.out; have := HK2.out; omega
      case rel => exact ⟨(wrap64 (x7_2 + 1)), eqS, H', ⟨by have := HJ2.out; have := HK2.out; omega⟩, ⟨by repeat (first | (with_reducible first | exact HB.out | apply bAA | apply bNN | apply bDD) | exact HB.out)⟩⟩
     rw [if_neg c14] at H
     exact absurd H (by simp)
def cleatref01_Bit.f (k : Nat) (a0 : Int) (a1 : Int) : Option (Bool) := (cleatref01_Power.f k a1).bind fun t241 => (if t241 = 0 then (none) else (some ((Int.tmod (IntKind.u64.wrap (Int.tdiv a0 t241)) 2) == 1)))
theorem cleatref01_Bit.calls (k : Nat) (a0 : Int) (a1 : Int) (r : Bool) (w : World) (h : cleatref01_Bit.f k a0 a1 = some r) :
 Calls Tryz.prog 170 #[.int .u64 a0, .int .i64 a1] w fun e w' => e = .returned (.bool r) ∧ Drawn0 w w' := by
 have H : ((cleatref01_Power.f k a1).bind fun t241 => (if t241 = 0 then (none) else (some ((Int.tmod (IntKind.u64.wrap (Int.tdiv a0 t241)) 2) == 1)))) = some r := h
 clear h
 obtain ⟨t241, A3, H⟩ := bnd H
 (try dsimp only at H)
 by_cases c4 : t241 = 0
 ·rw [if_pos c4] at H
  exact absurd H (by simp)
 rw [if_neg c4] at H
 obtain ⟨c4b0, c4b1⟩ := bn_ c4
 obtain rfl := sI H
 go_enter Tryz.func170, Tryz.ntmps170
 go_wp2_with (first | ((with_reducible refine g_c (f := 90) rfl ?_); refine gM (some 7) rfl rfl Tryz.func90 #[.int .i64 a1] rfl ?_; (with_reducible refine (cleatref01_Power.calls k a1 t241 _ A3.out).mono ?_); rintro e w' ⟨rfl, ⟨nd, rfl⟩⟩; refine ⟨_, rfl, ?_⟩))
 go_ret
 exact ⟨by first | rfl | (simp; done) | (simp [*]; done), d0S⟩
def cleatref02_again.l0 : Nat → Int → Int → Int → Int → Option (Int)
 | 0, _, _, _, _ => none
 | k + 1, x0, x1, x5, x6 => if x6 < 64 then (if x1 = 0 then (none) else ((cleatref01_Bit.f k x0 (Int.tmod x6 x1)).bind fun t242 => (if t242 = true then ((cleatref01_Power.f k x6).bind fun t243 => (cleatref02_again.l0 k x0 x1 (IntKind.u64.wrap (x5 + t243)) (wrap64 (x6 + 1)))) else (cleatref02_again.l0 k x0 x1 x5 (wrap64 (x6 + 1)))))) else (some x5)
def cleatref02_again.f (k : Nat) (a0 : Int) (a1 : Int) : Option (Int) := cleatref02_again.l0 k a0 a1 0 0
theorem cleatref02_again.calls (k : Nat) (a0 : Int) (a1 : Int) (r : Int) (w : World) (h : cleatref02_again.f k a0 a1 = some r) :
 Calls Tryz.prog 153 #[.int .u64 a0, .int .i64 a1] w fun e w' => e = .returned (.int .u64 r) ∧ Drawn0 w w' := by
 have H : (cleatref02_again.l0 k a0 a1 0 0) = some r := h
 clear h
 have H' := Azz.mk H
 clear H
 go_enter Tryz.func153, Tryz.ntmps153
 go_wp2
 go_loopg [5, 6] k (fun kq v5 v6 w' => ∃ (x5_1 : Int) (x6_1 : Int), v5 = .int .u64 x5_1 ∧ v6 = .int .i64 x6_1 ∧ Azz (cleatref02_again.l0 kq a0 a1 x5_1 x6_1 = some r) ∧ Azz (kq ≤ k) ∧ Drawn0 w w')
 case atStart => exact ⟨(0), (0), eqS, eqS, H', ⟨Nat.le_refl _⟩, d0S⟩
 case round =>
  clear H'
  try clear c1
  try clear p2
  obtain ⟨x5_1, x6_1, rfl, rfl, HA, HK1, ⟨m1, rfl⟩⟩ := hrel
  cases gk with
  | zero => exact absurd HA.out (by simp [cleatref02_again.l0])
  | succ k1 =>
   have H := HA.out
   clear HA
   simp only [cleatref02_again.l0] at H
   by_cases c3 : x6_1 < 64
   rotate_left
   ·rw [if_neg c3] at H
    have c3b0 := dF_ c3
    clear c3
    obtain rfl := sI H
    go_wp2
    go_ret
    exact ⟨by first | rfl | (simp; done) | (simp [*]; done), d0S⟩
   rw [if_pos c3] at H
   have c3b0 := dT_ c3
   clear c3
   by_cases c4 : a1 = 0
   ·rw [if_pos c4] at H
    exact absurd H (by simp)
   rw [if_neg c4] at H
   obtain ⟨c4b0, c4b1⟩ := bn_ c4
   obtain ⟨t242, A5, H⟩ := bnd H
   (try dsimp only at H)
   by_cases c6 : t242 = true
   ·subst c6
    rw [if_pos rfl] at H
    obtain ⟨t243, A7, H⟩ := bnd H
    (try dsimp only at H)
    have H' := Azz.mk H
    clear H
    go_wp2_with (first | ((with_reducible refine g_c (f := 170) rfl ?_); refine gM (some 15) rfl rfl Tryz.func170 #[.int .u64 a0, .int .i64 (Int.tmod x6_1 a1)] rfl ?_; (with_reducible refine (cleatref01_Bit.calls k1 a0 (Int.tmod x6_1 a1) true _ A5.out).mono ?_); rintro e w' ⟨rfl, ⟨nd, rfl⟩⟩; refine ⟨_, rfl, ?_⟩) | ((with_reducible refine g_c (f := 90) rfl ?_); refine gM (some 18) rfl rfl Tryz.func90 #[.int .i64 x6_1] rfl ?_; (with_reducible refine (cleatref01_Power.calls k1 x6_1 t243 _ A7.out).mono ?_); rintro e w' ⟨rfl, ⟨nd, rfl⟩⟩; refine ⟨_, rfl, ?_⟩))
    go_roundg k1
    case measure => have := HK1.out; omega
    case rel => exact ⟨(IntKind.u64.wrap (x5_1 + t243)), (wrap64 (x6_1 + 1)), eqS, eqS, H', ⟨by have := HK1.out; omega⟩, d0S⟩
   replace c6 := Bool.eq_false_iff.mpr c6
   subst c6
   rw [if_neg nFT] at H
   have H' := Azz.mk H
   clear H
   go_wp2_with (first | ((with_reducible refine g_c (f := 170) rfl ?_); refine gM (some 15) rfl rfl Tryz.func170 #[.int .u64 a0, .int .i64 (Int.tmod x6_1 a1)] rfl ?_; (with_reducible refine (cleatref01_Bit.calls k1 a0 (Int.tmod x6_1 a1) false _ A5.out).mono ?_); rintro e w' ⟨rfl, ⟨nd, rfl⟩⟩; refine ⟨_, rfl, ?_⟩))
   go_roundg k1
   case measure => have := HK1.out; omega
   case rel => exact ⟨(x5_1), (wrap64 (x6_1 + 1)), eqS, eqS, H', ⟨by have := HK1.out; omega⟩, d0S⟩
def cleatref01_Small.f (k : Nat) (a0 : Int) (a1 : Int) : Option (Bool) := if a1 ≥ 64 then (some true) else ((cleatref01_Power.f k a1).bind fun t244 => (some (decide (a0 < t244))))
theorem cleatref01_Small.calls (k : Nat) (a0 : Int) (a1 : Int) (r : Bool) (w : World) (h : cleatref01_Small.f k a0 a1 = some r) :
 Calls Tryz.prog 172 #[.int .u64 a0, .int .i64 a1] w fun e w' => e = .returned (.bool r) ∧ Drawn0 w w' := by
 have H : (if a1 ≥ 64 then (some true) else ((cleatref01_Power.f k a1).bind fun t244 => (some (decide (a0 < t244))))) = some r := h
 clear h
 by_cases c3 : a1 ≥ 64
 ·rw [if_pos c3] at H
  have c3b0 := dT_ c3
  clear c3
  obtain rfl := sI H
  go_enter Tryz.func172, Tryz.ntmps172
  go_wp2
  go_ret
  exact ⟨by first | rfl | (simp; done) | (simp [*]; done), d0S⟩
 rw [if_neg c3] at H
 have c3b0 := dF_ c3
 clear c3
 obtain ⟨t244, A4, H⟩ := bnd H
 (try dsimp only at H)
 obtain rfl := sI H
 go_enter Tryz.func172, Tryz.ntmps172
 go_wp2_with (first | (go_at_call 90; (with_reducible refine (cleatref01_Power.calls k a1 t244 _ A4.out).mono ?_); rintro e w' ⟨rfl, ⟨nd, rfl⟩⟩))
 go_ret
 exact ⟨by first | rfl | (simp; done) | (simp [*]; done), d0S⟩
end Go.Proofs.YtngmipfodjgmmaaGreatDoor.P
