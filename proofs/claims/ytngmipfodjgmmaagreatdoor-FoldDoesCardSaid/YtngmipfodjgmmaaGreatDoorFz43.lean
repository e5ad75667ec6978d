/- Walks and plain laws of this claim, a part. -/
import Derived.Test.YtngmipfodjgmmaaGreatDoorFz23
set_option maxRecDepth 100000
set_option maxHeartbeats 8000000
set_option linter.unusedVariables false
set_option linter.unusedSimpArgs false
namespace Go.Proofs.YtngmipfodjgmmaaGreatDoor.P
open Go.RowKit Wa Wb Wc
attribute [local go_sem] max2_int min2_int max_two min_two max_three min_three max_four min_four
mutual
def cleatref11_Label.j0 : Nat → ByteArray → Bool → Option (Int × Bool × Bool)
 | 0, _, _ => none
 | k + 1, x0, x15 => if x15 = true then (some (0, false, false)) else (cleatref11_Label.l0 k x0 0 0)
def cleatref11_Label.l0 : Nat → ByteArray → Int → Int → Option (Int × Bool × Bool)
 | 0, _, _, _ => none
 | k + 1, x0, x5, x6 => if x6 < (wrap64 ((x0.size : Int) - 1)) then (if 0 ≤ x6 then (if x6 < (x0.size : Int) then (if (bt x0 x6) < 48 then (some (0, false, false)) else (if (bt x0 x6) > 57 then (some (0, false, false)) else (cleatref11_Label.l0 k x0 (wrap64 ((wrap64 (10 * x5)) + (((bt x0 x6) - 48) % 256))) (wrap64 (x6 + 1))))) else (none)) else (none)) else (if 0 ≤ (wrap64 ((x0.size : Int) - 1)) then (if (wrap64 ((x0.size : Int) - 1)) < (x0.size : Int) then (if (bt x0 (wrap64 ((x0.size : Int) - 1))) = 102 then (some (x5, ((bt x0 (wrap64 ((x0.size : Int) - 1))) == 102), true)) else (if (bt x0 (wrap64 ((x0.size : Int) - 1))) = 98 then (some (x5, ((bt x0 (wrap64 ((x0.size : Int) - 1))) == 102), true)) else (some (0, false, false)))) else (none)) else (none))
end
def cleatref11_Label.f (k : Nat) (a0 : ByteArray) : Option (Int × Bool × Bool) := if (a0.size : Int) < 2 then (cleatref11_Label.j0 k a0 true) else (cleatref11_Label.j0 k a0 (decide ((a0.size : Int) > 5)))
theorem cleatref11_Label.calls (k : Nat) (a0 : ByteArray) (r1 : Int) (r2 : Bool) (r3 : Bool) (w : World) (h : cleatref11_Label.f k a0 = some (r1, r2, r3)) :
 Calls Tryz.prog 101 #[.string a0] w fun e w' => e = .returned (.tuple #[.int .i64 r1, .bool r2, .bool r3]) ∧ Drawn0 w w' := by
 have H : (if (a0.size : Int) < 2 then (cleatref11_Label.j0 k a0 true) else (cleatref11_Label.j0 k a0 (decide ((a0.size : Int) > 5)))) = some (r1, r2, r3) := h
 clear h
 have HC2 := Azz.mk H
 clear H
 go_enter Tryz.func101, Tryz.ntmps101
 go_upto_region 1 with (fail)
 go_cut [15] (fun v15 wc => ∃ (kq : Nat) (x15_1 : Bool), v15 = .bool x15_1 ∧ Azz (cleatref11_Label.j0 kq a0 x15_1 = some (r1, r2, r3)) ∧ Azz (kq ≤ k) ∧ Drawn0 w wc)
 case first =>
  have H := HC2.out
  clear HC2
  by_cases c3 : (a0.size : Int) < 2
  ·rw [if_pos c3] at H
   have c3b0 := dT_ c3
   have c3b1 : decide (a0.size < 2) = true := dT_ (by omega)
   clear c3
   (first | rw [c3b0] | (simp only [i64_w, i32_w]; rw [c3b0]) | skip)
   have H' := Azz.mk H
   clear H
   go_wp2
   go_meet
   case rel => exact ⟨_, (true), eqS, H', ⟨leS⟩, d0S⟩
  rw [if_neg c3] at H
  have c3b0 := dF_ c3
  have c3b1 : decide (a0.size < 2) = false := dF_ (by omega)
  clear c3
  (first | rw [c3b0] | (simp only [i64_w, i32_w]; rw [c3b0]) | skip)
  have H' := Azz.mk H
  clear H
  go_wp2
  go_meet
  case rel => exact ⟨_, (decide ((a0.size : Int) > 5)), eqS, H', ⟨leS⟩, d0S⟩
 case rest =>
  clear HC2
  try clear c1
  try clear p2
  try clear c3
  try clear c3b0
  try clear c3b1
  obtain ⟨kq, x15_1, rfl, HA, HJ1, ⟨mc1, rfl⟩⟩ := hcut
  cases kq with
  | zero => exact absurd HA.out (by simp [cleatref11_Label.j0])
  | succ kj1 =>
   have H := HA.out
   clear HA
   simp only [cleatref11_Label.j0] at H
   by_cases c4 : x15_1 = true
   ·subst c4
    rw [if_pos rfl] at H
    simp only [sJ_, pJ_] at H
    obtain ⟨rfl, rfl, rfl⟩ := H
    go_wp2
    go_ret3
    exact ⟨by first | rfl | (simp; done) | (simp [*]; done), d0S⟩
   replace c4 := Bool.eq_false_iff.mpr c4
   subst c4
   rw [if_neg nFT] at H
   have H' := Azz.mk H
   clear H
   go_wp2
   go_loopg [5, 6] kj1 (fun kq v5 v6 w' => ∃ (x5_2 : Int) (x6_2 : Int), v5 = .int .i64 x5_2 ∧ v6 = .int .i64 x6_2 ∧ Azz (cleatref11_Label.l0 kq a0 x5_2 x6_2 = some (r1, r2, r3)) ∧ Azz (kq ≤ kj1) ∧ Drawn0 w w')
   case atStart => exact ⟨(0), (0), eqS, eqS, H', ⟨Nat.le_refl _⟩, d0S⟩
   case round =>
    clear H'
    try clear c1
    try clear p2
    try clear c3
    try clear c3b0
    try clear c3b1
    try clear c4
    try clear p2
    obtain ⟨x5_2, x6_2, rfl, rfl, HA, HK2, ⟨m2, rfl⟩⟩ := hrel
    cases gk with
    | zero => exact absurd HA.out (by simp [cleatref11_Label.l0])
    | succ k2 =>
     have H := HA.out
     clear HA
     simp only [cleatref11_Label.l0] at H
     by_cases c5 : x6_2 < (wrap64 ((a0.size : Int) - 1))
     ·rw [if_pos c5] at H
      have c5b0 := dT_ c5
      clear c5
      by_cases c6 : 0 ≤ x6_2
      rotate_left
      ·rw [if_neg c6] at H
       exact absurd H (by simp)
      rw [if_pos c6] at H
      have c6b0 := dT_ c6
      clear c6
      by_cases c7 : x6_2 < (a0.size : Int)
      rotate_left
      ·rw [if_neg c7] at H
       exact absurd H (by simp)
      rw [if_pos c7] at H
      have c7b0 := dT_ c7
      clear c7
      by_cases c9 : (bt a0 x6_2) < 48
      ·rw [if_pos c9] at H
       have c9b0 := dT_ c9
       clear c9
       simp only [sJ_, pJ_] at H
       obtain ⟨rfl, rfl, rfl⟩ := H
       have p8 : 0 ≤ (x6_2 : Int) := of_decide_eq_true (by first | (with_reducible assumption) | assumption)
       have q8 : x6_2 < (a0.size : Int) := of_decide_eq_true (by first | (with_reducible assumption) | assumption)
       have hx8 := bt_at a0 x6_2
       replace p8 := eq_true p8
       replace q8 := eq_true q8
       go_wp2
       go_ret3
       exact ⟨by first | rfl | (simp; done) | (simp [*]; done), d0S⟩
      rw [if_neg c9] at H
      have c9b0 := dF_ c9
      clear c9
      by_cases c11 : (bt a0 x6_2) > 57
      ·rw [if_pos c11] at H
       have c11b0 := dT_ c11
       clear c11
       simp only [sJ_, pJ_] at H
       obtain ⟨rfl, rfl, rfl⟩ := H
       have p8 : 0 ≤ (x6_2 : Int) := of_decide_eq_true (by first | (with_reducible assumption) | assumption)
       have q8 : x6_2 < (a0.size : Int) := of_decide_eq_true (by first | (with_reducible assumption) | assumption)
       have hx8 := bt_at a0 x6_2
       replace p8 := eq_true p8
       replace q8 := eq_true q8
       have p10 : 0 ≤ (x6_2 : Int) := of_decide_eq_true (by first | (with_reducible assumption) | assumption)
       have q10 : x6_2 < (a0.size : Int) := of_decide_eq_true (by first | (with_reducible assumption) | assumption)
       have hx10 := bt_at a0 x6_2
       replace p10 := eq_true p10
       replace q10 := eq_true q10
       go_wp2
       go_ret3
       exact ⟨by first | rfl | (simp; done) | (simp [*]; done), d0S⟩
      rw [if_neg c11] at H
      have c11b0 := dF_ c11
      clear c11
      have H' := Azz.mk H
      clear H
      have p8 : 0 ≤ (x6_2 : Int) := of_decide_eq_true (by first | (with_reducible assumption) | assumption)
      have q8 : x6_2 < (a0.size : Int) := of_decide_eq_true (by first | (with_reducible assumption) | assumption)
      have hx8 := bt_at a0 x6_2
      replace p8 := eq_true p8
      replace q8 := eq_true q8
      have p10 : 0 ≤ (x6_2 : Int) := of_decide_eq_true (by first | (with_reducible assumption) | assumption)
      have q10 : x6_2 < (a0.size : Int) := of_decide_eq_true (by first | (with_reducible assumption) | assumption)
      have hx10 := bt_at a0 x6_2
      replace p10 := eq_true p10
      replace q10 := eq_true q10
      have p12 : 0 ≤ (x6_2 : Int) := of_decide_eq_true (by first | (with_reducible assumption) | assumption)
      have q12 : x6_2 < (a0.size : Int) := of_decide_eq_true (by first | (with_reducible assumption) | assumption)
      have hx12 := bt_at a0 x6_2
      replace p12 := eq_true p12
      replace q12 := eq_true q12
      go_wp2
      go_roundg k2
      case measure => have := HJ1.out; have := HK2.out; omega
      case rel => exact ⟨(wrap64 ((wrap64 (10 * x5_2)) + (((bt a0 x6_2) - 48) % 256))), (wrap64 (x6_2 + 1)), eqS, eqS, H', ⟨by have := HJ1.out; have := HK2.out; omega⟩, d0S⟩
     rw [if_neg c5] at H
     have c5b0 := dF_ c5
     clear c5
     obtain ⟨ji13, hji13⟩ : ∃ j_ : Int, (wrap64 ((a0.size : Int) - 1)) = j_ := ⟨_, rfl⟩
     replace H : (if 0 ≤ (ji13) then (if (ji13) < (a0.size : Int) then (if (bt a0 (ji13)) = 102 then (some (x5_2, ((bt a0 (ji13)) == 102), true)) else (if (bt a0 (ji13)) = 98 then (some (x5_2, ((bt a0 (ji13)) == 102), true)) else (some (0, false, false)))) else (none)) else (none)) = some (r1, r2, r3) := by first | (rw [hji13] at H; exact H) | (simp only [hji13] at H ⊢; exact H)
     (try rw [hji13] at c5b0)
     have hji13w : (IntKind.i64.wrap ((a0.size : Int) - 1)) = ji13 := (i64_w _).trans hji13
     by_cases c14 : 0 ≤ (ji13)
     rotate_left
     ·rw [if_neg c14] at H
      exact absurd H (by simp)
     rw [if_pos c14] at H
     have c14b0 := dT_ c14
     clear c14
     by_cases c15 : (ji13) < (a0.size : Int)
     rotate_left
     ·rw [if_neg c15] at H
      exact absurd H (by simp)
     rw [if_pos c15] at H
     have c15b0 := dT_ c15
     clear c15
     by_cases c17 : (bt a0 (ji13)) = 102
     ·rw [if_pos c17] at H
      obtain ⟨c17b0, c17b1⟩ := be_ c17
      simp only [sJ_, pJ_] at H
      obtain ⟨rfl, rfl, rfl⟩ := H
      have p16 : 0 ≤ ((ji13) : Int) := of_decide_eq_true (by first | (with_reducible assumption) | assumption)
      have q16 : (ji13) < (a0.size : Int) := of_decide_eq_true (by first | (with_reducible assumption) | assumption)
      have hx16 := bt_at a0 (ji13)
      replace p16 := eq_true p16
      replace q16 := eq_true q16
      go_wp2
      go_ret3
      exact ⟨by first | rfl | (simp only [hji13, c17]; done) | (simp [hji13, c17]; done) | (simp; simp [hji13, c17]; done) | (simp; done) | (simp only [← hji13] <;> (first | rfl | simp)) | (simp [*]; done), d0S⟩
     rw [if_neg c17] at H
     obtain ⟨c17b0, c17b1⟩ := bn_ c17
     by_cases c18 : (bt a0 (ji13)) = 98
     ·rw [if_pos c18] at H
      obtain ⟨c18b0, c18b1⟩ := be_ c18
      clear c18
      simp only [sJ_, pJ_] at H
      obtain ⟨rfl, rfl, rfl⟩ := H
      have p16 : 0 ≤ ((ji13) : Int) := of_decide_eq_true (by first | (with_reducible assumption) | assumption)
      have q16 : (ji13) < (a0.size : Int) := of_decide_eq_true (by first | (with_reducible assumption) | assumption)
      have hx16 := bt_at a0 (ji13)
      replace p16 := eq_true p16
      replace q16 := eq_true q16
      go_wp2
      go_ret3
      exact ⟨by first | rfl | (simp only [hji13, c17]; done) | (simp [hji13, c17]; done) | (simp; simp [hji13, c17]; done) | (simp; done) | (simp only [← hji13] <;> (first | rfl | simp)) | (simp [*]; done), d0S⟩
     rw [if_neg c18] at H
     obtain ⟨c18b0, c18b1⟩ := bn_ c18
     simp only [sJ_, pJ_] at H
     obtain ⟨rfl, rfl, rfl⟩ := H
     have p16 : 0 ≤ ((ji13) : Int) := of_decide_eq_true (by first | (with_reducible assumption) | assumption)
     have q16 : (ji13) < (a0.size : Int) := of_decide_eq_true (by first | (with_reducible assumption) | assumption)
     have hx16 := bt_at a0 (ji13)
     replace p16 := eq_true p16
     replace q16 := eq_true q16
     go_wp2
     go_ret3
     exact ⟨by first | rfl | (simp only [hji13, c17]; done) | (simp [hji13, c17]; done) | (simp; simp [hji13, c17]; done) | (simp; done) | (simp only [← hji13] <;> (first | rfl | simp)) | (simp [*]; done), d0S⟩
def cleatref10_write.l0 : Nat → Int → Int → ByteArray → ByteArray → Option (ByteArray)
 | 0, _, _, _, _ => none
 | k + 1, x0, x1, x5, x6 => if x0 > 0 then (if x1 = 0 then (none) else (if 0 ≤ (Int.tmod x0 x1) then (if (Int.tmod x0 x1) ≤ (IntKind.u64.wrap ((Int.tmod x0 x1) + 1)) then (if (IntKind.u64.wrap ((Int.tmod x0 x1) + 1)) ≤ (x5.size : Int) then (if (x5.extract ((Int.tmod x0 x1) : Int).toNat ((IntKind.u64.wrap ((Int.tmod x0 x1) + 1)) : Int).toNat).size + x6.size ≤ 9223372036854775807 then (cleatref10_write.l0 k (IntKind.u64.wrap (Int.tdiv x0 x1)) x1 x5 ((x5.extract ((Int.tmod x0 x1) : Int).toNat ((IntKind.u64.wrap ((Int.tmod x0 x1) + 1)) : Int).toNat) ++ x6)) else (none)) else (none)) else (none)) else (none))) else (if x6.toList = ([] : List UInt8) then (if x1 = 0 then (none) else (if 0 ≤ (Int.tmod x0 x1) then (if (Int.tmod x0 x1) ≤ (IntKind.u64.wrap ((Int.tmod x0 x1) + 1)) then (if (IntKind.u64.wrap ((Int.tmod x0 x1) + 1)) ≤ (x5.size : Int) then (if (x5.extract ((Int.tmod x0 x1) : Int).toNat ((IntKind.u64.wrap ((Int.tmod x0 x1) + 1)) : Int).toNat).size + x6.size ≤ 9223372036854775807 then (cleatref10_write.l0 k (IntKind.u64.wrap (Int.tdiv x0 x1)) x1 x5 ((x5.extract ((Int.tmod x0 x1) : Int).toNat ((IntKind.u64.wrap ((Int.tmod x0 x1) + 1)) : Int).toNat) ++ x6)) else (none)) else (none)) else (none)) else (none))) else (some x6))
def cleatref10_write.f (k : Nat) (a0 : Int) (a1 : Int) : Option (ByteArray) := cleatref10_write.l0 k a0 a1 (⟨#[48, 49, 50, 51, 52, 53, 54, 55, 56, 57, 97, 98, 99, 100, 101, 102]⟩ : ByteArray) (⟨#[]⟩ : ByteArray)
theorem cleatref10_write.mono_l : ∀ k, (∀ y0 y1 y2 y3, LeO (cleatref10_write.l0 k y0 y1 y2 y3) (cleatref10_write.l0 (k + 1) y0 y1 y2 y3))
 | 0 => fun _ _ _ _ r h => by simp [cleatref10_write.l0] at h
 | k + 1 => by
  have ih0 := cleatref10_write.mono_l k
  intro y0 y1 y2 y3
  unfold cleatref10_write.l0
  repeat' first
  | (with_reducible exact ih0 _ _ _ _)
  | (with_reducible exact LeO.refl _)
  | (with_reducible exact LeO.none _)
  | (with_reducible refine LeO.ite ?_ ?_)
  | (with_reducible refine LeO.bind ?_ (fun _ => ?_))
theorem cleatref10_write.mono : ∀ a0 a1 k, LeO (cleatref10_write.f k a0 a1) (cleatref10_write.f (k + 1) a0 a1) := by
 intro a0 a1 k
 have ih0 := cleatref10_write.mono_l k
 unfold cleatref10_write.f
 repeat' first
  | (with_reducible exact ih0 _ _ _ _)
  | (with_reducible exact LeO.refl _)
  | (with_reducible exact LeO.none _)
  | (with_reducible refine LeO.ite ?_ ?_)
  | (with_reducible refine LeO.bind ?_ (fun _ => ?_))
theorem slice_lh (D : ByteArray) (l h : Int) (h0 : 0 ≤ l) (h1 : l ≤ h) (h2 : h ≤ D.size) (W : World) : (Instr.slice 9 (.string D) (some (.int .u64 l)) (some (.int .u64 h)) none).run Tryz.prog W = .ok (.string (D.extract l.toNat h.toNat)) W := by
 have e : ((h.toNat : Nat) : Int) = h := Int.toNat_of_nonneg (by omega)
 simp [Instr.slice, run_underlying Tryz.underlying9, Instr.sliceBounds, run_sliceBound, sliced, h0, h1, h2, e, (by omega : 0 ≤ h)]
theorem cleatref10_write.calls (k : Nat) (a0 : Int) (a1 : Int) (r : ByteArray) (w : World) (h : cleatref10_write.f k a0 a1 = some r) :
 Calls Tryz.prog 169 #[.int .u64 a0, .int .u64 a1] w fun e w' => e = .returned (.string r) ∧ Drawn0 w w' := by
 have H : (cleatref10_write.l0 k a0 a1 (⟨#[48, 49, 50, 51, 52, 53, 54, 55, 56, 57, 97, 98, 99, 100, 101, 102]⟩ : ByteArray) (⟨#[]⟩ : ByteArray)) = some r := h
 clear h
 have H' := Azz.mk H
 clear H
 go_enter Tryz.func169, Tryz.ntmps169
 go_wp2
 go_loopg [0, 6] k (fun kq v0 v6 w' => ∃ (x0_1 : Int) (x6_1 : ByteArray), v0 = .int .u64 x0_1 ∧ v6 = .string x6_1 ∧ Azz (cleatref10_write.l0 kq x0_1 a1 (⟨#[48, 49, 50, 51, 52, 53, 54, 55, 56, 57, 97, 98, 99, 100, 101, 102]⟩ : ByteArray) x6_1 = some r) ∧ Azz (kq ≤ k) ∧ Drawn0 w w')
 case atStart => exact ⟨(a0), ((⟨#[]⟩ : ByteArray)), eqS, eqS, H', ⟨Nat.le_refl _⟩, d0S⟩
 case round =>
  clear H'
  try clear c1
  try clear p2
  obtain ⟨x0_1, x6_1, rfl, rfl, HA, HK1, ⟨m1, rfl⟩⟩ := hrel
  cases gk with
  | zero => exact absurd HA.out (by simp [cleatref10_write.l0])
  | succ k1 =>
   have H := HA.out
   clear HA
   simp only [cleatref10_write.l0] at H
   by_cases c3 : x0_1 > 0
   ·rw [if_pos c3] at H
    have c3b0 := dT_ c3
    clear c3
    by_cases c4 : a1 = 0
    ·rw [if_pos c4] at H
     exact absurd H (by simp)
    rw [if_neg c4] at H
    obtain ⟨c4b0, c4b1⟩ := bn_ c4
    obtain ⟨ji5, hji5⟩ : ∃ j_ : Int, (Int.tmod x0_1 a1) = j_ := ⟨_, rfl⟩
    replace H : (if 0 ≤ (ji5) then (if (ji5) ≤ (IntKind.u64.wrap ((ji5) + 1)) then (if (IntKind.u64.wrap ((ji5) + 1)) ≤ ((⟨#[48, 49, 50, 51, 52, 53, 54, 55, 56, 57, 97, 98, 99, 100, 101, 102]⟩ : ByteArray).size : Int) then (if ((⟨#[48, 49, 50, 51, 52, 53, 54, 55, 56, 57, 97, 98, 99, 100, 101, 102]⟩ : ByteArray).extract ((ji5) : Int).toNat ((IntKind.u64.wrap ((ji5) + 1)) : Int).toNat).size + x6_1.size ≤ 9223372036854775807 then (cleatref10_write.l0 k1 (IntKind.u64.wrap (Int.tdiv x0_1 a1)) a1 (⟨#[48, 49, 50, 51, 52, 53, 54, 55, 56, 57, 97, 98, 99, 100, 101, 102]⟩ : ByteArray) (((⟨#[48, 49, 50, 51, 52, 53, 54, 55, 56, 57, 97, 98, 99, 100, 101, 102]⟩ : ByteArray).extract ((ji5) : Int).toNat ((IntKind.u64.wrap ((ji5) + 1)) : Int).toNat) ++ x6_1)) else (none)) else (none)) else (none)) else (none)) = some r := by first | (rw [hji5] at H; exact H) | (simp only [hji5] at H ⊢; exact H)
    by_cases c6 : 0 ≤ (ji5)
    rotate_left
    ·rw [if_neg c6] at H
     exact absurd H (by simp)
    rw [if_pos c6] at H
    have c6b0 := eq_true c6
    have c6b1 := dT_ c6
    by_cases c7 : (ji5) ≤ (IntKind.u64.wrap ((ji5) + 1))
    rotate_left
    ·rw [if_neg c7] at H
     exact absurd H (by simp)
    rw [if_pos c7] at H
    have c7b0 := eq_true c7
    have c7b1 := dT_ c7
    by_cases c8 : (IntKind.u64.wrap ((ji5) + 1)) ≤ ((⟨#[48, 49, 50, 51, 52, 53, 54, 55, 56, 57, 97, 98, 99, 100, 101, 102]⟩ : ByteArray).size : Int)
    ·rw [if_pos c8] at H
     have hsl := slice_lh (⟨#[48, 49, 50, 51, 52, 53, 54, 55, 56, 57, 97, 98, 99, 100, 101, 102]⟩ : ByteArray) ji5 (IntKind.u64.wrap ((ji5) + 1)) c6 c7 c8
     have c8b0 := eq_true c8
     have c8b1 := dT_ c8
     by_cases c9 : ((⟨#[48, 49, 50, 51, 52, 53, 54, 55, 56, 57, 97, 98, 99, 100, 101, 102]⟩ : ByteArray).extract ((ji5) : Int).toNat ((IntKind.u64.wrap ((ji5) + 1)) : Int).toNat).size + x6_1.size ≤ 9223372036854775807
     ·rw [if_pos c9] at H
      have c9b0 := eq_true c9
      have c9b1 := dT_ c9
      try have c9b2 : (9223372036854775807 < ((⟨#[48, 49, 50, 51, 52, 53, 54, 55, 56, 57, 97, 98, 99, 100, 101, 102]⟩ : ByteArray).extract ((ji5) : Int).toNat ((IntKind.u64.wrap ((ji5) + 1)) : Int).toNat).size + x6_1.size) = False := eq_false (Nat.not_lt.2 c9)
      have H' := Azz.mk H
      clear H
      go_wp2
      go_roundg k1
      case measure => have := HK1.out; omega
      case rel => exact ⟨(IntKind.u64.wrap (Int.tdiv x0_1 a1)), (((⟨#[48, 49, 50, 51, 52, 53, 54, 55, 56, 57, 97, 98, 99, 100, 101, 102]⟩ : ByteArray).extract ((ji5) : Int).toNat ((IntKind.u64.wrap ((ji5) + 1)) : Int).toNat) ++ x6_1), eqS, (by first | rfl | (simp; done) | (simp only [← hji5] <;> (first | rfl | simp)) | (simp [*]; done)), H', ⟨by have := HK1.out; omega⟩, d0S⟩
     rw [if_neg c9] at H
     exact absurd H (by simp)
    rw [if_neg c8] at H
    exact absurd H (by simp)
   rw [if_neg c3] at H
   have c3b0 := dF_ c3
   clear c3
   by_cases c10 : x6_1.toList = ([] : List UInt8)
   rotate_left
   ·rw [if_neg c10] at H
    obtain ⟨c10b0, c10b1⟩ := bn_ c10
    obtain rfl := sI H
    go_wp2
    go_ret
    exact ⟨by first | rfl | (simp; done) | (simp [*]; done), d0S⟩
   rw [if_pos c10] at H
   obtain ⟨c10b0, c10b1⟩ := be_ c10
   clear c10
   by_cases c11 : a1 = 0
   ·rw [if_pos c11] at H
    exact absurd H (by simp)
   rw [if_neg c11] at H
   obtain ⟨c11b0, c11b1⟩ := bn_ c11
   obtain ⟨ji12, hji12⟩ : ∃ j_ : Int, (Int.tmod x0_1 a1) = j_ := ⟨_, rfl⟩
   replace H : (if 0 ≤ (ji12) then (if (ji12) ≤ (IntKind.u64.wrap ((ji12) + 1)) then (if (IntKind.u64.wrap ((ji12) + 1)) ≤ ((⟨#[48, 49, 50, 51, 52, 53, 54, 55, 56, 57, 97, 98, 99, 100, 101, 102]⟩ : ByteArray).size : Int) then (if ((⟨#[48, 49, 50, 51, 52, 53, 54, 55, 56, 57, 97, 98, 99, 100, 101, 102]⟩ : ByteArray).extract ((ji12) : Int).toNat ((IntKind.u64.wrap ((ji12) + 1)) : Int).toNat).size + x6_1.size ≤ 9223372036854775807 then (cleatref10_write.l0 k1 (IntKind.u64.wrap (Int.tdiv x0_1 a1)) a1 (⟨#[48, 49, 50, 51, 52, 53, 54, 55, 56, 57, 97, 98, 99, 100, 101, 102]⟩ : ByteArray) (((⟨#[48, 49, 50, 51, 52, 53, 54, 55, 56, 57, 97, 98, 99, 100, 101, 102]⟩ : ByteArray).extract ((ji12) : Int).toNat ((IntKind.u64.wrap ((ji12) + 1)) : Int).toNat) ++ x6_1)) else (none)) else (none)) else (none)) else (none)) = some r := by first | (rw [hji12] at H; exact H) | (simp only [hji12] at H ⊢; exact H)
   by_cases c13 : 0 ≤ (ji12)
   rotate_left
   ·rw [if_neg c13] at H
    exact absurd H (by simp)
   rw [if_pos c13] at H
   have c13b0 := eq_true c13
   have c13b1 := dT_ c13
   by_cases c14 : (ji12) ≤ (IntKind.u64.wrap ((ji12) + 1))
   rotate_left
   ·rw [if_neg c14] at H
    exact absurd H (by simp)
   rw [if_pos c14] at H
   have c14b0 := eq_true c14
   have c14b1 := dT_ c14
   by_cases c15 : (IntKind.u64.wrap ((ji12) + 1)) ≤ ((⟨#[48, 49, 50, 51, 52, 53, 54, 55, 56, 57, 97, 98, 99, 100, 101, 102]⟩ : ByteArray).size : Int)
   ·rw [if_pos c15] at H
    have hsl := slice_lh (⟨#[48, 49, 50, 51, 52, 53, 54, 55, 56, 57, 97, 98, 99, 100, 101, 102]⟩ : ByteArray) ji12 (IntKind.u64.wrap ((ji12) + 1)) c13 c14 c15
    have c15b0 := eq_true c15
    have c15b1 := dT_ c15
    by_cases c16 : ((⟨#[48, 49, 50, 51, 52, 53, 54, 55, 56, 57, 97, 98, 99, 100, 101, 102]⟩ : ByteArray).extract ((ji12) : Int).toNat ((IntKind.u64.wrap ((ji12) + 1)) : Int).toNat).size + x6_1.size ≤ 9223372036854775807
    ·rw [if_pos c16] at H
     have c16b0 := eq_true c16
     have c16b1 := dT_ c16
     try have c16b2 : (9223372036854775807 < ((⟨#[48, 49, 50, 51, 52, 53, 54, 55, 56, 57, 97, 98, 99, 100, 101, 102]⟩ : ByteArray).extract ((ji12) : Int).toNat ((IntKind.u64.wrap ((ji12) + 1)) : Int).toNat).size + x6_1.size) = False := eq_false (Nat.not_lt.2 c16)
     have H' := Azz.mk H
     clear H
     go_wp2
     go_roundg k1
     case measure => have := HK1.out; omega
     case rel => exact ⟨(IntKind.u64.wrap (Int.tdiv x0_1 a1)), (((⟨#[48, 49, 50, 51, 52, 53, 54, 55, 56, 57, 97, 98, 99, 100, 101, 102]⟩ : ByteArray).extract ((ji12) : Int).toNat ((IntKind.u64.wrap ((ji12) + 1)) : Int).toNat) ++ x6_1), eqS, (by first | rfl | (simp; done) | (simp only [← hji12] <;> (first | rfl | simp)) | (simp [*]; done)), H', ⟨by have := HK1.out; omega⟩, d0S⟩
    rw [if_neg c16] at H
    exact absurd H (by simp)
   rw [if_neg c15] at H
   exact absurd H (by simp)
def cleatref10_Text.f (k : Nat) (a0 : Int) : Option (ByteArray) := (cleatref10_write.f k a0 10).bind fun t194 => (some t194)
theorem cleatref10_Text.mono : ∀ a0 k, LeO (cleatref10_Text.f k a0) (cleatref10_Text.f (k + 1) a0) := by
 intro a0 k
 unfold cleatref10_Text.f
 repeat' first
  | (with_reducible exact cleatref10_write.mono _ _ _)
  | (with_reducible exact LeO.refl _)
  | (with_reducible exact LeO.none _)
  | (with_reducible refine LeO.ite ?_ ?_)
  | (with_reducible refine LeO.bind ?_ (fun _ => ?_))
theorem cleatref10_Text.calls (k : Nat) (a0 : Int) (r : ByteArray) (w : World) (h : cleatref10_Text.f k a0 = some r) :
 Calls Tryz.prog 150 #[.int .u64 a0] w fun e w' => e = .returned (.string r) ∧ Drawn0 w w' := by
 have H : ((cleatref10_write.f k a0 10).bind fun t194 => (some t194)) = some r := h
 clear h
 obtain ⟨t194, A2, H⟩ := bnd H
 (try dsimp only at H)
 obtain rfl := sI H
 go_enter Tryz.func150, Tryz.ntmps150
 go_wp2_with (first | ((with_reducible refine g_c (f := 169) rfl ?_); refine gM (some 4) rfl rfl Tryz.func169 #[.int .u64 a0, .int .u64 10] rfl ?_; (with_reducible refine (cleatref10_write.calls k a0 10 t194 _ A2.out).mono ?_); rintro e w' ⟨rfl, ⟨nd, rfl⟩⟩; refine ⟨_, rfl, ?_⟩))
 go_ret
 exact ⟨by first | rfl | (simp; done) | (simp [*]; done), d0S⟩
end Go.Proofs.YtngmipfodjgmmaaGreatDoor.P
