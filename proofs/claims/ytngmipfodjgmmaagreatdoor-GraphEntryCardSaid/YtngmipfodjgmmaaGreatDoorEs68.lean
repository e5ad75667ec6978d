/- Walks and plain laws of this claim, a part. -/
import Derived.Test.YtngmipfodjgmmaaGreatDoorEs45
namespace Go.Proofs.YtngmipfodjgmmaaGreatDoor.P
open Go.RowKit Go.Proofs.YtngmipfodjgmmaaGreatDoorW.PrintWords Go.Proofs.YtngmipfodjgmmaaGreatDoorW.PrintLast Go.Proofs.YtngmipfodjgmmaaGreatDoorW.PrintMore
attribute [local go_sem] max2_int min2_int max_two min_two max_three min_three max_four min_four   -- for this text's walks alone
set_option linter.unusedVariables false
set_option linter.unusedSimpArgs false
def cleatref21_Bools.l0 : Nat → List Bool → List Bool → Int → Option (Bool)
 | 0, _, _, _ => none
 | k + 1, x0, x1, x5 => if x5 < (x0.length : Int) then (if 0 ≤ x5 then (if x5 < (x1.length : Int) then (if ((rdOf false x0 x5) != (rdOf false x1 x5)) = true then (some false) else (cleatref21_Bools.l0 k x0 x1 (wrap64 (x5 + 1)))) else (none)) else (none)) else (some true)
def cleatref21_Bools.f (k : Nat) (l0 : List Bool) (l1 : List Bool) : Option (Bool) := if (l0.length : Int) = (l1.length : Int) then (cleatref21_Bools.l0 k l0 l1 0) else (some false)
set_option maxHeartbeats 8000000 in
set_option maxRecDepth 100000 in
theorem cleatref21_Bools.calls (k : Nat) (A0 : Option Addr) (c0 : Nat) (l0 : List Bool) (A1 : Option Addr) (c1 : Nat) (l1 : List Bool) (r : Bool) (w : World) (hr0 : Kd.C Kd.bool w A0 l0.length l0) (hc0 : l0.length ≤ c0) (hr1 : Kd.C Kd.bool w A1 l1.length l1) (hc1 : l1.length ≤ c1) (h : cleatref21_Bools.f k l0 l1 = some r) :
 Calls Tryz.prog 15 #[.slice A0 l0.length c0, .slice A1 l1.length c1] w fun e w' => e = .returned (.bool r) ∧ Drawn0 w w' := by
 have HR0 := Azz.mk hr0
 have HC0 := Azz.mk hc0
 clear hr0 hc0
 have HR1 := Azz.mk hr1
 have HC1 := Azz.mk hc1
 clear hr1 hc1
 have H : (if (l0.length : Int) = (l1.length : Int) then (cleatref21_Bools.l0 k l0 l1 0) else (some false)) = some r := h
 clear h
 by_cases c3 : (l0.length : Int) = (l1.length : Int)
 ·rw [if_pos c3] at H
  have c3b0 := beq_iff_eq.mpr c3
  have c3b1 := bne_eq_false_iff_eq.mpr c3
  have c3b2 : (l0.length == l1.length) = true := by first | simpa using c3 | (simp at c3 ⊢; omega)
  clear c3
  have H' := Azz.mk H
  clear H
  go_enter Tryz.func15, Tryz.ntmps15
  go_wp2
  repeat (go_quiet (fail); try go_wp2)
  go_loopg [5] k (fun kq v5 w' => ∃ (x5_1 : Int), v5 = .int .i64 x5_1 ∧ Azz (cleatref21_Bools.l0 kq l0 l1 x5_1 = some r) ∧ Azz (kq ≤ k) ∧ Drawn0 w w')
  case atStart => exact ⟨(0), (by first | rfl | (simp; done) | (simp [*]; done)), H', ⟨Nat.le_refl _⟩, by repeat (first | exact Drawn0.refl _ | apply Drawn0.step)⟩
  case round =>
   clear H'
   try clear c1
   try clear p2
   try clear c3
   try clear c3b0
   try clear c3b1
   try clear c3b2
   obtain ⟨x5_1, rfl, HA, HK1, ⟨m1, rfl⟩⟩ := hrel
   cases gk with
   | zero => exact absurd HA.out (by simp [cleatref21_Bools.l0])
   | succ k1 =>
    have H := HA.out
    clear HA
    simp only [cleatref21_Bools.l0] at H
    by_cases c4 : x5_1 < (l0.length : Int)
    ·rw [if_pos c4] at H
     have c4b0 := decide_eq_true c4
     clear c4
     by_cases c5 : 0 ≤ x5_1
     ·rw [if_pos c5] at H
      have c5b0 := decide_eq_true c5
      clear c5
      by_cases c6 : x5_1 < (l1.length : Int)
      ·rw [if_pos c6] at H
       have c6b0 := decide_eq_true c6
       clear c6
       by_cases c7 : ((rdOf false l0 x5_1) != (rdOf false l1 x5_1)) = true
       ·rw [if_pos c7] at H
        have c7b0 : ((rdOf false l0 x5_1) != (rdOf false l1 x5_1)) = true := c7
        (try (have c7b1 : decide ((rdOf false l0 x5_1) = (rdOf false l1 x5_1)) = false := by simpa using c7))
        (try (have c7b2 : ((rdOf false l0 x5_1) == (rdOf false l1 x5_1)) = false := by simpa using c7))
        (try (have c7b3 : ¬ ((rdOf false l0 x5_1) = (rdOf false l1 x5_1)) := by simpa using c7))
        clear c7
        obtain rfl := Option.some.inj H
        have p475 : 0 ≤ (x5_1 : Int) := of_decide_eq_true (by first | (with_reducible assumption) | assumption)
        have q475 : x5_1 < (l0.length : Int) := of_decide_eq_true (by first | (with_reducible assumption) | assumption)
        obtain ⟨ad475, e475, hx475_0⟩ := Kd.at_bool HR0.out x5_1 p475 q475
        cases e475
        replace p475 := eq_true p475
        replace q475 := eq_true q475
        have p476 : 0 ≤ (x5_1 : Int) := of_decide_eq_true (by first | (with_reducible assumption) | assumption)
        have q476 : x5_1 < (l1.length : Int) := of_decide_eq_true (by first | (with_reducible assumption) | assumption)
        obtain ⟨ad476, e476, hx476_0⟩ := Kd.at_bool HR1.out x5_1 p476 q476
        cases e476
        replace p476 := eq_true p476
        replace q476 := eq_true q476
        go_wp2
        repeat (go_quiet (fail); try go_wp2)
        go_ret
        exact ⟨by first | rfl | (simp; done) | (simp [*]; done), by repeat (first | exact Drawn0.refl _ | apply Drawn0.step)⟩
       ·rw [if_neg c7] at H
        have c7b0 : ((rdOf false l0 x5_1) != (rdOf false l1 x5_1)) = false := by simpa using c7
        (try (have c7b1 : decide ((rdOf false l0 x5_1) = (rdOf false l1 x5_1)) = true := by simpa using c7))
        (try (have c7b2 : ((rdOf false l0 x5_1) == (rdOf false l1 x5_1)) = true := by simpa using c7))
        clear c7
        have H' := Azz.mk H
        clear H
        have p475 : 0 ≤ (x5_1 : Int) := of_decide_eq_true (by first | (with_reducible assumption) | assumption)
        have q475 : x5_1 < (l0.length : Int) := of_decide_eq_true (by first | (with_reducible assumption) | assumption)
        obtain ⟨ad475, e475, hx475_0⟩ := Kd.at_bool HR0.out x5_1 p475 q475
        cases e475
        replace p475 := eq_true p475
        replace q475 := eq_true q475
        have p476 : 0 ≤ (x5_1 : Int) := of_decide_eq_true (by first | (with_reducible assumption) | assumption)
        have q476 : x5_1 < (l1.length : Int) := of_decide_eq_true (by first | (with_reducible assumption) | assumption)
        obtain ⟨ad476, e476, hx476_0⟩ := Kd.at_bool HR1.out x5_1 p476 q476
        cases e476
        replace p476 := eq_true p476
        replace q476 := eq_true q476
        go_wp2
        repeat (go_quiet (fail); try go_wp2)
        go_roundg k1
        case measure => have := HK1.out; omega
        case rel => exact ⟨(wrap64 (x5_1 + 1)), (by first | rfl | (simp; done) | (simp [*]; done)), H', ⟨by have := HK1.out; omega⟩, by repeat (first | exact Drawn0.refl _ | apply Drawn0.step)⟩
      ·rw [if_neg c6] at H
       exact absurd H (by simp)
     ·rw [if_neg c5] at H
      exact absurd H (by simp)
    ·rw [if_neg c4] at H
     have c4b0 := decide_eq_false c4
     clear c4
     obtain rfl := Option.some.inj H
     go_wp2
     repeat (go_quiet (fail); try go_wp2)
     go_ret
     exact ⟨by first | rfl | (simp; done) | (simp [*]; done), by repeat (first | exact Drawn0.refl _ | apply Drawn0.step)⟩
 ·rw [if_neg c3] at H
  have c3b0 := beq_eq_false_iff_ne.mpr c3
  have c3b1 := bne_iff_ne.mpr c3
  have c3b2 : (l0.length == l1.length) = false := by first | simpa using c3 | (simp at c3 ⊢; omega)
  obtain rfl := Option.some.inj H
  go_enter Tryz.func15, Tryz.ntmps15
  go_wp2
  repeat (go_quiet (fail); try go_wp2)
  go_ret
  exact ⟨by first | rfl | (simp; done) | (simp [*]; done), by repeat (first | exact Drawn0.refl _ | apply Drawn0.step)⟩
def graph_section.l0 : Nat → List (S80) → Int → Int → ByteArray → Int → Bool → Int → ByteArray → List (S98) → Option (ByteArray × Int × Bool × Int × ByteArray × (List (S98)))
 | 0, _, _, _, _, _, _, _, _, _ => none
 | k + 1, x18, x19, x20, x480000, x480001, x480002, x480003, x480004, x480005 => if x20 < x19 then (if 0 ≤ x20 then (if x20 < (x18.length : Int) then (if x480005.length < 4398046511104 then (graph_section.l0 k x18 x19 (wrap64 (x20 + 1)) x480000 x480001 x480002 x480003 x480004 (x480005 ++ [(⟨(rd_T80 x18 x20).f0, (rd_T80 x18 x20).f1, (rd_T80 x18 x20).f2, (rd_T80 x18 x20).f3⟩ : S98)])) else (none)) else (none)) else (none)) else (some (x480000, x480001, x480002, x480003, x480004, x480005))
def graph_section.f (k : Nat) (a0_0 : ByteArray) (a0_1 : Int) (a0_2 : Bool) (a0_3 : Int) (a0_4 : ByteArray) (l0_5 : List (S80)) : Option (ByteArray × Int × Bool × Int × ByteArray × (List (S98))) := graph_section.l0 k l0_5 (l0_5.length : Int) 0 a0_0 a0_1 a0_2 a0_3 a0_4 ([] : List (S98))
theorem graph_section.mono_l : ∀ k, (∀ y0 y1 y2 y3 y4 y5 y6 y7 y8, LeO (graph_section.l0 k y0 y1 y2 y3 y4 y5 y6 y7 y8) (graph_section.l0 (k + 1) y0 y1 y2 y3 y4 y5 y6 y7 y8))
 | 0 => fun _ _ _ _ _ _ _ _ _ r h => by simp [graph_section.l0] at h
 | k + 1 => by
  have ih0 := graph_section.mono_l k
  ·intro y0 y1 y2 y3 y4 y5 y6 y7 y8
   unfold graph_section.l0
   repeat' first
   | (with_reducible exact ih0 _ _ _ _ _ _ _ _ _)
   | (with_reducible exact LeO.refl _)
   | (with_reducible exact LeO.none _)
   | (with_reducible refine LeO.ite ?_ ?_)
   | (with_reducible refine LeO.bind ?_ (fun _ => ?_))
theorem graph_section.mono : ∀ a0 a1 a2 a3 a4 a5 k, LeO (graph_section.f k a0 a1 a2 a3 a4 a5) (graph_section.f (k + 1) a0 a1 a2 a3 a4 a5) := by
 intro a0 a1 a2 a3 a4 a5 k
 have ih0 := graph_section.mono_l k
 unfold graph_section.f
 repeat' first
  | (with_reducible exact ih0 _ _ _ _ _ _ _ _ _)
  | (with_reducible exact LeO.refl _)
  | (with_reducible exact LeO.none _)
  | (with_reducible refine LeO.ite ?_ ?_)
  | (with_reducible refine LeO.bind ?_ (fun _ => ?_))
mutual
def graph_Is.l0 : Nat → List (S39) → List (S39) → Int → Int → Option (Bool)
 | 0, _, _, _, _ => none
 | k + 1, x0, x10, x11, x12 => if x12 < x11 then (if 0 ≤ x12 then (if x12 < (x10.length : Int) then ((graph_section.f k ((rd_T39 x10 x12).f0) ((rd_T39 x10 x12).f1) ((rd_T39 x10 x12).f2) ((rd_T39 x10 x12).f3) ((rd_T39 x10 x12).f4) ((rd_T39 x10 x12).f5)).bind fun bt487 => ((part_Is.f k bt487.1 bt487.2.1 bt487.2.2.1 bt487.2.2.2.1 bt487.2.2.2.2.1 bt487.2.2.2.2.2).bind fun t495 => (if t495 = true then (graph_Is.l1 k x0 x10 x11 x12 ((rd_T39 x10 x12).f5) (((rd_T39 x10 x12).f5).length : Int) 0) else (some false)))) else (none)) else (none)) else (some true)
def graph_Is.l1 : Nat → List (S39) → List (S39) → Int → Int → List (S80) → Int → Int → Option (Bool)
 | 0, _, _, _, _, _, _, _ => none
 | k + 1, x0, x10, x11, x12, x21, x22, x23 => if x23 < x22 then (if 0 ≤ x23 then (if x23 < (x21.length : Int) then (if ((rd_T80 x21 x23).f2) ≥ (x0.length : Int) then (some false) else (graph_Is.l1 k x0 x10 x11 x12 x21 x22 (wrap64 (x23 + 1)))) else (none)) else (none)) else (graph_Is.l0 k x0 x10 x11 (wrap64 (x12 + 1)))
end
def graph_Is.f (k : Nat) (l0 : List (S39)) : Option (Bool) := if (l0.length : Int) > 256 then (some false) else (graph_Is.l0 k l0 l0 (l0.length : Int) 0)
theorem graph_Is.mono_l : ∀ k, (∀ y0 y1 y2 y3, LeO (graph_Is.l0 k y0 y1 y2 y3) (graph_Is.l0 (k + 1) y0 y1 y2 y3)) ∧ (∀ y0 y1 y2 y3 y4 y5 y6, LeO (graph_Is.l1 k y0 y1 y2 y3 y4 y5 y6) (graph_Is.l1 (k + 1) y0 y1 y2 y3 y4 y5 y6))
 | 0 => ⟨fun _ _ _ _ r h => by simp [graph_Is.l0] at h, fun _ _ _ _ _ _ _ r h => by simp [graph_Is.l1] at h⟩
 | k + 1 => by
  obtain ⟨ih0, ih1⟩ := graph_Is.mono_l k
  refine ⟨?_, ?_⟩
  ·intro y0 y1 y2 y3
   unfold graph_Is.l0
   repeat' first
   | (with_reducible exact ih0 _ _ _ _)
   | (with_reducible exact ih1 _ _ _ _ _ _ _)
   | (with_reducible exact graph_section.mono _ _ _ _ _ _ _)
   | (with_reducible exact part_Is.mono _ _ _ _ _ _ _)
   | (with_reducible exact LeO.refl _)
   | (with_reducible exact LeO.none _)
   | (with_reducible refine LeO.ite ?_ ?_)
   | (with_reducible refine LeO.bind ?_ (fun _ => ?_))
  ·intro y0 y1 y2 y3 y4 y5 y6
   unfold graph_Is.l1
   repeat' first
   | (with_reducible exact ih0 _ _ _ _)
   | (with_reducible exact ih1 _ _ _ _ _ _ _)
   | (with_reducible exact graph_section.mono _ _ _ _ _ _ _)
   | (with_reducible exact part_Is.mono _ _ _ _ _ _ _)
   | (with_reducible exact LeO.refl _)
   | (with_reducible exact LeO.none _)
   | (with_reducible refine LeO.ite ?_ ?_)
   | (with_reducible refine LeO.bind ?_ (fun _ => ?_))
theorem graph_Is.mono : ∀ a0 k, LeO (graph_Is.f k a0) (graph_Is.f (k + 1) a0) := by
 intro a0 k
 obtain ⟨ih0, ih1⟩ := graph_Is.mono_l k
 unfold graph_Is.f
 repeat' first
  | (with_reducible exact ih0 _ _ _ _)
  | (with_reducible exact ih1 _ _ _ _ _ _ _)
  | (with_reducible exact graph_section.mono _ _ _ _ _ _ _)
  | (with_reducible exact part_Is.mono _ _ _ _ _ _ _)
  | (with_reducible exact LeO.refl _)
  | (with_reducible exact LeO.none _)
  | (with_reducible refine LeO.ite ?_ ?_)
  | (with_reducible refine LeO.bind ?_ (fun _ => ?_))
end Go.Proofs.YtngmipfodjgmmaaGreatDoor.P
