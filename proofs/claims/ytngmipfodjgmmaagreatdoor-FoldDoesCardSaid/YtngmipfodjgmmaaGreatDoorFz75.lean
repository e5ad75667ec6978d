/- Walks and plain laws of this claim, a part. -/
import Derived.Test.YtngmipfodjgmmaaGreatDoorFz72
set_option maxRecDepth 100000
set_option maxHeartbeats 8000000
set_option linter.unusedVariables false
set_option linter.unusedSimpArgs false
section
namespace Go.Proofs.YtngmipfodjgmmaaGreatDoor.P
open Go.RowKit Wa Wb Wc
attribute [local go_sem] max2_int min2_int max_two min_two max_three min_three max_four min_four
def cleatref21_Bools.l0 : Nat → List Bool → List Bool → Int → Option (Bool)
 | 0, _, _, _ => none
 | k + 1, x0, x1, x5 => if x5 < (x0.length : Int) then (if 0 ≤ x5 then (if x5 < (x1.length : Int) then (if ((rdOf false x0 x5) != (rdOf false x1 x5)) = true then (some false) else (cleatref21_Bools.l0 k x0 x1 (wrap64 (x5 + 1)))) else (none)) else (none)) else (some true)
def cleatref21_Bools.f (k : Nat) (l0 : List Bool) (l1 : List Bool) : Option (Bool) := if (l0.length : Int) = (l1.length : Int) then (cleatref21_Bools.l0 k l0 l1 0) else (some false)
theorem cleatref21_Bools.calls (k : Nat) (A0 : Option Addr) (c0 : Nat) (l0 : List Bool) (A1 : Option Addr) (c1 : Nat) (l1 : List Bool) (r : Bool) (w : World) (hr0 : Kd.C Kd.bool w A0 l0.length l0) (hc0 : l0.length ≤ c0) (hr1 : Kd.C Kd.bool w A1 l1.length l1) (hc1 : l1.length ≤ c1) (h : cleatref21_Bools.f k l0 l1 = some r) :
 Calls Tryz.prog 15 #[.slice A0 l0.length c0, .slice A1 l1.length c1] w fun e w' => e = .returned (.bool r) ∧ Drawn0 w w' := by
 have HR0 := Azz.mk hr0
 have HC0 := Azz.mk hc0
 clear hr0 hc0
 have HR1 := Azz.mk hr1
 have HC1 := Azz.mk hc1
 clear hr1 hc1
 have H : (if (l0.length : Int) = (l1.length : Int) then (cleatref21_Bools.l0 k l0 l1 0) else (some false)) = some r := h
 clear h
 by_cases c3 : (l0.length : Int) = (l1.length : Int)
 rotate_left
 ·rw [if_neg c3] at H
  obtain ⟨c3b0, c3b1⟩ := bn_ c3
  have c3b2 : (l0.length == l1.length) = false := by first | simpa using c3 | (simp at c3 ⊢; omega)
  obtain rfl := sI H
  go_enter Tryz.func15, Tryz.ntmps15
  go_wp2
  repeat (go_quiet (fail); try go_wp2)
  go_ret
  exact ⟨by first | rfl | (simp; done) | (simp [*]; done), d0S⟩
 rw [if_pos c3] at H
 obtain ⟨c3b0, c3b1⟩ := be_ c3
 have c3b2 : (l0.length == l1.length) = true := by first | simpa using c3 | (simp at c3 ⊢; omega)
 clear c3
 have H' := Azz.mk H
 clear H
 go_enter Tryz.func15, Tryz.ntmps15
 go_wp2
 repeat (go_quiet (fail); try go_wp2)
 go_loopg [5] k (fun kq v5 w' => ∃ (x5_1 : Int), v5 = .int .i64 x5_1 ∧ Azz (cleatref21_Bools.l0 kq l0 l1 x5_1 = some r) ∧ Azz (kq ≤ k) ∧ Drawn0 w w')
 case atStart => exact ⟨(0), eqS, H', ⟨Nat.le_refl _⟩, d0S⟩
 case round =>
  clear H'
  try clear c1
  try clear p2
  try clear c3
  try clear c3b0
  try clear c3b1
  try clear c3b2
  obtain ⟨x5_1, rfl, HA, HK1, ⟨m1, rfl⟩⟩ := hrel
  cases gk with
  | zero => exact absurd HA.out (by simp [cleatref21_Bools.l0])
  | succ k1 =>
   have H := HA.out
   clear HA
   simp only [cleatref21_Bools.l0] at H
   by_cases c4 : x5_1 < (l0.length : Int)
   rotate_left
   ·rw [if_neg c4] at H
    have c4b0 := dF_ c4
    clear c4
    obtain rfl := sI H
    go_wp2
    repeat (go_quiet (fail); try go_wp2)
    go_ret
    exact ⟨by first | rfl | (simp; done) | (simp [*]; done), d0S⟩
   rw [if_pos c4] at H
   have c4b0 := dT_ c4
   clear c4
   by_cases c5 : 0 ≤ x5_1
   rotate_left
   ·rw [if_neg c5] at H
    exact absurd H (by simp)
   rw [if_pos c5] at H
   have c5b0 := dT_ c5
   clear c5
   by_cases c6 : x5_1 < (l1.length : Int)
   rotate_left
   ·rw [if_neg c6] at H
    exact absurd H (by simp)
   rw [if_pos c6] at H
   have c6b0 := dT_ c6
   clear c6
   by_cases c7 : ((rdOf false l0 x5_1) != (rdOf false l1 x5_1)) = true
   ·rw [if_pos c7] at H
    have c7b0 : ((rdOf false l0 x5_1) != (rdOf false l1 x5_1)) = true := c7
    (try (have c7b1 : decide ((rdOf false l0 x5_1) = (rdOf false l1 x5_1)) = false := by simpa using c7))
    (try (have c7b2 : ((rdOf false l0 x5_1) == (rdOf false l1 x5_1)) = false := by simpa using c7))
    (try (have c7b3 : ¬ ((rdOf false l0 x5_1) = (rdOf false l1 x5_1)) := by simpa using c7))
    clear c7
    obtain rfl := sI H
    have p475 : 0 ≤ (x5_1 : Int) := of_decide_eq_true (by first | (with_reducible assumption) | assumption)
    have q475 : x5_1 < (l0.length : Int) := of_decide_eq_true (by first | (with_reducible assumption) | assumption)
    obtain ⟨ad475, e475, hx475_0⟩ := Kd.at_bool HR0.out x5_1 p475 q475
    cases e475
    replace p475 := eq_true p475
    replace q475 := eq_true q475
    have p476 : 0 ≤ (x5_1 : Int) := of_decide_eq_true (by first | (with_reducible assumption) | assumption)
    have q476 : x5_1 < (l1.length : Int) := of_decide_eq_true (by first | (with_reducible assumption) | assumption)
    obtain ⟨ad476, e476, hx476_0⟩ := Kd.at_bool HR1.out x5_1 p476 q476
    cases e476
    replace p476 := eq_true p476
    replace q476 := eq_true q476
    go_wp2
    repeat (go_quiet (fail); try go_wp2)
    go_ret
    exact ⟨by first | rfl | (simp; done) | (simp [*]; done), d0S⟩
   rw [if_neg c7] at H
   have c7b0 : ((rdOf false l0 x5_1) != (rdOf false l1 x5_1)) = false := by simpa using c7
   (try (have c7b1 : decide ((rdOf false l0 x5_1) = (rdOf false l1 x5_1)) = true := by simpa using c7))
   (try (have c7b2 : ((rdOf false l0 x5_1) == (rdOf false l1 x5_1)) = true := by simpa using c7))
   clear c7
   have H' := Azz.mk H
   clear H
   have p475 : 0 ≤ (x5_1 : Int) := of_decide_eq_true (by first | (with_reducible assumption) | assumption)
   have q475 : x5_1 < (l0.length : Int) := of_decide_eq_true (by first | (with_reducible assumption) | assumption)
   obtain ⟨ad475, e475, hx475_0⟩ := Kd.at_bool HR0.out x5_1 p475 q475
   cases e475
   replace p475 := eq_true p475
   replace q475 := eq_true q475
   have p476 : 0 ≤ (x5_1 : Int) := of_decide_eq_true (by first | (with_reducible assumption) | assumption)
   have q476 : x5_1 < (l1.length : Int) := of_decide_eq_true (by first | (with_reducible assumption) | assumption)
   obtain ⟨ad476, e476, hx476_0⟩ := Kd.at_bool HR1.out x5_1 p476 q476
   cases e476
   replace p476 := eq_true p476
   replace q476 := eq_true q476
   go_wp2
   repeat (go_quiet (fail); try go_wp2)
   go_roundg k1
   case measure => have := HK1.out; omega
   case rel => exact ⟨(wrap64 (x5_1 + 1)), eqS, H', ⟨by have := HK1.out; omega⟩, d0S⟩
def graph_section.l0 : Nat → List (S80) → Int → Int → ByteArray → Int → Bool → Int → ByteArray → List (S98) → Option (ByteArray × Int × Bool × Int × ByteArray × (List (S98)))
 | 0, _, _, _, _, _, _, _, _, _ => none
 | k + 1, x18, x19, x20, x480000, x480001, x480002, x480003, x480004, x480005 => if x20 < x19 then (if 0 ≤ x20 then (if x20 < (x18.length : Int) then (if x480005.length < 4398046511104 then (graph_section.l0 k x18 x19 (wrap64 (x20 + 1)) x480000 x480001 x480002 x480003 x480004 (x480005 ++ [(⟨(rd_T80 x18 x20).f0, (rd_T80 x18 x20).f1, (rd_T80 x18 x20).f2, (rd_T80 x18 x20).f3⟩ : S98)])) else (none)) else (none)) else (none)) else (some (x480000, x480001, x480002, x480003, x480004, x480005))
def graph_section.f (k : Nat) (a0_0 : ByteArray) (a0_1 : Int) (a0_2 : Bool) (a0_3 : Int) (a0_4 : ByteArray) (l0_5 : List (S80)) : Option (ByteArray × Int × Bool × Int × ByteArray × (List (S98))) := graph_section.l0 k l0_5 (l0_5.length : Int) 0 a0_0 a0_1 a0_2 a0_3 a0_4 ([] : List (S98))
theorem graph_section.mono_l : ∀ k, (∀ y0 y1 y2 y3 y4 y5 y6 y7 y8, LeO (graph_section.l0 k y0 y1 y2 y3 y4 y5 y6 y7 y8) (graph_section.l0 (k + 1) y0 y1 y2 y3 y4 y5 y6 y7 y8))
 | 0 => fun _ _ _ _ _ _ _ _ _ r h => by simp [graph_section.l0] at h
 | k + 1 => by
  have ih0 := graph_section.mono_l k
  intro y0 y1 y2 y3 y4 y5 y6 y7 y8
  unfold graph_section.l0
  repeat' first
  | (with_reducible exact ih0 _ _ _ _ _ _ _ _ _)
  | (with_reducible exact LeO.refl _)
  | (with_reducible exact LeO.none _)
  | (with_reducible refine LeO.ite ?_ ?_)
  | (with_reducible refine LeO.bind ?_ (fun _ => ?_))
theorem graph_section.mono : ∀ a0 a1 a2 a3 a4 a5 k, LeO (graph_section.f k a0 a1 a2 a3 a4 a5) (graph_section.f (k + 1) a0 a1 a2 a3 a4 a5) := by
 intro a0 a1 a2 a3 a4 a5 k
 have ih0 := graph_section.mono_l k
 unfold graph_section.f
 repeat' first
  | (with_reducible exact ih0 _ _ _ _ _ _ _ _ _)
  | (with_reducible exact LeO.refl _)
  | (with_reducible exact LeO.none _)
  | (with_reducible refine LeO.ite ?_ ?_)
  | (with_reducible refine LeO.bind ?_ (fun _ => ?_))
mutual
def graph_Is.l0 : Nat → List (S39) → List (S39) → Int → Int → Option (Bool)
 | 0, _, _, _, _ => none
 | k + 1, x0, x10, x11, x12 => if x12 < x11 then (if 0 ≤ x12 then (if x12 < (x10.length : Int) then ((graph_section.f k ((rd_T39 x10 x12).f0) ((rd_T39 x10 x12).f1) ((rd_T39 x10 x12).f2) ((rd_T39 x10 x12).f3) ((rd_T39 x10 x12).f4) ((rd_T39 x10 x12).f5)).bind fun bt487 => ((part_Is.f k bt487.1 bt487.2.1 bt487.2.2.1 bt487.2.2.2.1 bt487.2.2.2.2.1 bt487.2.2.2.2.2).bind fun t495 => (if t495 = true then (graph_Is.l1 k x0 x10 x11 x12 ((rd_T39 x10 x12).f5) (((rd_T39 x10 x12).f5).length : Int) 0) else (some false)))) else (none)) else (none)) else (some true)
def graph_Is.l1 : Nat → List (S39) → List (S39) → Int → Int → List (S80) → Int → Int → Option (Bool)
 | 0, _, _, _, _, _, _, _ => none
 | k + 1, x0, x10, x11, x12, x21, x22, x23 => if x23 < x22 then (if 0 ≤ x23 then (if x23 < (x21.length : Int) then (if ((rd_T80 x21 x23).f2) ≥ (x0.length : Int) then (some false) else (graph_Is.l1 k x0 x10 x11 x12 x21 x22 (wrap64 (x23 + 1)))) else (none)) else (none)) else (graph_Is.l0 k x0 x10 x11 (wrap64 (x12 + 1)))
end
def graph_Is.f (k : Nat) (l0 : List (S39)) : Option (Bool) := if (l0.length : Int) > 256 then (some false) else (graph_Is.l0 k l0 l0 (l0.length : Int) 0)
theorem graph_Is.mono_l : ∀ k, (∀ y0 y1 y2 y3, LeO (graph_Is.l0 k y0 y1 y2 y3) (graph_Is.l0 (k + 1) y0 y1 y2 y3)) ∧ (∀ y0 y1 y2 y3 y4 y5 y6, LeO (graph_Is.l1 k y0 y1 y2 y3 y4 y5 y6) (graph_Is.l1 (k + 1) y0 y1 y2 y3 y4 y5 y6))
 | 0 => ⟨fun _ _ _ _ r h => by simp [graph_Is.l0] at h, fun _ _ _ _ _ _ _ r h => by simp [graph_Is.l1] at h⟩
 | k + 1 => by
  obtain ⟨ih0, ih1⟩ := graph_Is.mono_l k
  refine ⟨?_, ?_⟩
  ·intro y0 y1 y2 y3
   unfold graph_Is.l0
   repeat' first
   | (with_reducible exact ih0 _ _ _ _)
   | (with_reducible exact ih1 _ _ _ _ _ _ _)
   | (with_reducible exact graph_section.mono _ _ _ _ _ _ _)
   | (with_reducible exact part_Is.mono _ _ _ _ _ _ _)
   | (with_reducible exact LeO.refl _)
   | (with_reducible exact LeO.none _)
   | (with_reducible refine LeO.ite ?_ ?_)
   | (with_reducible refine LeO.bind ?_ (fun _ => ?_))
  intro y0 y1 y2 y3 y4 y5 y6
  unfold graph_Is.l1
  repeat' first
  | (with_reducible exact ih0 _ _ _ _)
  | (with_reducible exact ih1 _ _ _ _ _ _ _)
  | (with_reducible exact graph_section.mono _ _ _ _ _ _ _)
  | (with_reducible exact part_Is.mono _ _ _ _ _ _ _)
  | (with_reducible exact LeO.refl _)
  | (with_reducible exact LeO.none _)
  | (with_reducible refine LeO.ite ?_ ?_)
  | (with_reducible refine LeO.bind ?_ (fun _ => ?_))
theorem graph_Is.mono : ∀ a0 k, LeO (graph_Is.f k a0) (graph_Is.f (k + 1) a0) := by
 intro a0 k
 obtain ⟨ih0, ih1⟩ := graph_Is.mono_l k
 unfold graph_Is.f
 repeat' first
  | (with_reducible exact ih0 _ _ _ _)
  | (with_reducible exact ih1 _ _ _ _ _ _ _)
  | (with_reducible exact graph_section.mono _ _ _ _ _ _ _)
  | (with_reducible exact part_Is.mono _ _ _ _ _ _ _)
  | (with_reducible exact LeO.refl _)
  | (with_reducible exact LeO.none _)
  | (with_reducible refine LeO.ite ?_ ?_)
  | (with_reducible refine LeO.bind ?_ (fun _ => ?_))
end Go.Proofs.YtngmipfodjgmmaaGreatDoor.P
end
section
namespace Go.Proofs.YtngmipfodjgmmaaGreatDoor.Pure
open Go Go.RowKit Wa Wb Wc
def relOf (r : P.S80) : P.S98 := ⟨r.f0, r.f1, r.f2, r.f3⟩
def secOf (u : P.S39) : Sc := ⟨u.f0, u.f1, u.f2, u.f3, u.f4, u.f5.map relOf⟩
theorem rd_get {α : Type} (z : α) (l : List α) (i : Nat) (hi : i < l.length) : l.getD (i : Int).toNat z = l[i] := by
 rw [Int.toNat_natCast, List.getD_eq_getElem?_getD, List.getElem?_eq_getElem hi]
 rfl
theorem section_ev (u : P.S39) (hr : u.f5.length ≤ 100000) : Ev (fun k => P.graph_section.f k u.f0 u.f1 u.f2 u.f3 u.f4 u.f5) (u.f0, u.f1, u.f2, u.f3, u.f4, u.f5.map relOf) := by
 have go : ∀ (d i : Nat), i + d = u.f5.length → Ev (fun k => P.graph_section.l0 k u.f5 (u.f5.length : Int) (i : Int) u.f0 u.f1 u.f2 u.f3 u.f4 ((u.f5.take i).map relOf)) (u.f0, u.f1, u.f2, u.f3, u.f4, u.f5.map relOf) := by
  intro d
  induction d with
  | zero =>
   intro i hi
   rw [List.take_of_length_le (by omega)]
   exact Ev.step (fun k => P.graph_section.l0.eq_2 _ _ _ _ _ _ _ _ _ _) (Ev.congr (fun k => if_neg (by omega)) (Ev.now _))
  | succ d ih =>
   intro i hi
   have e1 : wrap64 ((i : Int) + 1) = ((i + 1 : Nat) : Int) := by rw [wrap64_small _ (by omega) (by omega)]; rfl
   refine Ev.step (fun k => P.graph_section.l0.eq_2 _ _ _ _ _ _ _ _ _ _) (Ev.congr (fun k => if_pos (by omega)) (Ev.congr (fun k => if_pos (by omega)) (Ev.congr (fun k => if_pos (by omega)) (Ev.congr (fun k => if_pos (by simp; omega)) ?_))))
   rw [e1]
   have := ih (i + 1) (by omega)
   rw [List.take_succ_eq_append_getElem (by omega), List.map_append, List.map_singleton] at this
   have e2 : P.rd_T80 u.f5 (i : Int) = u.f5[i] := rd_get _ _ _ (by omega)
   rw [e2]
   exact this
 exact go u.f5.length 0 (by omega)
def UOk (us : List P.S39) : Prop := us.length ≤ 256 ∧ ∀ i, (h : i < us.length) → IsB (secOf us[i]) true ∧ ∀ j, (h2 : j < us[i].f5.length) → us[i].f5[j].f2 < us.length
def IsU (us : List P.S39) (b : Bool) : Prop := Ev (fun k => P.graph_Is.f k us) b
def Narrow (us : List P.S39) : Prop := us.length ≤ 256 → ∀ i, (h : i < us.length) → us[i].f5.length ≤ 100000
theorem isU_ends (us : List P.S39) (hr : Narrow us) : ∃ b, IsU us b ∧ (b = true ↔ UOk us) := by
 by_cases hl : us.length ≤ 256
 rotate_left
 ·exact ⟨false, Ev.congr (fun k => if_pos (by omega)) (Ev.now _), fun h => absurd h (by decide), fun h => absurd h.1 hl⟩
 have fin : ∀ i : Nat, us.length ≤ i → EndsP (fun k => P.graph_Is.l0 k us us (us.length : Int) (i : Int)) (fun b => b = true ↔ ∀ q, i ≤ q → (h : q < us.length) → IsB (secOf us[q]) true ∧ ∀ j, (h2 : j < us[q].f5.length) → us[q].f5[j].f2 < us.length) := by
  intro i hi
  exact EndsP.step (fun k => P.graph_Is.l0.eq_2 _ _ _ _ _) (EndsP.ite (fun h => absurd h (by omega)) fun _ => EndsP.now _ ⟨fun _ q a b => by omega, fun _ => rfl⟩)
 have go : ∀ (d i : Nat), i + d = us.length → EndsP (fun k => P.graph_Is.l0 k us us (us.length : Int) (i : Int)) (fun b => b = true ↔ ∀ q, i ≤ q → (h : q < us.length) → IsB (secOf us[q]) true ∧ ∀ j, (h2 : j < us[q].f5.length) → us[q].f5[j].f2 < us.length) := by
  intro d
  induction d with
  | zero => intro i hi; exact fin i (by omega)
  | succ d ih =>
   intro i hi
   have hil : i < us.length := by omega
   have e1 : wrap64 ((i : Int) + 1) = ((i + 1 : Nat) : Int) := by rw [wrap64_small _ (by omega) (by omega)]; rfl
   have e2 : P.rd_T39 us (i : Int) = us[i] := rd_get _ _ _ hil
   obtain ⟨u, hu⟩ : ∃ u, us[i] = u := ⟨_, rfl⟩
   have hrl : u.f5.length ≤ 100000 := by rw [← hu]; exact hr hl i hil
   have inner : ∀ (d2 j : Nat), j + d2 = u.f5.length → EndsP (fun k => P.graph_Is.l1 k us us (us.length : Int) (i : Int) u.f5 (u.f5.length : Int) (j : Int)) (fun b => b = true ↔ (∀ q, j ≤ q → (h2 : q < u.f5.length) → u.f5[q].f2 < us.length) ∧ ∀ q, i + 1 ≤ q → (h : q < us.length) → IsB (secOf us[q]) true ∧ ∀ j, (h2 : j < us[q].f5.length) → us[q].f5[j].f2 < us.length) := by
    intro d2
    induction d2 with
    | zero =>
     intro j hj
     refine EndsP.step (fun k => P.graph_Is.l1.eq_2 _ _ _ _ _ _ _ _) (EndsP.ite (fun h => absurd h (by omega)) fun _ => ?_)
     rw [e1]
     obtain ⟨b, hb, hi2⟩ := ih (i + 1) (by omega)
     exact ⟨b, hb, hi2.trans ⟨fun h => ⟨fun q a c => by omega, h⟩, fun h => h.2⟩⟩
    | succ d2 ih2 =>
     intro j hj
     have f1 : wrap64 ((j : Int) + 1) = ((j + 1 : Nat) : Int) := by rw [wrap64_small _ (by omega) (by omega)]; rfl
     have f2 : P.rd_T80 u.f5 (j : Int) = u.f5[j] := rd_get _ _ _ (by omega)
     refine EndsP.step (fun k => P.graph_Is.l1.eq_2 _ _ _ _ _ _ _ _) (EndsP.ite (fun _ => EndsP.ite (fun _ => EndsP.ite (fun _ => ?_) fun h => absurd (by omega) h) fun h => absurd (by omega) h) fun h => absurd (by omega) h)
     rw [f1, f2]
     refine EndsP.ite (fun c => EndsP.now _ ⟨fun h => absurd h (by decide), fun h => absurd (h.1 j (Nat.le_refl _) (by omega)) (by omega)⟩) fun c => ?_
     obtain ⟨b, hb, hi2⟩ := ih2 (j + 1) (by omega)
     refine ⟨b, hb, hi2.trans ⟨fun h => ⟨fun q a k => ?_, h.2⟩, fun h => ⟨fun q a k => h.1 q (by omega) k, h.2⟩⟩⟩
     rcases Nat.eq_or_lt_of_le a with rfl | a
     ·omega
     exact h.1 q a k
   refine EndsP.step (fun k => P.graph_Is.l0.eq_2 _ _ _ _ _) (EndsP.ite (fun _ => EndsP.ite (fun _ => EndsP.ite (fun _ => ?_) fun h => absurd (by omega) h) fun h => absurd (by omega) h) fun h => absurd (by omega) h)
   rw [e2, hu]
   refine EndsP.bind (q := fun t => t = (u.f0, u.f1, u.f2, u.f3, u.f4, u.f5.map relOf)) ⟨_, section_ev u hrl, rfl⟩ fun t _ ht => ?_
   subst ht
   obtain ⟨b0, hb0⟩ := isB_ends (secOf u)
   refine EndsP.bind (q := fun t => IsB (secOf u) t) ⟨b0, hb0, hb0⟩ fun t _ ht => EndsP.ite (fun c => ?_) fun c => EndsP.now _ ⟨fun h => absurd h (by decide), fun h => ?_⟩
   ·obtain ⟨b, hb, hi2⟩ := inner u.f5.length 0 (by omega)
    refine ⟨b, hb, hi2.trans ⟨fun h q a k => ?_, fun h => ⟨fun q _ k => ?_, fun q a k => h q (by omega) k⟩⟩⟩
    ·rcases Nat.eq_or_lt_of_le a with rfl | a
     ·rw [hu]
      exact ⟨by rw [← c]; exact ht, fun j hj => h.1 j (Nat.zero_le _) hj⟩
     exact h.2 q a k
    have := (h i (Nat.le_refl _) hil).2
    rw [hu] at this
    exact this q k
   have := (h i (Nat.le_refl _) hil).1
   rw [hu] at this
   exact absurd (isB_one ht this) c
 unfold IsU P.graph_Is.f
 obtain ⟨b, hb, hi⟩ := go us.length 0 (by omega)
 refine ⟨b, Ev.congr (fun k => if_neg (by omega)) hb, hi.trans ⟨fun h => ⟨hl, fun i h2 => h i (Nat.zero_le _) h2⟩, fun h q _ k => h.2 q k⟩⟩
theorem isU_one {us : List P.S39} {a b : Bool} (h : IsU us a) (k : IsU us b) : a = b := Ev.one h k
theorem nd_ok {us : List P.S39} (h : UOk us) : P.NdOk us := by
 refine ⟨by have := h.1; omega, fun i hi => ?_⟩
 have e2 : P.rd_T39 us (i : Int) = us[i] := rd_get _ _ _ hi
 obtain ⟨h1, h2⟩ := h.2 i hi
 have hR := (is_iff _).1 h1
 rw [e2]
 refine ⟨by have := hR.rels; simp [secOf] at this; omega, fun z hz => ?_⟩
 unfold P.ndI at hz
 rw [e2] at hz
 obtain ⟨r, hr, rfl⟩ := List.mem_map.1 hz
 obtain ⟨j, hj, rfl⟩ := List.getElem_of_mem hr
 refine ⟨?_, h2 j hj⟩
 have := rels_syms _ _ _ _ hR.each (relOf us[i].f5[j]) (List.mem_map_of_mem hr)
 exact this
end Go.Proofs.YtngmipfodjgmmaaGreatDoor.Pure
end
section
namespace Go.Proofs.YtngmipfodjgmmaaGreatDoor.Pure
open Go Go.RowKit Go.Lib Go.Shelf Wa Wb Wc
open P (Glob)
theorem C_blkH {α : Type} {d : Kd α} {W : World} {g : Nat} {t : TypeId} {xs : List α} {inner : List Value} (hb : W.heap[g]? = some (.cells inner.toArray t (0, 0))) (hr : Reps (d.K W) d.sz xs inner) (hm : xs.length ≤ maxLen) : d.C W (some ⟨g, 0, none⟩) xs.length xs := by
 have ho : W.ownsRow 0 t d.sz (.slice (some ⟨g, 0, none⟩) xs.length xs.length) xs.length inner := ⟨hr.1, .inr ⟨g, xs.length, inner.toArray, rfl, Nat.zero_le _, hb, Nat.le_refl _, hm, by simpa using hr.1, by rw [← hr.1]; simp⟩⟩
 obtain ⟨A, c, e, h⟩ := own_reads_row ho hr rfl
 cases e
 exact h
theorem info_rel : (Tryz.prog.info? 98).map (fun i => (i.zero, i.size, i.bytes)) = some (some (.agg #[.int .i64 0, .int .i64 0, .int .i64 0, .int .i64 0]), 4, 32) := by kernel_rfl
theorem rel_new {W : World} {g t : Nat} {r : P.S98} (h : W.heap[g]? = some (.cells #[.int .i64 r.f0, .int .i64 r.f1, .int .i64 r.f2, .int .i64 r.f3] t (0, 0))) : Kd.C P.k98 W (some ⟨g, 0, none⟩) 1 [r] :=
 have hr : Reps (P.k98.K W) 4 [r] (([] : List Value) ++ [.int .i64 r.f0, .int .i64 r.f1, .int .i64 r.f2, .int .i64 r.f3]) := (Reps.none (P.k98.K W) 4).snoc (P.k98_mk W r) rfl
 C_blkH (d := P.k98) (xs := [r]) h hr (by simp [maxLen])
theorem blk_n2 (w : World) (o o' : Obj) : ((w.alloc o).alloc o').heap[w.heap.size + 1]? = some o' := by
 have := blk_new (w.alloc o) o'
 rwa [World.size_alloc] at this
theorem blk_n3 (w : World) (o o' o2 : Obj) : (((w.alloc o).alloc o').alloc o2).heap[w.heap.size + 1 + 1]? = some o2 := by
 have := blk_new ((w.alloc o).alloc o') o2
 rwa [World.size_alloc, World.size_alloc] at this
theorem rel_KM {w : World} {base : Nat} {ok : Nat → Prop} {W : World} : ∀ (x : P.S98) (cs : List Value), P.k98.K W x cs → P.k98.M w base ok x cs := fun x cs h => by
 rw [P.k98_open h]
 exact P.k98_mkM w base ok x
theorem row6 {W : World} {b : Nat} {t : TypeId} {c0 c1 c2 c3 c4 c5 : Value} (h : W.heap[b]? = some (.cells #[c0, c1, c2, c3, c4, c5] t (0, 0))) (v0 v1 v2 v3 v4 v5 : Value) :
 ((((((W.setCell ⟨b, 0, none⟩ v0).setCell ⟨b, 1, none⟩ v1).setCell ⟨b, 2, none⟩ v2).setCell ⟨b, 3, none⟩ v3).setCell ⟨b, 4, none⟩ v4).setCell ⟨b, 5, none⟩ v5).heap[b]? = some (.cells #[v0, v1, v2, v3, v4, v5] t (0, 0)) := by
 refine blk_put (cs := #[v0, v1, v2, v3, v4, c5]) ?_ 5 _ rfl
 refine blk_put (cs := #[v0, v1, v2, v3, c4, c5]) ?_ 4 _ rfl
 refine blk_put (cs := #[v0, v1, v2, c3, c4, c5]) ?_ 3 _ rfl
 refine blk_put (cs := #[v0, v1, c2, c3, c4, c5]) ?_ 2 _ rfl
 refine blk_put (cs := #[v0, c1, c2, c3, c4, c5]) ?_ 1 _ rfl
 exact blk_put h 0 _ rfl
abbrev RelRow (w0 w : World) (v : Value) (xs : List P.S98) : Prop := Kd.R P.k98 98 w w0.heap.size (fun _ => True) v xs
def SecPost (u : P.S39) (w : World) (e : Ending) (w' : World) : Prop := ∃ A' c', e = .returned (.agg #[.string u.f0, .int .i64 u.f1, .bool u.f2, .int .i64 u.f3, .string u.f4, .slice A' u.f5.length c']) ∧ u.f5.length ≤ c' ∧ Kd.C P.k98 w' A' u.f5.length (u.f5.map relOf) ∧ Below w.heap.size w w'
theorem sec_types : ∀ q, q ∈ 98 :: P.k98.E → q ≠ 64 := by decide
theorem rsec_any (u : P.S39) (hr : u.f5.length ≤ 4398046510976) (w : World) (A : Option Addr) (c : Nat) (hC : Kd.C P.k80 w A u.f5.length u.f5) (hc : u.f5.length ≤ c) :
 Calls Tryz.prog 39 #[.agg #[.string u.f0, .int .i64 u.f1, .bool u.f2, .int .i64 u.f3, .string u.f4, .slice A u.f5.length c]] w (SecPost u w) := by
 have HC := Azz.mk hC
 have HL := Azz.mk hr
 clear hC
 go_enter Tryz.func39, Tryz.ntmps39
 go_wp2
 clear hr
 have HB := Azz.mk ((((Below.refl w.heap.size w).alloc (Nat.le_refl _) (.cells #[.string u.f0, .int .i64 u.f1, .bool u.f2, .int .i64 u.f3, .string u.f4, .slice A u.f5.length c] 39)).alloc (by simp) (.cells #[.string ⟨#[]⟩, .int .i64 0, .bool false, .int .i64 0, .string ⟨#[]⟩, .slice none 0 0] 64)).alloc (by simp; omega) (.cells #[.string u.f0, .int .i64 u.f1, .bool u.f2, .int .i64 u.f3, .string u.f4, .slice none 0 0] 64))
 have HX := Azz.mk (kAA (kAA (blk_new w (.cells #[.string u.f0, .int .i64 u.f1, .bool u.f2, .int .i64 u.f3, .string u.f4, .slice A u.f5.length c] 39)) (.cells #[.string ⟨#[]⟩, .int .i64 0, .bool false, .int .i64 0, .string ⟨#[]⟩, .slice none 0 0] 64)) (.cells #[.string u.f0, .int .i64 u.f1, .bool u.f2, .int .i64 u.f3, .string u.f4, .slice none 0 0] 64))
 have HI := Azz.mk (kAA (blk_n2 w (.cells #[.string u.f0, .int .i64 u.f1, .bool u.f2, .int .i64 u.f3, .string u.f4, .slice A u.f5.length c] 39) (.cells #[.string ⟨#[]⟩, .int .i64 0, .bool false, .int .i64 0, .string ⟨#[]⟩, .slice none 0 0] 64)) (.cells #[.string u.f0, .int .i64 u.f1, .bool u.f2, .int .i64 u.f3, .string u.f4, .slice none 0 0] 64))
 have HS := Azz.mk (blk_n3 w (.cells #[.string u.f0, .int .i64 u.f1, .bool u.f2, .int .i64 u.f3, .string u.f4, .slice A u.f5.length c] 39) (.cells #[.string ⟨#[]⟩, .int .i64 0, .bool false, .int .i64 0, .string ⟨#[]⟩, .slice none 0 0] 64) (.cells #[.string u.f0, .int .i64 u.f1, .bool u.f2, .int .i64 u.f3, .string u.f4, .slice none 0 0] 64))
 go_loopw [4] (fun vi wr => ∃ (i : Nat) (v : Value), i ≤ u.f5.length ∧ vi = .int .i64 i ∧ Azz (wr.heap[w.heap.size]? = some (.cells #[.string u.f0, .int .i64 u.f1, .bool u.f2, .int .i64 u.f3, .string u.f4, .slice A u.f5.length c] 39 (0, 0))) ∧ Azz (wr.heap[w.heap.size + 1]? = some (.cells #[.string ⟨#[]⟩, .int .i64 0, .bool false, .int .i64 0, .string ⟨#[]⟩, .slice none 0 0] 64 (0, 0))) ∧ Azz (wr.heap[w.heap.size + 1 + 1]? = some (.cells #[.string u.f0, .int .i64 u.f1, .bool u.f2, .int .i64 u.f3, .string u.f4, v] 64 (0, 0))) ∧ Azz (RelRow w wr v ((u.f5.take i).map relOf)) ∧ Azz (Below w.heap.size w wr)) (fun v _ => u.f5.length - (RowKit.intOf v).toNat)
 case atStart => exact ⟨0, .slice none 0 0, Nat.zero_le _, rfl, HX, HI, HS, ⟨Kd.R_nil _ _ _ _ _⟩, HB⟩
 case round =>
  clear HB HX HI HS
  obtain ⟨i, v, hi, rfl, HX, HI, HS, HR, HB⟩ := hrel
  have hl := HL.out
  obtain ⟨s0, s1, s2, s3, s4, s5⟩ := cl6 HS.out
  have sf := fun k => kFF HS.out k
  obtain ⟨q0, q1, q2, q3, q4, q5⟩ := cl6 HX.out
  clear q0 q1 q2 q3 q4
  by_cases hlt : i < u.f5.length
  ·obtain ⟨ad, ea, y0, y1, y2, y3⟩ := P.at_T80 (Kd.C_below HC.out HB.out) i (by omega) (by omega)
   subst ea
   rw [Int.toNat_natCast] at y0 y1 y2 y3
   have htk : (u.f5.take (i + 1)).map relOf = (u.f5.take i).map relOf ++ [relOf (P.rd_T80 u.f5 (i : Int))] := by
    rw [List.take_succ_eq_append_getElem hlt, List.map_append, List.map_singleton]
    congr 3
    unfold P.rd_T80
    rw [Int.toNat_natCast, List.getD_eq_getElem?_getD, List.getElem?_eq_getElem hlt]
    rfl
   obtain ⟨r, hr⟩ : ∃ r, P.rd_T80 u.f5 (i : Int) = r := ⟨_, rfl⟩
   rw [hr] at y0 y1 y2 y3 htk
   have HTk := Azz.mk htk
   have HLn := Azz.mk (show ((u.f5.take i).map relOf).length ≤ i by rw [List.length_map, List.length_take]; omega)
   have i0 : (0 : Int) ≤ (i : Int) := by omega
   have i1 : (i : Int) < u.f5.length := by omega
   obtain ⟨d0, d1, d2, d3, d4, d5⟩ := cl6 (kAA HS.out (.cells #[.int .i64 r.f0, .int .i64 r.f1, .int .i64 r.f2, .int .i64 r.f3] 80))
   have hR2 := Kd.R_alloc (Kd.R_alloc HR.out (.cells #[.int .i64 r.f0, .int .i64 r.f1, .int .i64 r.f2, .int .i64 r.f3] 80)) (.cells #[.int .i64 r.f0, .int .i64 r.f1, .int .i64 r.f2, .int .i64 r.f3] 98)
   have hS2 := kAA (kAA HS.out (.cells #[.int .i64 r.f0, .int .i64 r.f1, .int .i64 r.f2, .int .i64 r.f3] 80)) (.cells #[.int .i64 r.f0, .int .i64 r.f1, .int .i64 r.f2, .int .i64 r.f3] 98)
   have nS := Kd.R_ne hR2 hS2 (by decide)
   have hX2 := kAA (kAA HX.out (.cells #[.int .i64 r.f0, .int .i64 r.f1, .int .i64 r.f2, .int .i64 r.f3] 80)) (.cells #[.int .i64 r.f0, .int .i64 r.f1, .int .i64 r.f2, .int .i64 r.f3] 98)
   have nX := Kd.R_ne hR2 hX2 (by decide)
   have hI2 := kAA (kAA HI.out (.cells #[.int .i64 r.f0, .int .i64 r.f1, .int .i64 r.f2, .int .i64 r.f3] 80)) (.cells #[.int .i64 r.f0, .int .i64 r.f1, .int .i64 r.f2, .int .i64 r.f3] 98)
   have nI := Kd.R_ne hR2 hI2 (by decide)
   have HK := Azz.mk (And.intro hR2 (And.intro hS2 (And.intro nS (And.intro hX2 (And.intro nX (And.intro hI2 nI))))))
   clear hr htk hR2 hS2 nS hX2 nX hI2 nI
   go_wp2_with (at_builtin; refine Kd.R_append_rows P.k98 (w0 := w) w.heap.size rfl _ _ 62 98 (.agg #[.int .i64 0, .int .i64 0, .int .i64 0, .int .i64 0]) 32 rfl Tryz.underlying62 info_rel rfl (by decide) (by decide) v ((u.f5.take i).map relOf) [relOf r] (some ⟨wr.heap.size + 1, 0, none⟩) 1 1 (fun _ => True) (fun _ => False) rfl rfl HK.out.1 (rel_new (r := relOf r) (blk_n2 wr _ _)) rel_KM (fun _ h => h.elim) (fun _ _ => trivial) ((HB.out.alloc HB.out.size _).alloc (HB.out.alloc HB.out.size _).size _) ((HB.out.alloc HB.out.size _).alloc (HB.out.alloc HB.out.size _).size _).size (by have := HLn.out; omega) ?_; intro v1 w7 ho1 hb1 hg1 _; obtain ⟨Av, cv, rfl⟩ := Kd.R_slice ho1; have h7 := blk_grown HK.out.2.1 hg1 HK.out.2.2.1; have x7 := blk_grown HK.out.2.2.2.1 hg1 HK.out.2.2.2.2.1; have i7 := blk_grown HK.out.2.2.2.2.2.1 hg1 HK.out.2.2.2.2.2.2; have t5 := kCC h7 5; have tf := kFF h7 5; have H7 := Azz.mk (And.intro h7 (And.intro x7 (And.intro i7 (And.intro ho1 hb1)))); clear h7 x7 i7 ho1 hb1 hg1)
   go_roundw
   case rel =>
    obtain ⟨h7, x7, i7, ho1, hb1⟩ := H7.out
    refine ⟨i + 1, _, by omega, by go_num, ⟨blk_far x7 (by show w.heap.size ≠ w.heap.size + 1 + 1; omega) _⟩, ⟨blk_far i7 (by show w.heap.size + 1 ≠ w.heap.size + 1 + 1; omega) _⟩, ⟨blk_put h7 5 _ rfl⟩, ⟨?_⟩, ⟨bSS hb1 (by show w.heap.size ≤ w.heap.size + 1 + 1; omega)⟩⟩
    rw [HTk.out]
    have hlen : ((u.f5.take i).map relOf ++ [relOf r]).length = i + 1 := by simp; omega
    rw [hlen] at ho1
    exact Kd.R_set ho1 h7 sec_types 5 _
   case measure => simp [RowKit.intOf]; omega
  obtain rfl : i = u.f5.length := by omega
  obtain ⟨i0, i1, i2, i3, i4, i5⟩ := cl6 HI.out
  have if_ := fun k => kFF HI.out k
  have hne : w.heap.size + 1 ≠ w.heap.size + 1 + 1 := by omega
  have hR2 := HR.out
  rw [List.take_of_length_le (Nat.le_refl _)] at hR2
  obtain ⟨Aa, ca, rfl, hla, hCa⟩ := Kd.R_reads hR2
  rw [List.length_map] at hla hCa s5
  have HCa := Azz.mk (Kd.R_types hR2 HI.out sec_types)
  clear hR2 hCa
  go_wp2
  refine bodyPost_ret (results_cell_row rfl _ _ (w.heap.size + 1) 64 #[.string u.f0, .int .i64 u.f1, .bool u.f2, .int .i64 u.f3, .string u.f4, .slice Aa u.f5.length ca] (0, 0) _ rfl (row6 HI.out _ _ _ _ _ _) Tryz.underlying64 rfl (by kernel_rfl)) rfl ⟨Aa, ca, rfl, hla, ?cc, ?bel⟩
  case cc =>
   have h6 := (Kd.R_reads' (Kd.R_far (p := ⟨w.heap.size + 1, 5, none⟩) (Kd.R_far (p := ⟨w.heap.size + 1, 4, none⟩) (Kd.R_far (p := ⟨w.heap.size + 1, 3, none⟩) (Kd.R_far (p := ⟨w.heap.size + 1, 2, none⟩) (Kd.R_far (p := ⟨w.heap.size + 1, 1, none⟩) (Kd.R_far (p := ⟨w.heap.size + 1, 0, none⟩) HCa.out (fun _ hk => hk.2) (.string u.f0)) (fun _ hk => hk.2) (.int .i64 u.f1)) (fun _ hk => hk.2) (.bool u.f2)) (fun _ hk => hk.2) (.int .i64 u.f3)) (fun _ hk => hk.2) (.string u.f4)) (fun _ hk => hk.2) (.slice Aa u.f5.length ca))).2.2
   rw [List.length_map] at h6
   exact h6
  case bel => repeat (first | (with_reducible exact HB.out) | (with_reducible refine bSS ?_ (Nat.le_succ _)))
theorem section_any (u : P.S39) (hr : u.f5.length ≤ 4398046510976) (w : World) (A : Option Addr) (c : Nat) (hC : Kd.C P.k80 w A u.f5.length u.f5) (hc : u.f5.length ≤ c) :
 Calls Tryz.prog 59 #[.agg #[.string u.f0, .int .i64 u.f1, .bool u.f2, .int .i64 u.f3, .string u.f4, .slice A u.f5.length c]] w (SecPost u w) := by
 have HC := Azz.mk hC
 have HL := Azz.mk hr
 clear hC
 go_enter Tryz.func59, Tryz.ntmps59
 go_wp2
 clear hr
 have HB := Azz.mk ((((Below.refl w.heap.size w).alloc (Nat.le_refl _) (.cells #[.string u.f0, .int .i64 u.f1, .bool u.f2, .int .i64 u.f3, .string u.f4, .slice A u.f5.length c] 39)).alloc (by simp) (.cells #[.string ⟨#[]⟩, .int .i64 0, .bool false, .int .i64 0, .string ⟨#[]⟩, .slice none 0 0] 64)).alloc (by simp; omega) (.cells #[.string u.f0, .int .i64 u.f1, .bool u.f2, .int .i64 u.f3, .string u.f4, .slice none 0 0] 64))
 have HX := Azz.mk (kAA (kAA (blk_new w (.cells #[.string u.f0, .int .i64 u.f1, .bool u.f2, .int .i64 u.f3, .string u.f4, .slice A u.f5.length c] 39)) (.cells #[.string ⟨#[]⟩, .int .i64 0, .bool false, .int .i64 0, .string ⟨#[]⟩, .slice none 0 0] 64)) (.cells #[.string u.f0, .int .i64 u.f1, .bool u.f2, .int .i64 u.f3, .string u.f4, .slice none 0 0] 64))
 have HI := Azz.mk (kAA (blk_n2 w (.cells #[.string u.f0, .int .i64 u.f1, .bool u.f2, .int .i64 u.f3, .string u.f4, .slice A u.f5.length c] 39) (.cells #[.string ⟨#[]⟩, .int .i64 0, .bool false, .int .i64 0, .string ⟨#[]⟩, .slice none 0 0] 64)) (.cells #[.string u.f0, .int .i64 u.f1, .bool u.f2, .int .i64 u.f3, .string u.f4, .slice none 0 0] 64))
 have HS := Azz.mk (blk_n3 w (.cells #[.string u.f0, .int .i64 u.f1, .bool u.f2, .int .i64 u.f3, .string u.f4, .slice A u.f5.length c] 39) (.cells #[.string ⟨#[]⟩, .int .i64 0, .bool false, .int .i64 0, .string ⟨#[]⟩, .slice none 0 0] 64) (.cells #[.string u.f0, .int .i64 u.f1, .bool u.f2, .int .i64 u.f3, .string u.f4, .slice none 0 0] 64))
 go_loopw [20] (fun vi wr => ∃ (i : Nat) (v : Value), i ≤ u.f5.length ∧ vi = .int .i64 i ∧ Azz (wr.heap[w.heap.size]? = some (.cells #[.string u.f0, .int .i64 u.f1, .bool u.f2, .int .i64 u.f3, .string u.f4, .slice A u.f5.length c] 39 (0, 0))) ∧ Azz (wr.heap[w.heap.size + 1]? = some (.cells #[.string ⟨#[]⟩, .int .i64 0, .bool false, .int .i64 0, .string ⟨#[]⟩, .slice none 0 0] 64 (0, 0))) ∧ Azz (wr.heap[w.heap.size + 1 + 1]? = some (.cells #[.string u.f0, .int .i64 u.f1, .bool u.f2, .int .i64 u.f3, .string u.f4, v] 64 (0, 0))) ∧ Azz (RelRow w wr v ((u.f5.take i).map relOf)) ∧ Azz (Below w.heap.size w wr)) (fun v _ => u.f5.length - (RowKit.intOf v).toNat)
 case atStart => exact ⟨0, .slice none 0 0, Nat.zero_le _, rfl, HX, HI, HS, ⟨Kd.R_nil _ _ _ _ _⟩, HB⟩
 case round =>
  clear HB HX HI HS
  obtain ⟨i, v, hi, rfl, HX, HI, HS, HR, HB⟩ := hrel
  have hl := HL.out
  obtain ⟨s0, s1, s2, s3, s4, s5⟩ := cl6 HS.out
  have sf := fun k => kFF HS.out k
  obtain ⟨q0, q1, q2, q3, q4, q5⟩ := cl6 HX.out
  clear q0 q1 q2 q3 q4
  by_cases hlt : i < u.f5.length
  ·obtain ⟨ad, ea, y0, y1, y2, y3⟩ := P.at_T80 (Kd.C_below HC.out HB.out) i (by omega) (by omega)
   subst ea
   rw [Int.toNat_natCast] at y0 y1 y2 y3
   have htk : (u.f5.take (i + 1)).map relOf = (u.f5.take i).map relOf ++ [relOf (P.rd_T80 u.f5 (i : Int))] := by
    rw [List.take_succ_eq_append_getElem hlt, List.map_append, List.map_singleton]
    congr 3
    unfold P.rd_T80
    rw [Int.toNat_natCast, List.getD_eq_getElem?_getD, List.getElem?_eq_getElem hlt]
    rfl
   obtain ⟨r, hr⟩ : ∃ r, P.rd_T80 u.f5 (i : Int) = r := ⟨_, rfl⟩
   rw [hr] at y0 y1 y2 y3 htk
   have HTk := Azz.mk htk
   have HLn := Azz.mk (show ((u.f5.take i).map relOf).length ≤ i by rw [List.length_map, List.length_take]; omega)
   have i0 : (0 : Int) ≤ (i : Int) := by omega
   have i1 : (i : Int) < u.f5.length := by omega
   obtain ⟨d0, d1, d2, d3, d4, d5⟩ := cl6 (kAA HS.out (.cells #[.int .i64 r.f0, .int .i64 r.f1, .int .i64 r.f2, .int .i64 r.f3] 80))
   have hR2 := Kd.R_alloc (Kd.R_alloc HR.out (.cells #[.int .i64 r.f0, .int .i64 r.f1, .int .i64 r.f2, .int .i64 r.f3] 80)) (.cells #[.int .i64 r.f0, .int .i64 r.f1, .int .i64 r.f2, .int .i64 r.f3] 98)
   have hS2 := kAA (kAA HS.out (.cells #[.int .i64 r.f0, .int .i64 r.f1, .int .i64 r.f2, .int .i64 r.f3] 80)) (.cells #[.int .i64 r.f0, .int .i64 r.f1, .int .i64 r.f2, .int .i64 r.f3] 98)
   have nS := Kd.R_ne hR2 hS2 (by decide)
   have hX2 := kAA (kAA HX.out (.cells #[.int .i64 r.f0, .int .i64 r.f1, .int .i64 r.f2, .int .i64 r.f3] 80)) (.cells #[.int .i64 r.f0, .int .i64 r.f1, .int .i64 r.f2, .int .i64 r.f3] 98)
   have nX := Kd.R_ne hR2 hX2 (by decide)
   have hI2 := kAA (kAA HI.out (.cells #[.int .i64 r.f0, .int .i64 r.f1, .int .i64 r.f2, .int .i64 r.f3] 80)) (.cells #[.int .i64 r.f0, .int .i64 r.f1, .int .i64 r.f2, .int .i64 r.f3] 98)
   have nI := Kd.R_ne hR2 hI2 (by decide)
   have HK := Azz.mk (And.intro hR2 (And.intro hS2 (And.intro nS (And.intro hX2 (And.intro nX (And.intro hI2 nI))))))
   clear hr htk hR2 hS2 nS hX2 nX hI2 nI
   go_wp2_with (at_builtin; refine Kd.R_append_rows P.k98 (w0 := w) w.heap.size rfl _ _ 62 98 (.agg #[.int .i64 0, .int .i64 0, .int .i64 0, .int .i64 0]) 32 rfl Tryz.underlying62 info_rel rfl (by decide) (by decide) v ((u.f5.take i).map relOf) [relOf r] (some ⟨wr.heap.size + 1, 0, none⟩) 1 1 (fun _ => True) (fun _ => False) rfl rfl HK.out.1 (rel_new (r := relOf r) (blk_n2 wr _ _)) rel_KM (fun _ h => h.elim) (fun _ _ => trivial) ((HB.out.alloc HB.out.size _).alloc (HB.out.alloc HB.out.size _).size _) ((HB.out.alloc HB.out.size _).alloc (HB.out.alloc HB.out.size _).size _).size (by have := HLn.out; omega) ?_; intro v1 w7 ho1 hb1 hg1 _; obtain ⟨Av, cv, rfl⟩ := Kd.R_slice ho1; have h7 := blk_grown HK.out.2.1 hg1 HK.out.2.2.1; have x7 := blk_grown HK.out.2.2.2.1 hg1 HK.out.2.2.2.2.1; have i7 := blk_grown HK.out.2.2.2.2.2.1 hg1 HK.out.2.2.2.2.2.2; have t5 := kCC h7 5; have tf := kFF h7 5; have H7 := Azz.mk (And.intro h7 (And.intro x7 (And.intro i7 (And.intro ho1 hb1)))); clear h7 x7 i7 ho1 hb1 hg1)
   go_roundw
   case rel =>
    obtain ⟨h7, x7, i7, ho1, hb1⟩ := H7.out
    refine ⟨i + 1, _, by omega, by go_num, ⟨blk_far x7 (by show w.heap.size ≠ w.heap.size + 1 + 1; omega) _⟩, ⟨blk_far i7 (by show w.heap.size + 1 ≠ w.heap.size + 1 + 1; omega) _⟩, ⟨blk_put h7 5 _ rfl⟩, ⟨?_⟩, ⟨bSS hb1 (by show w.heap.size ≤ w.heap.size + 1 + 1; omega)⟩⟩
    rw [HTk.out]
    have hlen : ((u.f5.take i).map relOf ++ [relOf r]).length = i + 1 := by simp; omega
    rw [hlen] at ho1
    exact Kd.R_set ho1 h7 sec_types 5 _
   case measure => simp [RowKit.intOf]; omega
  obtain rfl : i = u.f5.length := by omega
  obtain ⟨i0, i1, i2, i3, i4, i5⟩ := cl6 HI.out
  have if_ := fun k => kFF HI.out k
  have hne : w.heap.size + 1 ≠ w.heap.size + 1 + 1 := by omega
  have hR2 := HR.out
  rw [List.take_of_length_le (Nat.le_refl _)] at hR2
  obtain ⟨Aa, ca, rfl, hla, hCa⟩ := Kd.R_reads hR2
  rw [List.length_map] at hla hCa s5
  have HCa := Azz.mk (Kd.R_types hR2 HI.out sec_types)
  clear hR2 hCa
  go_wp2
  refine bodyPost_ret (results_cell_row rfl _ _ (w.heap.size + 1) 64 #[.string u.f0, .int .i64 u.f1, .bool u.f2, .int .i64 u.f3, .string u.f4, .slice Aa u.f5.length ca] (0, 0) _ rfl (row6 HI.out _ _ _ _ _ _) Tryz.underlying64 rfl (by kernel_rfl)) rfl ⟨Aa, ca, rfl, hla, ?cc, ?bel⟩
  case cc =>
   have h6 := (Kd.R_reads' (Kd.R_far (p := ⟨w.heap.size + 1, 5, none⟩) (Kd.R_far (p := ⟨w.heap.size + 1, 4, none⟩) (Kd.R_far (p := ⟨w.heap.size + 1, 3, none⟩) (Kd.R_far (p := ⟨w.heap.size + 1, 2, none⟩) (Kd.R_far (p := ⟨w.heap.size + 1, 1, none⟩) (Kd.R_far (p := ⟨w.heap.size + 1, 0, none⟩) HCa.out (fun _ hk => hk.2) (.string u.f0)) (fun _ hk => hk.2) (.int .i64 u.f1)) (fun _ hk => hk.2) (.bool u.f2)) (fun _ hk => hk.2) (.int .i64 u.f3)) (fun _ hk => hk.2) (.string u.f4)) (fun _ hk => hk.2) (.slice Aa u.f5.length ca))).2.2
   rw [List.length_map] at h6
   exact h6
  case bel => repeat (first | (with_reducible exact HB.out) | (with_reducible refine bSS ?_ (Nat.le_succ _)))
end Go.Proofs.YtngmipfodjgmmaaGreatDoor.Pure
end
