/- When units are right, told plainly. -/
import Derived.Test.YtngmipfodjgmmaaDoorFr44
import Derived.Test.YtngmipfodjgmmaaDoorFr48
import Derived.Test.YtngmipfodjgmmaaDoorFr49
namespace Go.Proofs.YtngmipfodjgmmaaDoor.Pure
open Go Go.RowKit Go.Proofs.YtngmipfodjgmmaaDoorW.PrintWords Go.Proofs.YtngmipfodjgmmaaDoorW.PrintLast Go.Proofs.YtngmipfodjgmmaaDoorW.PrintMore
set_option linter.unusedVariables false
set_option linter.unusedSimpArgs false
def relOf (r : P.S64) : P.S85 := ⟨r.f0, r.f1, r.f2, r.f3⟩
/-- A unit as the section that it would be. -/
def secOf (u : P.S36) : Sc := ⟨u.f0, u.f1, u.f2, u.f3, u.f4, u.f5.map relOf⟩
theorem rd_get {α : Type} (z : α) (l : List α) (i : Nat) (hi : i < l.length) : l.getD (i : Int).toNat z = l[i] := by
 rw [Int.toNat_natCast, List.getD_eq_getElem?_getD, List.getElem?_eq_getElem hi]
 rfl
theorem section_ev (u : P.S36) (hr : u.f5.length ≤ 100000) : Ev (fun k => P.graph_section.f k u.f0 u.f1 u.f2 u.f3 u.f4 u.f5) (u.f0, u.f1, u.f2, u.f3, u.f4, u.f5.map relOf) := by
 have go : ∀ (d i : Nat), i + d = u.f5.length → Ev (fun k => P.graph_section.l0 k u.f5 (u.f5.length : Int) (i : Int) u.f0 u.f1 u.f2 u.f3 u.f4 ((u.f5.take i).map relOf)) (u.f0, u.f1, u.f2, u.f3, u.f4, u.f5.map relOf) := by
  intro d
  induction d with
  | zero =>
   intro i hi
   rw [List.take_of_length_le (by omega)]
   exact Ev.step (fun k => P.graph_section.l0.eq_2 _ _ _ _ _ _ _ _ _ _) (Ev.congr (fun k => if_neg (by omega)) (Ev.now _))
  | succ d ih =>
   intro i hi
   have e1 : wrap64 ((i : Int) + 1) = ((i + 1 : Nat) : Int) := by rw [wrap64_small _ (by omega) (by omega)]; rfl
   refine Ev.step (fun k => P.graph_section.l0.eq_2 _ _ _ _ _ _ _ _ _ _) (Ev.congr (fun k => if_pos (by omega)) (Ev.congr (fun k => if_pos (by omega)) (Ev.congr (fun k => if_pos (by omega)) (Ev.congr (fun k => if_pos (by simp; omega)) ?_))))
   rw [e1]
   have := ih (i + 1) (by omega)
   rw [List.take_succ_eq_append_getElem (by omega), List.map_append, List.map_singleton] at this
   have e2 : P.rd_T64 u.f5 (i : Int) = u.f5[i] := rd_get _ _ _ (by omega)
   rw [e2]
   exact this
 exact go u.f5.length 0 (by omega)
/-- Units are right. -/
def UOk (us : List P.S36) : Prop := us.length ≤ 256 ∧ ∀ i, (h : i < us.length) → IsB (secOf us[i]) true ∧ ∀ j, (h2 : j < us[i].f5.length) → us[i].f5[j].f2 < us.length
def IsU (us : List P.S36) (b : Bool) : Prop := Ev (fun k => P.graph_Is.f k us) b
def Narrow (us : List P.S36) : Prop := us.length ≤ 256 → ∀ i, (h : i < us.length) → us[i].f5.length ≤ 100000
theorem isU_ends (us : List P.S36) (hr : Narrow us) : ∃ b, IsU us b ∧ (b = true ↔ UOk us) := by
 by_cases hl : us.length ≤ 256
 ·have fin : ∀ i : Nat, us.length ≤ i → EndsP (fun k => P.graph_Is.l0 k us us (us.length : Int) (i : Int)) (fun b => b = true ↔ ∀ q, i ≤ q → (h : q < us.length) → IsB (secOf us[q]) true ∧ ∀ j, (h2 : j < us[q].f5.length) → us[q].f5[j].f2 < us.length) := by
   intro i hi
   exact EndsP.step (fun k => P.graph_Is.l0.eq_2 _ _ _ _ _) (EndsP.ite (fun h => absurd h (by omega)) fun _ => EndsP.now _ ⟨fun _ q a b => by omega, fun _ => rfl⟩)
  have go : ∀ (d i : Nat), i + d = us.length → EndsP (fun k => P.graph_Is.l0 k us us (us.length : Int) (i : Int)) (fun b => b = true ↔ ∀ q, i ≤ q → (h : q < us.length) → IsB (secOf us[q]) true ∧ ∀ j, (h2 : j < us[q].f5.length) → us[q].f5[j].f2 < us.length) := by
   intro d
   induction d with
   | zero => intro i hi; exact fin i (by omega)
   | succ d ih =>
    intro i hi
    have hil : i < us.length := by omega
    have e1 : wrap64 ((i : Int) + 1) = ((i + 1 : Nat) : Int) := by rw [wrap64_small _ (by omega) (by omega)]; rfl
    have e2 : P.rd_T36 us (i : Int) = us[i] := rd_get _ _ _ hil
    obtain ⟨u, hu⟩ : ∃ u, us[i] = u := ⟨_, rfl⟩
    have hrl : u.f5.length ≤ 100000 := by rw [← hu]; exact hr hl i hil
    have inner : ∀ (d2 j : Nat), j + d2 = u.f5.length → EndsP (fun k => P.graph_Is.l1 k us us (us.length : Int) (i : Int) u.f5 (u.f5.length : Int) (j : Int)) (fun b => b = true ↔ (∀ q, j ≤ q → (h2 : q < u.f5.length) → u.f5[q].f2 < us.length) ∧ ∀ q, i + 1 ≤ q → (h : q < us.length) → IsB (secOf us[q]) true ∧ ∀ j, (h2 : j < us[q].f5.length) → us[q].f5[j].f2 < us.length) := by
     intro d2
     induction d2 with
     | zero =>
      intro j hj
      refine EndsP.step (fun k => P.graph_Is.l1.eq_2 _ _ _ _ _ _ _ _) (EndsP.ite (fun h => absurd h (by omega)) fun _ => ?_)
      rw [e1]
      obtain ⟨b, hb, hi2⟩ := ih (i + 1) (by omega)
      exact ⟨b, hb, hi2.trans ⟨fun h => ⟨fun q a c => by omega, h⟩, fun h => h.2⟩⟩
     | succ d2 ih2 =>
      intro j hj
      have f1 : wrap64 ((j : Int) + 1) = ((j + 1 : Nat) : Int) := by rw [wrap64_small _ (by omega) (by omega)]; rfl
      have f2 : P.rd_T64 u.f5 (j : Int) = u.f5[j] := rd_get _ _ _ (by omega)
      refine EndsP.step (fun k => P.graph_Is.l1.eq_2 _ _ _ _ _ _ _ _) (EndsP.ite (fun _ => EndsP.ite (fun _ => EndsP.ite (fun _ => ?_) fun h => absurd (by omega) h) fun h => absurd (by omega) h) fun h => absurd (by omega) h)
      rw [f1, f2]
      refine EndsP.ite (fun c => EndsP.now _ ⟨fun h => absurd h (by decide), fun h => absurd (h.1 j (Nat.le_refl _) (by omega)) (by omega)⟩) fun c => ?_
      obtain ⟨b, hb, hi2⟩ := ih2 (j + 1) (by omega)
      refine ⟨b, hb, hi2.trans ⟨fun h => ⟨fun q a k => ?_, h.2⟩, fun h => ⟨fun q a k => h.1 q (by omega) k, h.2⟩⟩⟩
      rcases Nat.eq_or_lt_of_le a with rfl | a
      ·omega
      ·exact h.1 q a k
    refine EndsP.step (fun k => P.graph_Is.l0.eq_2 _ _ _ _ _) (EndsP.ite (fun _ => EndsP.ite (fun _ => EndsP.ite (fun _ => ?_) fun h => absurd (by omega) h) fun h => absurd (by omega) h) fun h => absurd (by omega) h)
    rw [e2, hu]
    refine EndsP.bind (q := fun t => t = (u.f0, u.f1, u.f2, u.f3, u.f4, u.f5.map relOf)) ⟨_, section_ev u hrl, rfl⟩ fun t _ ht => ?_
    subst ht
    obtain ⟨b0, hb0⟩ := isB_ends (secOf u)
    refine EndsP.bind (q := fun t => IsB (secOf u) t) ⟨b0, hb0, hb0⟩ fun t _ ht => EndsP.ite (fun c => ?_) fun c => EndsP.now _ ⟨fun h => absurd h (by decide), fun h => ?_⟩
    ·obtain ⟨b, hb, hi2⟩ := inner u.f5.length 0 (by omega)
     refine ⟨b, hb, hi2.trans ⟨fun h q a k => ?_, fun h => ⟨fun q _ k => ?_, fun q a k => h q (by omega) k⟩⟩⟩
     ·rcases Nat.eq_or_lt_of_le a with rfl | a
      ·rw [hu]
       exact ⟨by rw [← c]; exact ht, fun j hj => h.1 j (Nat.zero_le _) hj⟩
      ·exact h.2 q a k
     ·have := (h i (Nat.le_refl _) hil).2
      rw [hu] at this
      exact this q k
    ·have := (h i (Nat.le_refl _) hil).1
     rw [hu] at this
     exact absurd (isB_one ht this) c
  unfold IsU P.graph_Is.f
  obtain ⟨b, hb, hi⟩ := go us.length 0 (by omega)
  refine ⟨b, Ev.congr (fun k => if_neg (by omega)) hb, hi.trans ⟨fun h => ⟨hl, fun i h2 => h i (Nat.zero_le _) h2⟩, fun h q _ k => h.2 q k⟩⟩
 ·exact ⟨false, Ev.congr (fun k => if_pos (by omega)) (Ev.now _), fun h => absurd h (by decide), fun h => absurd h.1 hl⟩
theorem isU_one {us : List P.S36} {a b : Bool} (h : IsU us a) (k : IsU us b) : a = b := Ev.one h k
/-- What right units need is right. -/
theorem nd_ok {us : List P.S36} (h : UOk us) : P.NdOk us := by
 refine ⟨by have := h.1; omega, fun i hi => ?_⟩
 have e2 : P.rd_T36 us (i : Int) = us[i] := rd_get _ _ _ hi
 obtain ⟨h1, h2⟩ := h.2 i hi
 have hR := (is_iff _).1 h1
 rw [e2]
 refine ⟨by have := hR.rels; simp [secOf] at this; omega, fun z hz => ?_⟩
 unfold P.ndI at hz
 rw [e2] at hz
 obtain ⟨r, hr, rfl⟩ := List.mem_map.1 hz
 obtain ⟨j, hj, rfl⟩ := List.getElem_of_mem hr
 refine ⟨?_, h2 j hj⟩
 have := rels_syms _ _ _ _ hR.each (relOf us[i].f5[j]) (List.mem_map_of_mem hr)
 exact this
end Go.Proofs.YtngmipfodjgmmaaDoor.Pure
