/- How great units are that are looked at ('Big'). -/
import Derived.Test.YtngmipfodjgmmaaDoorFr50
import Derived.Test.YtngmipfodjgmmaaDoorFr71
namespace Go.Proofs.YtngmipfodjgmmaaDoor.Pure
open Go Go.RowKit Go.Proofs.YtngmipfodjgmmaaDoorW.PrintWords Go.Proofs.YtngmipfodjgmmaaDoorW.PrintLast Go.Proofs.YtngmipfodjgmmaaDoorW.PrintMore
open P (UA)
set_option linter.unusedVariables false
set_option linter.unusedSimpArgs false
theorem sec_ev (u : P.S36) (hr : u.f5.length ≤ 4398046510976) : Ev (fun k => P.cleatref21_Sec.f k u.f0 u.f1 u.f2 u.f3 u.f4 u.f5) (u.f0, u.f1, u.f2, u.f3, u.f4, u.f5.map relOf) := by
 have go : ∀ (d i : Nat), i + d = u.f5.length → Ev (fun k => P.cleatref21_Sec.l0 k (i : Int) u.f0 u.f1 u.f2 u.f3 u.f4 u.f5 u.f0 u.f1 u.f2 u.f3 u.f4 ((u.f5.take i).map relOf)) (u.f0, u.f1, u.f2, u.f3, u.f4, u.f5.map relOf) := by
  intro d
  induction d with
  | zero =>
   intro i hi
   rw [List.take_of_length_le (by omega)]
   exact Ev.step (fun k => P.cleatref21_Sec.l0.eq_2 _ _ _ _ _ _ _ _ _ _ _ _ _ _) (Ev.congr (fun k => if_neg (by omega)) (Ev.now _))
  | succ d ih =>
   intro i hi
   have e1 : wrap64 ((i : Int) + 1) = ((i + 1 : Nat) : Int) := by rw [wrap64_small _ (by omega) (by omega)]; rfl
   refine Ev.step (fun k => P.cleatref21_Sec.l0.eq_2 _ _ _ _ _ _ _ _ _ _ _ _ _ _) (Ev.congr (fun k => if_pos (by omega)) (Ev.congr (fun k => if_pos (by omega)) (Ev.congr (fun k => if_pos (by simp; omega)) ?_)))
   rw [e1]
   have := ih (i + 1) (by omega)
   rw [List.take_succ_eq_append_getElem (by omega), List.map_append, List.map_singleton] at this
   have e2 : P.rd_T64 u.f5 (i : Int) = u.f5[i] := rd_get _ _ _ (by omega)
   rw [e2]
   exact this
 exact go u.f5.length 0 (by omega)
/-- No unit's row is more than memory holds. -/
def Held (us : List P.S36) : Prop := us.length ≤ 2000000000000 ∧ ∀ u ∈ us, u.f5.length ≤ 4398046510976
/-- Units that are looked at: few and small; or too many. -/
def Few (us : List P.S36) : Prop := us.length ≤ 300 ∧ (us.length ≤ 256 → us.length ≤ 40 ∧ ∀ u ∈ us, u.f4.size ≤ 5000 ∧ u.f5.length ≤ 80 ∧ u.f0.size ≤ 100)
theorem big_units (us : List P.S36) (hh : Held us) : ∃ b, Ev (fun k => P.cleatref21_Big.f k us) b ∧ (b = false → Few us) := by
 have fin : ∀ (i : Nat), EndsP (fun k => P.cleatref21_Big.j1 k us (i : Int) false) (fun b => b = false → us.length ≤ 40 ∨ (256 < us.length ∧ us.length ≤ 300)) := by
  intro i
  refine EndsP.step (fun k => P.cleatref21_Big.j1.eq_2 _ _ _ _) (EndsP.ite (fun h => absurd h (by decide)) fun _ => EndsP.ite (fun c => EndsP.ite (fun c2 => EndsP.now _ fun h => absurd h (by decide)) fun c2 => EndsP.now _ fun h => ?_) fun c => EndsP.now _ fun h => ?_)
  ·have := of_decide_eq_false h
   omega
  ·omega
 have go : ∀ (d i : Nat), i + d = us.length → EndsP (fun k => P.cleatref21_Big.l0 k us (i : Int)) (fun b => b = false → us.length ≤ 300 ∧ (us.length ≤ 256 → us.length ≤ 40 ∧ ∀ q, i ≤ q → (h : q < us.length) → us[q].f4.size ≤ 5000 ∧ us[q].f5.length ≤ 80 ∧ us[q].f0.size ≤ 100)) := by
  intro d
  induction d with
  | zero =>
   intro i hi
   refine EndsP.step (fun k => P.cleatref21_Big.l0.eq_2 _ _ _) (EndsP.ite (fun h => absurd h (by omega)) fun _ => ?_)
   obtain ⟨b, hb, h⟩ := fin i
   exact ⟨b, hb, fun e => ⟨by have := h e; omega, fun _ => ⟨by have := h e; omega, fun q a k => by omega⟩⟩⟩
  | succ d ih =>
   intro i hi
   have hil : i < us.length := by omega
   have e1 : wrap64 ((i : Int) + 1) = ((i + 1 : Nat) : Int) := by rw [wrap64_small _ (by have := hh.1; omega) (by have := hh.1; omega)]; rfl
   have e2 : P.rd_T36 us (i : Int) = us[i] := rd_get _ _ _ hil
   refine EndsP.step (fun k => P.cleatref21_Big.l0.eq_2 _ _ _) (EndsP.ite (fun _ => ?_) fun h => absurd (by omega) h)
   by_cases c40 : us.length ≤ 40
   ·rw [decide_eq_true (show (us.length : Int) ≤ 40 by omega)]
    refine EndsP.step (fun k => P.cleatref21_Big.j1.eq_2 _ _ _ _) (EndsP.ite (fun _ => EndsP.ite (fun _ => EndsP.ite (fun _ => ?_) fun h => absurd (by omega) h) fun h => absurd (by omega) h) fun h => absurd rfl h)
    rw [e2]
    refine EndsP.bind (q := fun t => t = (us[i].f0, us[i].f1, us[i].f2, us[i].f3, us[i].f4, us[i].f5.map relOf)) ⟨_, sec_ev us[i] (hh.2 _ (List.getElem_mem hil)), rfl⟩ fun t _ ht => ?_
    subst ht
    refine EndsP.bind (q := fun t => t = false → us[i].f4.size ≤ 5000 ∧ us[i].f5.length ≤ 80 ∧ us[i].f0.size ≤ 100) ?_ fun t _ ht => EndsP.ite (fun _ => EndsP.now _ fun h => absurd h (by decide)) fun c => ?_
    ·show EndsP (fun _ => P.cleatref16_Big.f us[i].f0 us[i].f1 us[i].f2 us[i].f3 us[i].f4 (us[i].f5.map relOf)) _
     unfold P.cleatref16_Big.f
     refine EndsP.ite (fun _ => EndsP.now _ fun h => absurd h (by decide)) fun c1 => EndsP.ite (fun _ => EndsP.now _ fun h => absurd h (by decide)) fun c2 => EndsP.now _ fun h => ?_
     have := of_decide_eq_false h
     rw [List.length_map] at c2
     omega
    ·rw [e1]
     obtain ⟨b, hb, h⟩ := ih (i + 1) (by omega)
     refine ⟨b, hb, fun e => ⟨(h e).1, fun h256 => ⟨((h e).2 h256).1, fun q a k => ?_⟩⟩⟩
     rcases Nat.eq_or_lt_of_le a with rfl | a
     ·exact ht (by simpa using c)
     ·exact ((h e).2 h256).2 q a k
   ·rw [decide_eq_false (show ¬ (us.length : Int) ≤ 40 by omega)]
    obtain ⟨b, hb, h⟩ := fin i
    exact ⟨b, hb, fun e => ⟨by have := h e; omega, fun h2 => by have := h e; omega⟩⟩
 obtain ⟨b, hb, h⟩ := go us.length 0 (by omega)
 refine ⟨b, hb, fun e => ⟨(h e).1, fun h2 => ⟨((h e).2 h2).1, fun u hu => ?_⟩⟩⟩
 obtain ⟨q, hq, rfl⟩ := List.getElem_of_mem hu
 exact ((h e).2 h2).2 q (Nat.zero_le _) hq
theorem Few.narrow {us : List P.S36} (h : Few us) : Narrow us := fun h2 i hi => by
 have := ((h.2 h2).2 _ (List.getElem_mem hi)).2.1
 omega
theorem bigU_calls (us : List P.S36) (hh : Held us) (W : World) (A : Option Addr) (c : Nat) (h : UA W A us) (hc : us.length ≤ c) :
 ∃ b, Calls Tryd.prog 12 #[.slice A us.length c] W (fun x w' => x = .returned (.bool b) ∧ Below W.heap.size W w') ∧ (b = false → Few us) := by
 obtain ⟨b, ⟨K, hK⟩, hb⟩ := big_units us hh
 exact ⟨b, P.cleatref21_Big.calls K A c us b W h hc (hK K (Nat.le_refl _)), hb⟩
end Go.Proofs.YtngmipfodjgmmaaDoor.Pure
