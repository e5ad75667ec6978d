/- How great objects are that are looked at ('Big'); rows of places that are the same. -/
import Derived.Test.YtngmipfodjgmmaaDoorSm51
import Derived.Test.YtngmipfodjgmmaaDoorSm26
import Derived.Test.YtngmipfodjgmmaaDoorSm63
import Derived.Test.YtngmipfodjgmmaaDoorSm25
namespace Go.Proofs.YtngmipfodjgmmaaDoor.Pure
open Go Go.RowKit Go.Proofs.YtngmipfodjgmmaaDoorW.PrintWords Go.Proofs.YtngmipfodjgmmaaDoorW.PrintLast Go.Proofs.YtngmipfodjgmmaaDoorW.PrintMore
set_option linter.unusedVariables false
set_option linter.unusedSimpArgs false
theorem succ_small (i : Nat) (h : i ≤ 1000000) : wrap64 ((i : Int) + 1) = ((i + 1 : Nat) : Int) := by rw [wrap64_small _ (by omega) (by omega)]; rfl
theorem big_obj (o : Ob) : ∃ b, Ev (fun k => P.cleatref19_Big.f k o.f0 o.f1) b ∧ (b = false → FewO o) := by
  have fin : ∀ (i : Nat), EndsP (fun k => P.cleatref19_Big.j3 k (i : Int) false o.f0 o.f1) (fun b => b = false → o.f0.length ≤ 40 ∧ o.f1.length ≤ 140) := fun i =>
    EndsP.step (fun k => P.cleatref19_Big.j3.eq_2 _ _ _ _ _) (EndsP.ite (fun h => absurd h (by decide)) fun _ => EndsP.ite (fun c => EndsP.now _ fun h => absurd h (by decide)) fun c => EndsP.now _ fun h => by
      have := of_decide_eq_false h
      omega)
  have syms : ∀ (d i : Nat), i + d = min o.f1.length 141 → EndsP (fun k => P.cleatref19_Big.l1 k (i : Int) o.f0 o.f1) (fun b => b = false → o.f0.length ≤ 40 ∧ o.f1.length ≤ 140 ∧ ∀ q, i ≤ q → q < o.f1.length → (smN o q).f0.size ≤ 100) := by
    intro d
    induction d with
    | zero =>
      intro i hi
      refine EndsP.step (fun k => P.cleatref19_Big.l1.eq_2 _ _ _ _) (EndsP.ite (fun h => ?_) fun h => ?_)
      · rw [decide_eq_false (show ¬ (o.f1.length : Int) ≤ 140 by omega)]
        obtain ⟨b, hb, h⟩ := fin i
        exact ⟨b, hb, fun e => by have := h e; exact ⟨this.1, this.2, fun q a k => by omega⟩⟩
      · obtain ⟨b, hb, h⟩ := fin i
        exact ⟨b, hb, fun e => by have := h e; exact ⟨this.1, this.2, fun q a k => by omega⟩⟩
    | succ d ih =>
      intro i hi
      refine EndsP.step (fun k => P.cleatref19_Big.l1.eq_2 _ _ _ _) (EndsP.ite (fun _ => ?_) fun h => absurd (by omega) h)
      by_cases c : o.f1.length ≤ 140
      · rw [decide_eq_true (show (o.f1.length : Int) ≤ 140 by omega)]
        refine EndsP.step (fun k => P.cleatref19_Big.j3.eq_2 _ _ _ _ _) (EndsP.ite (fun _ => EndsP.ite (fun _ => EndsP.ite (fun _ => EndsP.ite (fun c2 => EndsP.now _ fun h => absurd h (by decide)) fun c2 => ?_) fun h => absurd (by omega) h) fun h => absurd (by omega) h) fun h => absurd rfl h)
        rw [succ_small i (by omega)]
        obtain ⟨b, hb, h⟩ := ih (i + 1) (by omega)
        refine ⟨b, hb, fun e => ⟨(h e).1, (h e).2.1, fun q a k => ?_⟩⟩
        rcases Nat.eq_or_lt_of_le a with rfl | a
        · unfold smN
          omega
        · exact (h e).2.2 q a k
      · rw [decide_eq_false (show ¬ (o.f1.length : Int) ≤ 140 by omega)]
        obtain ⟨b, hb, h⟩ := fin i
        exact ⟨b, hb, fun e => by have := h e; exact ⟨this.1, this.2, fun q a k => by omega⟩⟩
  have fin2 : ∀ (i : Nat), EndsP (fun k => P.cleatref19_Big.j1 k (i : Int) false o.f0 o.f1) (fun b => b = false → o.f0.length ≤ 40 ∧ o.f1.length ≤ 140 ∧ ∀ q, q < o.f1.length → (smN o q).f0.size ≤ 100) := fun i => by
    refine EndsP.step (fun k => P.cleatref19_Big.j1.eq_2 _ _ _ _ _) (EndsP.ite (fun h => absurd h (by decide)) fun _ => ?_)
    obtain ⟨b, hb, h⟩ := syms (min o.f1.length 141) 0 (by omega)
    exact ⟨b, hb, fun e => ⟨(h e).1, (h e).2.1, fun q k => (h e).2.2 q (Nat.zero_le _) k⟩⟩
  have secs : ∀ (d i : Nat), i + d = min o.f0.length 41 → EndsP (fun k => P.cleatref19_Big.l0 k (i : Int) o.f0 o.f1) (fun b => b = false → (o.f0.length ≤ 40 ∧ o.f1.length ≤ 140 ∧ ∀ q, q < o.f1.length → (smN o q).f0.size ≤ 100) ∧ ∀ q, i ≤ q → q < o.f0.length → (seN o q).f4.size ≤ 5000 ∧ (seN o q).f5.length ≤ 80 ∧ (seN o q).f0.size ≤ 100) := by
    intro d
    induction d with
    | zero =>
      intro i hi
      refine EndsP.step (fun k => P.cleatref19_Big.l0.eq_2 _ _ _ _) (EndsP.ite (fun h => ?_) fun h => ?_)
      · rw [decide_eq_false (show ¬ (o.f0.length : Int) ≤ 40 by omega)]
        obtain ⟨b, hb, h⟩ := fin2 i
        exact ⟨b, hb, fun e => ⟨h e, fun q a k => by have := h e; omega⟩⟩
      · obtain ⟨b, hb, h⟩ := fin2 i
        exact ⟨b, hb, fun e => ⟨h e, fun q a k => by have := h e; omega⟩⟩
    | succ d ih =>
      intro i hi
      refine EndsP.step (fun k => P.cleatref19_Big.l0.eq_2 _ _ _ _) (EndsP.ite (fun _ => ?_) fun h => absurd (by omega) h)
      by_cases c : o.f0.length ≤ 40
      · rw [decide_eq_true (show (o.f0.length : Int) ≤ 40 by omega)]
        refine EndsP.step (fun k => P.cleatref19_Big.j1.eq_2 _ _ _ _ _) (EndsP.ite (fun _ => EndsP.ite (fun _ => EndsP.ite (fun _ => ?_) fun h => absurd (by omega) h) fun h => absurd (by omega) h) fun h => absurd rfl h)
        refine EndsP.bind (q := fun t => t = false → (seN o i).f4.size ≤ 5000 ∧ (seN o i).f5.length ≤ 80 ∧ (seN o i).f0.size ≤ 100) ?_ fun t _ ht => EndsP.ite (fun _ => EndsP.now _ fun h => absurd h (by decide)) fun c => ?_
        · show EndsP (fun _ => P.cleatref16_Big.f (seN o i).f0 (seN o i).f1 (seN o i).f2 (seN o i).f3 (seN o i).f4 (seN o i).f5) _
          unfold P.cleatref16_Big.f
          refine EndsP.ite (fun _ => EndsP.now _ fun h => absurd h (by decide)) fun c1 => EndsP.ite (fun _ => EndsP.now _ fun h => absurd h (by decide)) fun c2 => EndsP.now _ fun h => ?_
          have := of_decide_eq_false h
          omega
        · rw [succ_small i (by omega)]
          obtain ⟨b, hb, h⟩ := ih (i + 1) (by omega)
          refine ⟨b, hb, fun e => ⟨(h e).1, fun q a k => ?_⟩⟩
          rcases Nat.eq_or_lt_of_le a with rfl | a
          · exact ht (by simpa using c)
          · exact (h e).2 q a k
      · rw [decide_eq_false (show ¬ (o.f0.length : Int) ≤ 40 by omega)]
        obtain ⟨b, hb, h⟩ := fin2 i
        exact ⟨b, hb, fun e => ⟨h e, fun q a k => by have := h e; omega⟩⟩
  obtain ⟨b, hb, h⟩ := secs (min o.f0.length 41) 0 (by omega)
  exact ⟨b, hb, fun e => ⟨(h e).1.1, (h e).1.2.1, fun i hi => (h e).2 i (Nat.zero_le _) hi, (h e).1.2.2⟩⟩
theorem big_objs (os : List Ob) : ∃ b, Ev (fun k => P.cleatref20_Big.f k os) b ∧ (b = false → FewL os) := by
  have fin : ∀ (i : Nat), EndsP (fun k => P.cleatref20_Big.j1 k os (i : Int) false) (fun b => b = false → os.length ≤ 12) := fun i =>
    EndsP.step (fun k => P.cleatref20_Big.j1.eq_2 _ _ _ _) (EndsP.ite (fun h => absurd h (by decide)) fun _ => EndsP.now _ fun h => by
      have := of_decide_eq_false h
      omega)
  have go : ∀ (d i : Nat), i + d = min os.length 13 → EndsP (fun k => P.cleatref20_Big.l0 k os (i : Int)) (fun b => b = false → os.length ≤ 12 ∧ ∀ q, i ≤ q → q < os.length → FewO (obN os q)) := by
    intro d
    induction d with
    | zero =>
      intro i hi
      refine EndsP.step (fun k => P.cleatref20_Big.l0.eq_2 _ _ _) (EndsP.ite (fun h => ?_) fun h => ?_)
      · rw [decide_eq_false (show ¬ (os.length : Int) ≤ 12 by omega)]
        obtain ⟨b, hb, h⟩ := fin i
        exact ⟨b, hb, fun e => ⟨h e, fun q a k => by have := h e; omega⟩⟩
      · obtain ⟨b, hb, h⟩ := fin i
        exact ⟨b, hb, fun e => ⟨h e, fun q a k => by have := h e; omega⟩⟩
    | succ d ih =>
      intro i hi
      refine EndsP.step (fun k => P.cleatref20_Big.l0.eq_2 _ _ _) (EndsP.ite (fun _ => ?_) fun h => absurd (by omega) h)
      by_cases c : os.length ≤ 12
      · rw [decide_eq_true (show (os.length : Int) ≤ 12 by omega)]
        refine EndsP.step (fun k => P.cleatref20_Big.j1.eq_2 _ _ _ _) (EndsP.ite (fun _ => EndsP.ite (fun _ => EndsP.ite (fun _ => ?_) fun h => absurd (by omega) h) fun h => absurd (by omega) h) fun h => absurd rfl h)
        obtain ⟨b0, hb0, h0⟩ := big_obj (obN os i)
        refine EndsP.bind (q := fun t => t = false → FewO (obN os i)) ⟨b0, hb0, h0⟩ fun t _ ht => EndsP.ite (fun _ => EndsP.now _ fun h => absurd h (by decide)) fun c => ?_
        rw [succ_small i (by omega)]
        obtain ⟨b, hb, h⟩ := ih (i + 1) (by omega)
        refine ⟨b, hb, fun e => ⟨(h e).1, fun q a k => ?_⟩⟩
        rcases Nat.eq_or_lt_of_le a with rfl | a
        · exact ht (by simpa using c)
        · exact (h e).2 q a k
      · rw [decide_eq_false (show ¬ (os.length : Int) ≤ 12 by omega)]
        obtain ⟨b, hb, h⟩ := fin i
        exact ⟨b, hb, fun e => ⟨h e, fun q a k => by have := h e; omega⟩⟩
  obtain ⟨b, hb, h⟩ := go (min os.length 13) 0 (by omega)
  exact ⟨b, hb, fun e => ⟨(h e).1, fun i hi => (h e).2 i (Nat.zero_le _) hi⟩⟩
/-- Rows of places that are one are the same. -/
theorem same_refl_ev (rows : List (List Pl)) (hl : rows.length ≤ 100000) (hr : ∀ i, i < rows.length → (P.rd_L18 rows i).length ≤ 100000) : Ev (fun k => P.cleatref20_Same.f k rows rows) true := by
  unfold P.cleatref20_Same.f
  refine Ev.congr (fun k => if_pos rfl) ?_
  have go : ∀ (d i : Nat), i + d = rows.length → Ev (fun k => P.cleatref20_Same.l0 k rows rows (i : Int)) true := by
    intro d
    induction d with
    | zero => intro i hi; exact Ev.step (fun k => P.cleatref20_Same.l0.eq_2 _ _ _ _) (Ev.congr (fun k => if_neg (by omega)) (Ev.now _))
    | succ d ih =>
      intro i hi
      refine Ev.step (fun k => P.cleatref20_Same.l0.eq_2 _ _ _ _) (Ev.congr (fun k => if_pos (by omega)) (Ev.congr (fun k => if_pos (by omega)) (Ev.congr (fun k => if_pos (by omega)) (Ev.congr (fun k => if_pos rfl) ?_))))
      have inner : ∀ (e j : Nat), j + e = (P.rd_L18 rows i).length → Ev (fun k => P.cleatref20_Same.l1 k rows rows (i : Int) (j : Int)) true := by
        intro e
        induction e with
        | zero =>
          intro j hj
          refine Ev.step (fun k => P.cleatref20_Same.l1.eq_2 _ _ _ _ _) (Ev.congr (fun k => if_pos (by omega)) (Ev.congr (fun k => if_pos (by omega)) (Ev.congr (fun k => if_neg (by omega)) ?_)))
          rw [succ_small i (by omega)]
          exact ih (i + 1) (by omega)
        | succ e ih2 =>
          intro j hj
          refine Ev.step (fun k => P.cleatref20_Same.l1.eq_2 _ _ _ _ _) (Ev.congr (fun k => if_pos (by omega)) (Ev.congr (fun k => if_pos (by omega)) (Ev.congr (fun k => if_pos (by omega)) (Ev.congr (fun k => if_pos (by omega)) (Ev.congr (fun k => if_pos (by omega)) (Ev.congr (fun k => if_pos (by omega)) (Ev.congr (fun k => if_neg (by simp)) ?_)))))))
          rw [succ_small j (by have := hr i (by omega); omega)]
          exact ih2 (j + 1) (by omega)
      exact inner _ 0 (Nat.zero_add _)
  exact go rows.length 0 (Nat.zero_add _)
end Go.Proofs.YtngmipfodjgmmaaDoor.Pure
