/- What is reached: the plain law of going through a graph with a row of what waits. No program in sight. -/
import Derived.WalkKit
namespace Go.Proofs.YtngmipfodjgmmaaDoor.Reach
set_option linter.unusedVariables false
/-- What is reached from R on, where nd tells what each place needs. -/
inductive RS (nd : Nat → List Nat) (R : Nat → Prop) : Nat → Prop
 | root {i : Nat} : R i → RS nd R i
 | step {i j : Nat} : RS nd R i → j ∈ nd i → RS nd R j
def sn (seen : List Bool) (i : Nat) : Prop := seen.getD i false = true
/-- Going through: 'seen' is reached; what waits is seen; what is seen waits, or is the one at hand of which the first needs are seen, or all it needs is seen. -/
structure Sp (nd : Nat → List Nat) (R : Nat → Prop) (n : Nat) (seen : List Bool) (wait : List Nat) (at_ : Option (Nat × List Nat)) : Prop where
 len : seen.length = n
 sound : ∀ i, sn seen i → RS nd R i
 wseen : ∀ i ∈ wait, sn seen i
 clos : ∀ i, sn seen i → i ∈ wait ∨ (∃ p, at_ = some p ∧ i = p.1 ∧ ∀ j ∈ p.2, sn seen j) ∨ ∀ j ∈ nd i, sn seen j
/-- How much is still to do. -/
def left (seen : List Bool) (wait : List Nat) : Nat := 2 * seen.count false + wait.length
theorem sn_lt {seen : List Bool} {i : Nat} (h : sn seen i) : i < seen.length := by
 unfold sn at h
 rw [List.getD_eq_getElem?_getD] at h
 by_cases c : i < seen.length
 ·exact c
 ·rw [List.getElem?_eq_none (by omega)] at h
  cases h
theorem sn_set {seen : List Bool} {k : Nat} (hk : k < seen.length) (i : Nat) : sn (seen.set k true) i ↔ i = k ∨ sn seen i := by
 unfold sn
 rw [List.getD_eq_getElem?_getD, List.getD_eq_getElem?_getD, List.getElem?_set]
 by_cases c : k = i
 ·subst c
  rw [if_pos rfl, if_pos hk]
  simp
 ·rw [if_neg c]
  constructor
  ·exact .inr
  ·rintro (e | h)
   ·exact absurd e.symm c
   ·exact h
theorem count_set {seen : List Bool} : ∀ {k : Nat}, k < seen.length → ¬ sn seen k → (seen.set k true).count false + 1 = seen.count false := by
 induction seen with
 | nil => intro k hk; exact absurd hk (Nat.not_lt_zero _)
 | cons b l ih =>
  intro k hk hn
  cases k with
  | zero =>
   have hb : b = false := by
    cases b with
    | false => rfl
    | true => exact absurd rfl hn
   subst hb
   simp
  | succ k =>
   have := ih (k := k) (by simpa using hk) (by intro h; exact hn (by unfold sn at h ⊢; simpa using h))
   rw [List.set_cons_succ, List.count_cons, List.count_cons]
   omega
/-- A place is marked: it was seen. -/
theorem Sp.mark_old {nd R n seen wait a pre k} (h : Sp nd R n seen wait (some (a, pre))) (hk : sn seen k) : Sp nd R n seen wait (some (a, pre ++ [k])) := by
 refine ⟨h.len, h.sound, h.wseen, fun i hi => ?_⟩
 rcases h.clos i hi with c | ⟨p, e, c, d⟩ | c
 ·exact .inl c
 ·cases e
  refine .inr (.inl ⟨_, rfl, c, fun j hj => ?_⟩)
  rcases List.mem_append.1 hj with hj | hj
  ·exact d j hj
  ·rw [List.mem_singleton.1 hj]; exact hk
 ·exact .inr (.inr c)
/-- .. it was not: it waits now. -/
theorem Sp.mark_new {nd R n seen wait a pre k} (h : Sp nd R n seen wait (some (a, pre))) (hk : k < n) (hr : RS nd R k) : Sp nd R n (seen.set k true) (wait ++ [k]) (some (a, pre ++ [k])) := by
 have hs := fun i => sn_set (seen := seen) (k := k) (by rw [h.len]; exact hk) i
 refine ⟨by rw [List.length_set]; exact h.len, fun i hi => ?_, fun i hi => ?_, fun i hi => ?_⟩
 ·rcases (hs i).1 hi with rfl | hi
  ·exact hr
  ·exact h.sound i hi
 ·rcases List.mem_append.1 hi with hi | hi
  ·exact (hs i).2 (.inr (h.wseen i hi))
  ·exact (hs i).2 (.inl (List.mem_singleton.1 hi))
 ·rcases (hs i).1 hi with rfl | hi
  ·exact .inl (List.mem_append.2 (.inr (List.mem_singleton.2 rfl)))
  ·rcases h.clos i hi with c | ⟨p, e, c, d⟩ | c
   ·exact .inl (List.mem_append.2 (.inl c))
   ·cases e
    refine .inr (.inl ⟨_, rfl, c, fun j hj => ?_⟩)
    rcases List.mem_append.1 hj with hj | hj
    ·exact (hs j).2 (.inr (d j hj))
    ·exact (hs j).2 (.inl (List.mem_singleton.1 hj))
   ·exact .inr (.inr fun j hj => (hs j).2 (.inr (c j hj)))
/-- The last that waits is taken. -/
theorem Sp.take {nd R n seen wait k} (h : Sp nd R n seen (wait ++ [k]) none) : Sp nd R n seen wait (some (k, [])) ∧ RS nd R k ∧ k < n := by
 have hk : sn seen k := h.wseen k (List.mem_append.2 (.inr (List.mem_singleton.2 rfl)))
 refine ⟨⟨h.len, h.sound, fun i hi => h.wseen i (List.mem_append.2 (.inl hi)), fun i hi => ?_⟩, h.sound k hk, by rw [← h.len]; exact sn_lt hk⟩
 rcases h.clos i hi with c | ⟨p, e, _⟩ | c
 ·rcases List.mem_append.1 c with c | c
  ·exact .inl c
  ·exact .inr (.inl ⟨_, rfl, List.mem_singleton.1 c, fun j hj => by cases hj⟩)
 ·cases e
 ·exact .inr (.inr c)
/-- All needs of the one at hand are marked. -/
theorem Sp.next {nd R n seen wait a} (h : Sp nd R n seen wait (some (a, nd a))) : Sp nd R n seen wait none := by
 refine ⟨h.len, h.sound, h.wseen, fun i hi => ?_⟩
 rcases h.clos i hi with c | ⟨p, e, c, d⟩ | c
 ·exact .inl c
 ·cases e
  subst c
  exact .inr (.inr d)
 ·exact .inr (.inr c)
/-- Ahead of all: nothing is seen. -/
theorem Sp.start (nd R n) : Sp nd R n (List.replicate n false) [] none := by
 have no : ∀ i, ¬ sn (List.replicate n false) i := by
  intro i h
  unfold sn at h
  rw [List.getD_eq_getElem?_getD, List.getElem?_replicate] at h
  split at h <;> cases h
 exact ⟨List.length_replicate, fun i h => absurd h (no i), fun i h => (List.not_mem_nil h).elim, fun i h => absurd h (no i)⟩
theorem Sp.root_new {nd R n seen wait k} (h : Sp nd R n seen wait none) (hk : k < n) (hr : R k) : Sp nd R n (seen.set k true) (wait ++ [k]) none := by
 have hs := fun i => sn_set (seen := seen) (k := k) (by rw [h.len]; exact hk) i
 refine ⟨by rw [List.length_set]; exact h.len, fun i hi => ?_, fun i hi => ?_, fun i hi => ?_⟩
 ·rcases (hs i).1 hi with rfl | hi
  ·exact .root hr
  ·exact h.sound i hi
 ·rcases List.mem_append.1 hi with hi | hi
  ·exact (hs i).2 (.inr (h.wseen i hi))
  ·exact (hs i).2 (.inl (List.mem_singleton.1 hi))
 ·rcases (hs i).1 hi with rfl | hi
  ·exact .inl (List.mem_append.2 (.inr (List.mem_singleton.2 rfl)))
  ·rcases h.clos i hi with c | ⟨p, e, _⟩ | c
   ·exact .inl (List.mem_append.2 (.inl c))
   ·cases e
   ·exact .inr (.inr fun j hj => (hs j).2 (.inr (c j hj)))
/-- What is seen at the end is what is reached. -/
theorem Sp.done {nd R n seen} (h : Sp nd R n seen [] none) (hR : ∀ i, R i → sn seen i) (i : Nat) : sn seen i ↔ RS nd R i := by
 refine ⟨h.sound i, fun hr => ?_⟩
 induction hr with
 | root hr => exact hR _ hr
 | step _ hj ih =>
  rcases h.clos _ ih with c | ⟨p, e, _⟩ | c
  ·cases c
  ·cases e
  ·exact c _ hj
/-- A place is marked. -/
def Mk (seen : List Bool) (wait : List Nat) (k : Nat) (seen' : List Bool) (wait' : List Nat) : Prop := (sn seen k ∧ seen' = seen ∧ wait' = wait) ∨ (¬ sn seen k ∧ seen' = seen.set k true ∧ wait' = wait ++ [k])
theorem Mk.left {seen wait k seen' wait'} (h : Mk seen wait k seen' wait') (hk : k < seen.length) : left seen' wait' ≤ left seen wait ∧ seen'.length = seen.length ∧ sn seen' k ∧ ∀ i, sn seen i → sn seen' i := by
 rcases h with ⟨a, rfl, rfl⟩ | ⟨a, rfl, rfl⟩
 ·exact ⟨Nat.le_refl _, rfl, a, fun _ h => h⟩
 ·have := count_set hk a
  refine ⟨?_, List.length_set, (sn_set hk k).2 (.inl rfl), fun i h => (sn_set hk i).2 (.inr h)⟩
  unfold Reach.left
  rw [List.length_append, List.length_singleton]
  omega
theorem Sp.root {nd R n seen wait k seen' wait'} (h : Sp nd R n seen wait none) (hm : Mk seen wait k seen' wait') (hk : k < n) (hr : R k) : Sp nd R n seen' wait' none := by
 rcases hm with ⟨a, rfl, rfl⟩ | ⟨a, rfl, rfl⟩
 ·exact h
 ·exact h.root_new hk hr
theorem Sp.mark {nd R n seen wait a pre k seen' wait'} (h : Sp nd R n seen wait (some (a, pre))) (hm : Mk seen wait k seen' wait') (hk : k < n) (hr : RS nd R k) : Sp nd R n seen' wait' (some (a, pre ++ [k])) := by
 rcases hm with ⟨a, rfl, rfl⟩ | ⟨a, rfl, rfl⟩
 ·exact h.mark_old a
 ·exact h.mark_new hk hr
theorem left_start (n : Nat) : Reach.left (List.replicate n false) [] = 2 * n := by simp [Reach.left]
theorem RS.wider {nd} {R S : Nat → Prop} (h : ∀ i, R i → S i) {i : Nat} (hr : RS nd R i) : RS nd S i := by
 induction hr with
 | root h1 => exact .root (h _ h1)
 | step _ h2 ih => exact .step ih h2
theorem RS.or {nd} {R S : Nat → Prop} (i : Nat) : RS nd (fun i => R i ∨ S i) i ↔ RS nd R i ∨ RS nd S i := by
 constructor
 ·intro h
  induction h with
  | root h => exact h.imp .root .root
  | step _ h ih => exact ih.imp (fun k => .step k h) (fun k => .step k h)
 ·rintro (h | h)
  ·exact h.wider fun _ => .inl
  ·exact h.wider fun _ => .inr
end Go.Proofs.YtngmipfodjgmmaaDoor.Reach
