/- Walks and plain laws of this claim, a part. -/
import Derived.WalkKit
import Derived.Test.YtngmipfodjgmmaaGreatDoorEs13
import Derived.RangeFuncNested
import Derived.RangeFuncBox
import Derived.RangeFuncBound
import Derived.RangeFuncCalls
import Derived.RangeFuncLeaves
import Derived.Maps.AppendAt
import Derived.Shelf.Abstract
import Derived.Shelf.RegionOpen
import Derived.OwnWalkIn
import Derived.TacticsInMore
import Derived.LoopNIn
import Derived.LoopIn
section
namespace Go.Proofs.YtngmipfodjgmmaaGreatDoor.Reach
set_option linter.unusedVariables false
/-- What is reached from R on, where nd tells what each place needs. -/
inductive RS (nd : Nat → List Nat) (R : Nat → Prop) : Nat → Prop
 | root {i : Nat} : R i → RS nd R i
 | step {i j : Nat} : RS nd R i → j ∈ nd i → RS nd R j
def sn (seen : List Bool) (i : Nat) : Prop := seen.getD i false = true
/-- Going through: 'seen' is reached; what waits is seen; what is seen waits, or is the one at hand of which the first needs are seen, or all it needs is seen. -/
structure Sp (nd : Nat → List Nat) (R : Nat → Prop) (n : Nat) (seen : List Bool) (wait : List Nat) (at_ : Option (Nat × List Nat)) : Prop where
 len : seen.length = n
 sound : ∀ i, sn seen i → RS nd R i
 wseen : ∀ i ∈ wait, sn seen i
 clos : ∀ i, sn seen i → i ∈ wait ∨ (∃ p, at_ = some p ∧ i = p.1 ∧ ∀ j ∈ p.2, sn seen j) ∨ ∀ j ∈ nd i, sn seen j
/-- How much is still to do. -/
def left (seen : List Bool) (wait : List Nat) : Nat := 2 * seen.count false + wait.length
theorem sn_lt {seen : List Bool} {i : Nat} (h : sn seen i) : i < seen.length := by
 unfold sn at h
 rw [List.getD_eq_getElem?_getD] at h
 by_cases c : i < seen.length
 ·exact c
 ·rw [List.getElem?_eq_none (by omega)] at h
  cases h
theorem sn_set {seen : List Bool} {k : Nat} (hk : k < seen.length) (i : Nat) : sn (seen.set k true) i ↔ i = k ∨ sn seen i := by
 unfold sn
 rw [List.getD_eq_getElem?_getD, List.getD_eq_getElem?_getD, List.getElem?_set]
 by_cases c : k = i
 ·subst c
  rw [if_pos rfl, if_pos hk]
  simp
 ·rw [if_neg c]
  constructor
  ·exact .inr
  ·rintro (e | h)
   ·exact absurd e.symm c
   ·exact h
theorem count_set {seen : List Bool} : ∀ {k : Nat}, k < seen.length → ¬ sn seen k → (seen.set k true).count false + 1 = seen.count false := by
 induction seen with
 | nil => intro k hk; exact absurd hk (Nat.not_lt_zero _)
 | cons b l ih =>
  intro k hk hn
  cases k with
  | zero =>
   have hb : b = false := by
    cases b with
    | false => rfl
    | true => exact absurd rfl hn
   subst hb
   simp
  | succ k =>
   have := ih (k := k) (by simpa using hk) (by intro h; exact hn (by unfold sn at h ⊢; simpa using h))
   rw [List.set_cons_succ, List.count_cons, List.count_cons]
   omega
/-- A place is marked: it was seen. -/
theorem Sp.mark_old {nd R n seen wait a pre k} (h : Sp nd R n seen wait (some (a, pre))) (hk : sn seen k) : Sp nd R n seen wait (some (a, pre ++ [k])) := by
 refine ⟨h.len, h.sound, h.wseen, fun i hi => ?_⟩
 rcases h.clos i hi with c | ⟨p, e, c, d⟩ | c
 ·exact .inl c
 ·cases e
  refine .inr (.inl ⟨_, rfl, c, fun j hj => ?_⟩)
  rcases List.mem_append.1 hj with hj | hj
  ·exact d j hj
  ·rw [List.mem_singleton.1 hj]; exact hk
 ·exact .inr (.inr c)
/-- .. it was not: it waits now. -/
theorem Sp.mark_new {nd R n seen wait a pre k} (h : Sp nd R n seen wait (some (a, pre))) (hk : k < n) (hr : RS nd R k) : Sp nd R n (seen.set k true) (wait ++ [k]) (some (a, pre ++ [k])) := by
 have hs := fun i => sn_set (seen := seen) (k := k) (by rw [h.len]; exact hk) i
 refine ⟨by rw [List.length_set]; exact h.len, fun i hi => ?_, fun i hi => ?_, fun i hi => ?_⟩
 ·rcases (hs i).1 hi with rfl | hi
  ·exact hr
  ·exact h.sound i hi
 ·rcases List.mem_append.1 hi with hi | hi
  ·exact (hs i).2 (.inr (h.wseen i hi))
  ·exact (hs i).2 (.inl (List.mem_singleton.1 hi))
 ·rcases (hs i).1 hi with rfl | hi
  ·exact .inl (List.mem_append.2 (.inr (List.mem_singleton.2 rfl)))
  ·rcases h.clos i hi with c | ⟨p, e, c, d⟩ | c
   ·exact .inl (List.mem_append.2 (.inl c))
   ·cases e
    refine .inr (.inl ⟨_, rfl, c, fun j hj => ?_⟩)
    rcases List.mem_append.1 hj with hj | hj
    ·exact (hs j).2 (.inr (d j hj))
    ·exact (hs j).2 (.inl (List.mem_singleton.1 hj))
   ·exact .inr (.inr fun j hj => (hs j).2 (.inr (c j hj)))
/-- The last that waits is taken. -/
theorem Sp.take {nd R n seen wait k} (h : Sp nd R n seen (wait ++ [k]) none) : Sp nd R n seen wait (some (k, [])) ∧ RS nd R k ∧ k < n := by
 have hk : sn seen k := h.wseen k (List.mem_append.2 (.inr (List.mem_singleton.2 rfl)))
 refine ⟨⟨h.len, h.sound, fun i hi => h.wseen i (List.mem_append.2 (.inl hi)), fun i hi => ?_⟩, h.sound k hk, by rw [← h.len]; exact sn_lt hk⟩
 rcases h.clos i hi with c | ⟨p, e, _⟩ | c
 ·rcases List.mem_append.1 c with c | c
  ·exact .inl c
  ·exact .inr (.inl ⟨_, rfl, List.mem_singleton.1 c, fun j hj => by cases hj⟩)
 ·cases e
 ·exact .inr (.inr c)
/-- All needs of the one at hand are marked. -/
theorem Sp.next {nd R n seen wait a} (h : Sp nd R n seen wait (some (a, nd a))) : Sp nd R n seen wait none := by
 refine ⟨h.len, h.sound, h.wseen, fun i hi => ?_⟩
 rcases h.clos i hi with c | ⟨p, e, c, d⟩ | c
 ·exact .inl c
 ·cases e
  subst c
  exact .inr (.inr d)
 ·exact .inr (.inr c)
/-- Ahead of all: nothing is seen. -/
theorem Sp.start (nd R n) : Sp nd R n (List.replicate n false) [] none := by
 have no : ∀ i, ¬ sn (List.replicate n false) i := by
  intro i h
  unfold sn at h
  rw [List.getD_eq_getElem?_getD, List.getElem?_replicate] at h
  split at h <;> cases h
 exact ⟨List.length_replicate, fun i h => absurd h (no i), fun i h => (List.not_mem_nil h).elim, fun i h => absurd h (no i)⟩
theorem Sp.root_new {nd R n seen wait k} (h : Sp nd R n seen wait none) (hk : k < n) (hr : R k) : Sp nd R n (seen.set k true) (wait ++ [k]) none := by
 have hs := fun i => sn_set (seen := seen) (k := k) (by rw [h.len]; exact hk) i
 refine ⟨by rw [List.length_set]; exact h.len, fun i hi => ?_, fun i hi => ?_, fun i hi => ?_⟩
 ·rcases (hs i).1 hi with rfl | hi
  ·exact .root hr
  ·exact h.sound i hi
 ·rcases List.mem_append.1 hi with hi | hi
  ·exact (hs i).2 (.inr (h.wseen i hi))
  ·exact (hs i).2 (.inl (List.mem_singleton.1 hi))
 ·rcases (hs i).1 hi with rfl | hi
  ·exact .inl (List.mem_append.2 (.inr (List.mem_singleton.2 rfl)))
  ·rcases h.clos i hi with c | ⟨p, e, _⟩ | c
   ·exact .inl (List.mem_append.2 (.inl c))
   ·cases e
   ·exact .inr (.inr fun j hj => (hs j).2 (.inr (c j hj)))
/-- What is seen at the end is what is reached. -/
theorem Sp.done {nd R n seen} (h : Sp nd R n seen [] none) (hR : ∀ i, R i → sn seen i) (i : Nat) : sn seen i ↔ RS nd R i := by
 refine ⟨h.sound i, fun hr => ?_⟩
 induction hr with
 | root hr => exact hR _ hr
 | step _ hj ih =>
  rcases h.clos _ ih with c | ⟨p, e, _⟩ | c
  ·cases c
  ·cases e
  ·exact c _ hj
/-- A place is marked. -/
def Mk (seen : List Bool) (wait : List Nat) (k : Nat) (seen' : List Bool) (wait' : List Nat) : Prop := (sn seen k ∧ seen' = seen ∧ wait' = wait) ∨ (¬ sn seen k ∧ seen' = seen.set k true ∧ wait' = wait ++ [k])
theorem Mk.left {seen wait k seen' wait'} (h : Mk seen wait k seen' wait') (hk : k < seen.length) : left seen' wait' ≤ left seen wait ∧ seen'.length = seen.length ∧ sn seen' k ∧ ∀ i, sn seen i → sn seen' i := by
 rcases h with ⟨a, rfl, rfl⟩ | ⟨a, rfl, rfl⟩
 ·exact ⟨Nat.le_refl _, rfl, a, fun _ h => h⟩
 ·have := count_set hk a
  refine ⟨?_, List.length_set, (sn_set hk k).2 (.inl rfl), fun i h => (sn_set hk i).2 (.inr h)⟩
  unfold Reach.left
  rw [List.length_append, List.length_singleton]
  omega
theorem Sp.root {nd R n seen wait k seen' wait'} (h : Sp nd R n seen wait none) (hm : Mk seen wait k seen' wait') (hk : k < n) (hr : R k) : Sp nd R n seen' wait' none := by
 rcases hm with ⟨a, rfl, rfl⟩ | ⟨a, rfl, rfl⟩
 ·exact h
 ·exact h.root_new hk hr
theorem Sp.mark {nd R n seen wait a pre k seen' wait'} (h : Sp nd R n seen wait (some (a, pre))) (hm : Mk seen wait k seen' wait') (hk : k < n) (hr : RS nd R k) : Sp nd R n seen' wait' (some (a, pre ++ [k])) := by
 rcases hm with ⟨a, rfl, rfl⟩ | ⟨a, rfl, rfl⟩
 ·exact h.mark_old a
 ·exact h.mark_new hk hr
theorem left_start (n : Nat) : Reach.left (List.replicate n false) [] = 2 * n := by simp [Reach.left]
theorem RS.wider {nd} {R S : Nat → Prop} (h : ∀ i, R i → S i) {i : Nat} (hr : RS nd R i) : RS nd S i := by
 induction hr with
 | root h1 => exact .root (h _ h1)
 | step _ h2 ih => exact .step ih h2
theorem RS.or {nd} {R S : Nat → Prop} (i : Nat) : RS nd (fun i => R i ∨ S i) i ↔ RS nd R i ∨ RS nd S i := by
 constructor
 ·intro h
  induction h with
  | root h => exact h.imp .root .root
  | step _ h ih => exact ih.imp (fun k => .step k h) (fun k => .step k h)
 ·rintro (h | h)
  ·exact h.wider fun _ => .inl
  ·exact h.wider fun _ => .inr
end Go.Proofs.YtngmipfodjgmmaaGreatDoor.Reach
end
section
namespace Go.Proofs.YtngmipfodjgmmaaGreatDoor.P
open Go Go.RowKit Go.Lib Go.Shelf Go.Proofs.YtngmipfodjgmmaaGreatDoorW.PrintWords Go.Proofs.YtngmipfodjgmmaaGreatDoorW.PrintLast Go.Proofs.YtngmipfodjgmmaaGreatDoorW.PrintMore Go.Proofs.YtngmipfodjgmmaaGreatDoor.Reach
set_option linter.unusedVariables false
set_option linter.unusedSimpArgs false
def ni (i : Nat) : Value := .int .i64 i
theorem info_int : (Tryz.prog.info? 3).map (fun i => (i.zero, i.size, i.bytes)) = some (some (.int .i64 0), 1, 8) := by kernel_rfl
set_option maxHeartbeats 1000000 in
theorem put_any (B bw : Nat) (w : World) (v : Value) (wait : List Nat) (k : Nat) (hb : Boxed w bw 111 v) (ho : w.ownsRow B 3 1 v wait.length (wait.map ni)) (hB : B ≤ bw) (hw : B ≤ w.heap.size) (hl : wait.length ≤ 100000) :
 Calls Tryz.prog 68 #[.pointer (some ⟨bw, 0, none⟩), .int .i64 k] w fun e w' => (∃ r, e = .returned r) ∧ ∃ v', Boxed w' bw 111 v' ∧ w'.ownsRow B 3 1 v' (wait.length + 1) ((wait ++ [k]).map ni) ∧ KeepsOthers w w' ∧ Below B w w' ∧
  (∀ b, b < w.heap.size → b ≠ bw → some b ≠ v.ownBlock → w'.heap[b]? = w.heap[b]?) ∧ w.heap.size ≤ w'.heap.size := by
 obtain ⟨i0, hi, hz0, hz1, hz2⟩ := info_parts info_int
 have hc := hb.cell
 have hf := hb.frozen
 have HB := Azz.mk hb
 have HO := Azz.mk ho
 clear hb ho
 go_enter Tryz.func68, Tryz.ntmps68
 go_wp2_with (at_builtin; refine wpList_append_own _ rfl _ _ 26 rfl B 3 i0 (.int .i64 0) 1 8 Tryz.underlying26 hi hz0 hz1 hz2 rfl (by decide) _ _ _ rfl (HO.out.alloc _) ⟨w.heap.size, 0, none⟩ 1 1 [.int .i64 k] rfl rfl (cell_one_new _ _ _) (by simp [Value.oneCell']) (by unfold maxLen; omega) (by omega) (by simp; omega) ?_; intro v' w1 hown' hgrow _; obtain ⟨g', cap', rfl⟩ := ownsRow_succ hown'; obtain ⟨hv1, hv2, hr2, hk2, hb2⟩ := HB.out.appended (by decide) HO.out hw hB hown' hgrow; have hc1 := hv1.cell; have hf1 := hv1.frozen; have HG := Azz.mk hgrow; have H2 := Azz.mk (And.intro hv2 (And.intro hr2 (And.intro hk2 hb2))); clear hgrow hown' hv2 hr2 hk2 hb2 hv1)
 go_end0
 refine ⟨⟨_, rfl⟩, _, H2.out.1, by rw [List.map_append]; exact H2.out.2.1, H2.out.2.2.1, H2.out.2.2.2, fun b h1 h2 h3 => ?_, H2.out.2.2.2.size⟩
 refine (Below.heap_setCell _ _ _ b h2).trans ((HG.out.block b (by simp; omega) h3).trans (Below.heap_alloc w _ b h1))
theorem take_no (bw : Nat) (w : World) (hb : Boxed w bw 111 (.slice none 0 0) ∨ ∃ a c, Boxed w bw 111 (.slice a 0 c)) :
 Calls Tryz.prog 69 #[.pointer (some ⟨bw, 0, none⟩)] w fun e w' => e = .returned (.tuple #[.int .i64 0, .bool false]) ∧ w = w' := by
 obtain ⟨a, c, hb⟩ : ∃ a c, Boxed w bw 111 (.slice a 0 c) := hb.elim (fun h => ⟨_, _, h⟩) id
 have hc := hb.cell
 clear hb
 go_enter Tryz.func69, Tryz.ntmps69
 go_wp2
 go_ret2
 exact ⟨rfl, rfl⟩
theorem slice_head_i (A : Option Addr) (n c m : Nat) (h : m ≤ c) (W : World) : (Instr.slice 26 (.slice A n c) none (some (.int .i64 (m : Int))) none).run Tryz.prog W = .ok (.slice A m c) W := by
 have hl : Tryz.prog.elem 26 = 3 := by kernel_rfl
 have hu : Tryz.prog.underlying 26 = some (.slice (Tryz.prog.elem 26)) := by rw [hl]; exact Tryz.underlying26
 rw [run_slice_h (P := Tryz.prog) W 26 A n c hu .i64 m (by omega) (by omega), hl, Tryz.sizeOf3]
 have e : A.map (fun x : Addr => x.add 0) = A := by cases A <;> simp [Addr.add]
 simp [sliced, e, Result.andThen]
theorem own_take {w : World} {B : Nat} {v : Value} {wait : List Nat} {k : Nat} (h : w.ownsRow B 3 1 v (wait.length + 1) ((wait ++ [k]).map ni)) :
 ∃ g c, v = .slice (some ⟨g, 0, none⟩) (wait.length + 1) c ∧ wait.length + 1 ≤ c ∧ w.cell? ⟨g, wait.length, none⟩ = some (.int .i64 k) ∧ w.ownsRow B 3 1 (.slice (some ⟨g, 0, none⟩) wait.length c) wait.length (wait.map ni) := by
 obtain ⟨h1, h2⟩ := h
 rcases h2 with ⟨_, h0⟩ | ⟨g, c, cur, rfl, hg, hh, hn, hm, hs, ht⟩
 ·omega
 ·rw [Nat.mul_one] at ht hs
  have e1 : cur.toList[wait.length]? = some (ni k) := by
   have := congrArg (·[wait.length]?) ht
   simp only [List.getElem?_take, List.map_append] at this
   rw [if_pos (by omega), List.getElem?_append_right (by simp)] at this
   simpa using this
  refine ⟨g, c, rfl, hn, ?_, by simp, .inr ⟨g, c, cur, rfl, hg, hh, by omega, hm, by omega, ?_⟩⟩
  ·refine (kCC hh wait.length).trans ?_
   rw [Array.getElem?_toList] at e1
   exact e1
  ·have := congrArg (List.take wait.length) ht
   rw [List.take_take, List.map_append, List.take_append_of_le_length (by simp), List.take_of_length_le (l := wait.map ni) (by simp), Nat.min_eq_left (by omega)] at this
   rw [Nat.mul_one]
   exact this
set_option maxHeartbeats 1000000 in
theorem take_yes (B bw : Nat) (w : World) (v : Value) (wait : List Nat) (k : Nat) (hb : Boxed w bw 111 v) (ho : w.ownsRow B 3 1 v (wait.length + 1) ((wait ++ [k]).map ni)) (hB : B ≤ bw) (hl : wait.length ≤ 100000) :
 Calls Tryz.prog 69 #[.pointer (some ⟨bw, 0, none⟩)] w fun e w' => e = .returned (.tuple #[.int .i64 k, .bool true]) ∧ ∃ v', w' = w.setCell ⟨bw, 0, none⟩ v' ∧ Boxed w' bw 111 v' ∧ w'.ownsRow B 3 1 v' wait.length (wait.map ni) ∧ v'.ownBlock = v.ownBlock := by
 obtain ⟨g, c, rfl, hc1, hk, ho2⟩ := own_take ho
 have hc := hb.cell
 have hf := hb.frozen
 have hn := hb.not_row (e := 3) (by decide) ho
 have HB := Azz.mk hb
 have HO := Azz.mk ho2
 have HN := Azz.mk hn
 have hsl := slice_head_i (some ⟨g, 0, none⟩) (wait.length + 1) c wait.length (by omega)
 have h0 : (((wait.length + 1 : Nat) : Int) == 0) = false := beq_eq_false_iff_ne.mpr (by omega)
 clear hb ho ho2
 go_enter Tryz.func69, Tryz.ntmps69
 go_wp2
 go_ret2
 exact ⟨rfl, _, rfl, HB.out.set _, HO.out.kept (grownBy_setCell' w bw _) (.inr hn.symm), rfl⟩
/-- The state of going through: what is seen, what waits. -/
structure St (B : Nat) (w : World) (bs bw sb : Nat) (seen : List Bool) (wait : List Nat) : Prop where
 sbox : Boxed w bs 23 (.slice (some ⟨sb, 0, none⟩) seen.length seen.length)
 sblk : w.heap[sb]? = some (.cells (seen.map Value.bool).toArray 4 (0, 0))
 wbox : ∃ v, Boxed w bw 111 v ∧ w.ownsRow B 3 1 v wait.length (wait.map ni)
 base : B ≤ bs ∧ B ≤ bw ∧ B ≤ sb
theorem grown_set (w : World) (b i : Nat) (v : Value) : w.grownBy (w.setCell ⟨b, i, none⟩ v) (some b) :=
 ⟨rfl, rfl, rfl, (KeepsWalks.setCell w _ v).size, fun k _ hk => Below.heap_setCell _ _ _ k (fun e => hk (by rw [e]))⟩
theorem heap_ne {w : World} {a b : Nat} {o p : Obj} (ha : w.heap[a]? = some o) (hb : w.heap[b]? = some p) (h : o ≠ p) : a ≠ b := by
 rintro rfl
 exact h (Option.some.inj (ha.symm.trans hb))
theorem own_not {w : World} {B b : Nat} {v : Value} {n : Nat} {xs : List Value} {cs : Array Value} {t : TypeId} (h : w.ownsRow B 3 1 v n xs) (hb : w.heap[b]? = some (.cells cs t (0, 0))) (ht : t ≠ 3) : some b ≠ v.ownBlock := by
 rcases h.2 with ⟨rfl, _⟩ | ⟨g, cap, cur, rfl, _, hgb, _⟩
 ·simp [Value.ownBlock]
 ·intro e
  obtain rfl : b = g := by simpa [Value.ownBlock] using e
  rw [hgb] at hb
  injection hb with hb
  injection hb with _ h2
  exact ht h2.symm
theorem St.put {B : Nat} {w w' : World} {bs bw sb : Nat} {seen : List Bool} {wait wait' : List Nat} (h : St B w bs bw sb seen wait) (hs : w'.heap[bs]? = w.heap[bs]?) (hb : w'.heap[sb]? = w.heap[sb]?) {v : Value} (h1 : Boxed w' bw 111 v) (h2 : w'.ownsRow B 3 1 v wait'.length (wait'.map ni)) : St B w' bs bw sb seen wait' :=
 ⟨hs.trans h.sbox, hb.trans h.sblk, ⟨v, h1, h2⟩, h.base⟩
/-- A place is marked in the row of what is seen. -/
theorem St.see {B : Nat} {w : World} {bs bw sb : Nat} {seen : List Bool} {wait : List Nat} (h : St B w bs bw sb seen wait) {k : Nat} (hk : k < seen.length) : St B (w.setCell ⟨sb, k, none⟩ (.bool true)) bs bw sb (seen.set k true) wait := by
 obtain ⟨v, hv, ho⟩ := h.wbox
 have n1 : bs ≠ sb := heap_ne h.sbox h.sblk (by simp)
 have n2 : bw ≠ sb := heap_ne hv h.sblk (by simp)
 have n3 : some sb ≠ v.ownBlock := own_not ho h.sblk (by decide)
 refine ⟨?_, ?_, ⟨v, (Below.heap_setCell _ _ _ bw n2).trans hv, ?_⟩, h.base⟩
 ·rw [List.length_set]
  exact (Below.heap_setCell _ _ _ bs n1).trans h.sbox
 ·obtain ⟨hlt, hk2⟩ := Array.getElem?_eq_some_iff.1 h.sblk
  show (w.heap.modify sb _)[sb]? = _
  rw [Array.getElem?_eq_getElem (by rw [Array.size_modify]; exact hlt), Array.getElem_modify_self, hk2]
  simp [List.map_set]
 ·exact ho.kept (row := some sb) (grown_set w sb k (.bool true)) (.inr n3.symm)
/-- Boxes of other types stay. -/
def Far (w w' : World) : Prop := ∀ (b : Nat) (cs : Array Value) (t : TypeId), w.heap[b]? = some (Obj.cells cs t (0, 0)) → t ≠ 4 → t ≠ 111 → t ≠ 3 → w'.heap[b]? = some (Obj.cells cs t (0, 0))
theorem St.cell {B : Nat} {w : World} {bs bw sb : Nat} {seen : List Bool} {wait : List Nat} (h : St B w bs bw sb seen wait) {k : Nat} (hk : k < seen.length) : w.cell? ⟨sb, k, none⟩ = some (.bool (seen.getD k false)) ∧ w.frozen? ⟨sb, k, none⟩ = false := by
 refine ⟨(kCC h.sblk k).trans ?_, by simp [World.frozen?, h.sblk]⟩
 simp [List.getD_eq_getElem?_getD, List.getElem?_eq_getElem hk]
set_option maxHeartbeats 1000000 in
theorem mark_old (B : Nat) (w : World) (bs bw sb : Nat) (seen : List Bool) (wait : List Nat) (k : Nat) (h : St B w bs bw sb seen wait) (hk : k < seen.length) (hl : seen.length ≤ 100000) (hs : sn seen k) :
 Calls Tryz.prog 67 #[.int .i64 k, .pointer (some ⟨bs, 0, none⟩), .pointer (some ⟨bw, 0, none⟩)] w fun e w' => (∃ r, e = .returned r) ∧ w = w' := by
 obtain ⟨hc, hf⟩ := h.cell hk
 rw [show seen.getD k false = true from hs] at hc
 have h1 := h.sbox.cell
 clear h hs
 go_enter Tryz.func67, Tryz.ntmps67
 go_wp2
 go_end0
 exact ⟨⟨_, rfl⟩, rfl⟩
set_option maxHeartbeats 1000000 in
theorem mark_new (B : Nat) (w : World) (bs bw sb : Nat) (seen : List Bool) (wait : List Nat) (k : Nat) (h : St B w bs bw sb seen wait) (hk : k < seen.length) (hl : seen.length ≤ 100000) (hl2 : wait.length ≤ 100000) (hB : B ≤ w.heap.size) (hs : ¬ sn seen k) :
 Calls Tryz.prog 67 #[.int .i64 k, .pointer (some ⟨bs, 0, none⟩), .pointer (some ⟨bw, 0, none⟩)] w fun e w' => (∃ r, e = .returned r) ∧ St B w' bs bw sb (seen.set k true) (wait ++ [k]) ∧ KeepsOthers w w' ∧ Below B w w' ∧ Far w w' := by
 obtain ⟨hc, hf⟩ := h.cell hk
 have hn : seen.getD k false = false := by
  cases e : seen.getD k false with
  | false => rfl
  | true => exact absurd e hs
 rw [hn] at hc
 have h1 := h.sbox.cell
 have H1 := Azz.mk (h.see hk)
 have HS0 := Azz.mk h.sblk
 have HB := Azz.mk h.base
 have Z : w.heap.size ≤ (w.setCell ⟨sb, k, none⟩ (.bool true)).heap.size := (KeepsWalks.setCell w _ _).size
 have HZ := Azz.mk Z
 have HW := Azz.mk (h.see hk).wbox
 clear h hs Z hn
 obtain ⟨v, hv, ho⟩ := HW.out
 have HP := Azz.mk (put_any B bw _ v wait k hv ho HB.out.2.1 (Nat.le_trans hB HZ.out) hl2)
 have HO := Azz.mk ho
 have HV := Azz.mk hv
 clear hv ho HW
 go_enter Tryz.func67, Tryz.ntmps67
 go_wp2_with fail
 (with_reducible refine HP.out.mono ?_)
 rintro e w1 ⟨⟨r, rfl⟩, v', b1, o1, ko, bl, far, sz⟩
 have H2 := Azz.mk (And.intro b1 (And.intro o1 (And.intro ko (And.intro bl far))))
 clear b1 o1 ko bl far
 go_wp2
 go_end0
 obtain ⟨b1, o1, ko, bl, far⟩ := H2.out
 refine ⟨⟨_, rfl⟩, H1.out.put (far bs H1.out.sbox.lt (heap_ne H1.out.sbox HV.out (by simp)) (own_not HO.out H1.out.sbox (by decide))) (far sb (Array.getElem?_eq_some_iff.1 H1.out.sblk).1 (heap_ne H1.out.sblk HV.out (by simp)) (own_not HO.out H1.out.sblk (by decide))) b1 (by rw [List.length_append]; exact o1), (KeepsOthers.setCell _ _ _).trans ko, (Below.setCell (p := ⟨sb, k, none⟩) (Below.refl _ _) HB.out.2.2 _).trans bl, fun b cs t hb n1 n2 n3 => ?_⟩
 have e1 : b ≠ sb := by
  rintro rfl
  rw [HS0.out] at hb
  injection hb with hb
  injection hb with _ h2
  exact n1 h2.symm
 have h1 := (Below.heap_setCell w ⟨sb, k, none⟩ (.bool true) b e1).trans hb
 exact (far b (Array.getElem?_eq_some_iff.1 h1).1 (heap_ne h1 HV.out (by intro h; injection h with _ h2; exact n2 h2)) (own_not HO.out h1 n3)).trans h1
end Go.Proofs.YtngmipfodjgmmaaGreatDoor.P
end
