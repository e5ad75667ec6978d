/- Walks and plain laws of this claim, a part. -/
import Derived.Test.YtngmipfodjgmmaaGreatDoorGs66
import Derived.Test.YtngmipfodjgmmaaGreatDoorGs67
import Derived.WalkKit
section
namespace Go.Proofs.YtngmipfodjgmmaaGreatDoor.Pure
open Go Go.RowKit Go.Lib Go.Shelf Go.Proofs.YtngmipfodjgmmaaGreatDoorW.PrintWords Go.Proofs.YtngmipfodjgmmaaGreatDoorW.PrintLast Go.Proofs.YtngmipfodjgmmaaGreatDoorW.PrintMore
set_option linter.unusedVariables false
set_option linter.unusedSimpArgs false
set_option maxRecDepth 100000 in
set_option maxHeartbeats 8000000 in
theorem ris_sec (s : Sc) (A : Option Addr) (c : Nat) (w : World) (hc : s.rels.length ≤ c) (hr : Kd.C P.k98 w A s.rels.length s.rels) :
 Calls Tryz.prog 60 #[.agg #[.string s.n, .int .i64 s.kd, .bool s.keep, .int .i64 s.al, .string s.data, .slice A s.rels.length c]] w (RIsPost s w) := by
 have HR := Azz.mk hr
 obtain ⟨nb, ⟨K, hK⟩, hn2⟩ := names_one s.n
 have HNm := Azz.mk (fun W => P.cleatref14_IsName.calls K _ nb W (hK K (Nat.le_refl _)))
 have HN2 := Azz.mk hn2
 have no : ¬ Right s → ∀ w', Below w.heap.size w w' → RIsPost s w (.returned (.bool false)) w' := fun h w' hb => ⟨false, rfl, isB_no h, hb⟩
 have HNo := Azz.mk no
 clear hr hK hn2 no
 go_enter Tryz.func60, Tryz.ntmps60
 go_wp2_with fail
 (with_reducible refine (HNm.out _).mono ?_)
 rintro en w1 ⟨rfl, hb⟩
 have HX := Azz.mk (kBB (blk_new w (.cells #[.string s.n, .int .i64 s.kd, .bool s.keep, .int .i64 s.al, .string s.data, .slice A s.rels.length c] 64)) hb)
 have HB := Azz.mk (bTT ((Below.refl _ w).alloc (Nat.le_refl _) _) hb)
 obtain ⟨z0, z1, z2, z3, z4, z5⟩ := cl6 HX.out
 clear hb HNm
 cases nb with
 | false =>
  go_wp2
  go_ret
  exact HNo.out (fun h => absurd (Ev.one h.name HN2.out) (by decide)) _ HB.out
 | true =>
  by_cases c0 : s.kd < 1
  ·have b0 : decide (s.kd < 1) = true := decide_eq_true c0
   have HC := Azz.mk c0
   clear c0
   go_wp2
   go_ret
   exact HNo.out (fun h => by have := h.kind.1; have := HC.out; omega) _ HB.out
  have b0 : decide (s.kd < 1) = false := decide_eq_false c0
  have HC0 := Azz.mk c0
  clear c0
  by_cases c1 : 3 < s.kd
  ·have b1 : decide (3 < s.kd) = true := decide_eq_true c1
   have HC := Azz.mk c1
   clear c1
   go_wp2
   go_ret
   exact HNo.out (fun h => by have := h.kind.2; have := HC.out; omega) _ HB.out
  have b1 : decide (3 < s.kd) = false := decide_eq_false c1
  have HC1 := Azz.mk c1
  clear c1
  by_cases c2 : s.al < 0
  ·have b2 : decide (s.al < 0) = true := decide_eq_true c2
   have HC := Azz.mk c2
   clear c2
   go_wp2
   go_ret
   exact HNo.out (fun h => by have := h.al.1; have := HC.out; omega) _ HB.out
  have b2 : decide (s.al < 0) = false := decide_eq_false c2
  have HC2 := Azz.mk c2
  clear c2
  by_cases c3 : 12 < s.al
  ·have b3 : decide (12 < s.al) = true := decide_eq_true c3
   have HC := Azz.mk c3
   clear c3
   go_wp2
   go_ret
   exact HNo.out (fun h => by have := h.al.2; have := HC.out; omega) _ HB.out
  have b3 : decide (12 < s.al) = false := decide_eq_false c3
  have HC3 := Azz.mk c3
  clear c3
  by_cases c4 : (4096 : Int) < (s.data.size : Int)
  ·have b4 : decide ((4096 : Int) < (s.data.size : Int)) = true := decide_eq_true c4
   have HC := Azz.mk c4
   clear c4
   go_wp2
   go_ret
   exact HNo.out (fun h => by have := h.data; have := HC.out; omega) _ HB.out
  have b4 : decide ((4096 : Int) < (s.data.size : Int)) = false := decide_eq_false c4
  have HC4 := Azz.mk c4
  clear c4
  by_cases c5 : (64 : Int) < (s.rels.length : Int)
  ·have b5 : decide ((64 : Int) < (s.rels.length : Int)) = true := decide_eq_true c5
   have HC := Azz.mk c5
   clear c5
   go_wp2
   go_ret
   exact HNo.out (fun h => by have := h.rels; have := HC.out; omega) _ HB.out
  have b5 : decide ((64 : Int) < (s.rels.length : Int)) = false := decide_eq_false c5
  have HC5 := Azz.mk c5
  clear c5
  go_wp2
  clear z0 z1 z2 z3 z4 z5
  go_loopw [3, 4] (fun v3 v4 wr => ∃ (i : Nat) (e : Int), i ≤ s.rels.length ∧ v4 = .int .i64 i ∧ v3 = .int .i64 e ∧ Azz ((0 ≤ e ∧ e ≤ 4096) ∧ (RelsOk s.kd s.data 0 s.rels ↔ RelsOk s.kd s.data e (s.rels.drop i))) ∧ Azz (wr.heap[w.heap.size]? = some (.cells #[.string s.n, .int .i64 s.kd, .bool s.keep, .int .i64 s.al, .string s.data, .slice A s.rels.length c] 64 (0, 0))) ∧ Azz (Below w.heap.size w wr)) (fun _ v _ => s.rels.length - (RowKit.intOf v).toNat)
  case atStart => exact ⟨0, 0, Nat.zero_le _, rfl, rfl, ⟨⟨by decide, by decide⟩, by rw [List.drop_zero]⟩, HX, HB⟩
  case round =>
   clear HX HB
   obtain ⟨i, e, hi, rfl, rfl, HE, HX, HB⟩ := hrel
   obtain ⟨z0, z1, z2, z3, z4, z5⟩ := cl6 HX.out
   have HL := Azz.mk (show s.rels.length ≤ 64 by have := HC5.out; omega)
   by_cases hlt : i < s.rels.length
   ·obtain ⟨ad, ea, y0, y1, y2, y3⟩ := P.at_T98 (Kd.C_below HR.out HB.out) i (by omega) (by omega)
    subst ea
    rw [Int.toNat_natCast] at y0 y1 y2 y3
    have hdr := rd_drop s.rels i hlt
    obtain ⟨r, hr⟩ : ∃ r, P.rd_T98 s.rels i = r := ⟨_, rfl⟩
    rw [hr] at y0 y1 y2 y3 hdr
    have HDr := Azz.mk hdr
    have HRl := Azz.mk (rrel_any s r e HE.out.1.1 (by have := HC4.out; omega) (some ad) c)
    have HSz := Azz.mk (rsize_calls r.f1)
    have i0 : (0 : Int) ≤ (i : Int) := by omega
    have i1 : (i : Int) < s.rels.length := by omega
    clear hr hdr
    go_wp2
    go_region_held3 (fun w' => w'.cell? ⟨w.heap.size, 0, none⟩ = some (.string s.n) ∧ w'.cell? ⟨w.heap.size, 1, none⟩ = some (.int .i64 s.kd) ∧ w'.cell? ⟨w.heap.size, 2, none⟩ = some (.bool s.keep) ∧ w'.cell? ⟨w.heap.size, 3, none⟩ = some (.int .i64 s.al) ∧ w'.cell? ⟨w.heap.size, 4, none⟩ = some (.string s.data) ∧ w'.cell? ⟨w.heap.size, 5, none⟩ = some (.slice (some ad) s.rels.length c) ∧ w'.cell? (ad.add (i * 4)) = some (.int .i64 r.f0) ∧ w'.cell? ⟨(ad.add (i * 4)).block, (ad.add (i * 4)).off + 1, none⟩ = some (.int .i64 r.f1) ∧ w'.cell? ⟨(ad.add (i * 4)).block, (ad.add (i * 4)).off + 2, none⟩ = some (.int .i64 r.f2) ∧ w'.cell? ⟨(ad.add (i * 4)).block, (ad.add (i * 4)).off + 3, none⟩ = some (.int .i64 r.f3)) (first | go_keep | exact kp10 (by assumption) hb) (first | (go_at_call 72; (with_reducible refine (HRl.out _).mono ?_); rintro en w2 ⟨b, rfl, hgood, hb⟩; (have HGd := Azz.mk hgood)))
    have hb1 := (show Below wr.heap.size wr w2 from bTT (by repeat (first | exact Below.refl _ _ | apply bDD | apply bNN)) hb)
    have HX2 := Azz.mk (kBB HX.out hb1)
    have HB2 := Azz.mk (bTT HB.out hb1)
    replace y0 := kp1 y0 hb1
    replace y1 := kp1 y1 hb1
    clear hb hb1 HX HB z0 z1 z2 z3 z4 z5 y2 y3 HRl hgood
    cases b with
    | false =>
     go_wp2
     go_ret
     refine HNo.out (fun h => ?_) _ HB2.out
     have h2 := HE.out.2.1 h.each
     rw [HDr.out] at h2
     obtain ⟨a1, a2, a3, a4, _⟩ := h2
     exact absurd (HGd.out.2 ⟨a1, a2, a3, a4⟩) (by decide)
    | true =>
     obtain ⟨z0, z1, z2, z3, z4, z5⟩ := cl6 HX2.out
     clear z0 z1 z2 z3 z4
     have hL64 := HL.out
     go_wp2
     repeat (go_quiet (first | (go_at_call 73; (with_reducible refine (HSz.out _).mono ?_); rintro e w' ⟨rfl, ⟨nd, rfl⟩⟩; (try first | exact ⟨rfl, _, World.drewN_drewN _ _ _⟩ | exact ⟨rfl, _, Eq.trans (World.drewN_drewN _ _ _) (congrArg (World.drewN _) (Nat.add_assoc _ _ _))⟩))); try go_wp2)
     obtain ⟨g1, g2, g3, g4⟩ : RelGood s r e := by simpa using HGd.out
     have hsz := sz_pos r
     have he0 := HE.out.1.1
     have ew : wrap64 (r.f0 + (if r.f1 = 1 then 8 else 4)) = r.f0 + szR r := by
      show wrap64 (r.f0 + szR r) = r.f0 + szR r
      have := HC4.out
      exact wrap64_small _ (by omega) (by omega)
     have HEw := Azz.mk ew
     have HG := Azz.mk (And.intro g1 (And.intro g2 (And.intro g3 g4)))
     clear g1 g2 g3 g4 hsz he0 ew
     go_roundw
     case rel =>
      obtain ⟨g1, g2, g3, g4⟩ := HG.out
      refine ⟨i + 1, r.f0 + szR r, by omega, by go_num, congrArg _ HEw.out, ⟨⟨?_, ?_⟩, ?_⟩, ⟨HX2.out⟩, ⟨bNN HB2.out _⟩⟩
      ·have := sz_pos r
       have := HE.out.1.1
       omega
      ·have := HC4.out
       omega
      ·rw [HE.out.2, HDr.out]
       exact ⟨fun h => h.2.2.2.2, fun h => ⟨g1, g2, g3, g4, h⟩⟩
     case measure => simp [RowKit.intOf]; omega
   ·obtain rfl : i = s.rels.length := by omega
    go_wp2
    go_ret
    refine ⟨true, rfl, (is_iff s).2 ⟨HN2.out, ⟨by have := HC0.out; omega, by have := HC1.out; omega⟩, ⟨by have := HC2.out; omega, by have := HC3.out; omega⟩, by have := HC4.out; omega, HL.out, HE.out.2.2 ?_⟩, HB.out⟩
    rw [List.drop_length]
    trivial
end Go.Proofs.YtngmipfodjgmmaaGreatDoor.Pure
end
section
namespace Go.Proofs.YtngmipfodjgmmaaGreatDoor.Reach
set_option linter.unusedVariables false
/-- What is reached from R on, where nd tells what each place needs. -/
inductive RS (nd : Nat → List Nat) (R : Nat → Prop) : Nat → Prop
 | root {i : Nat} : R i → RS nd R i
 | step {i j : Nat} : RS nd R i → j ∈ nd i → RS nd R j
def sn (seen : List Bool) (i : Nat) : Prop := seen.getD i false = true
/-- Going through: 'seen' is reached; what waits is seen; what is seen waits, or is the one at hand of which the first needs are seen, or all it needs is seen. -/
structure Sp (nd : Nat → List Nat) (R : Nat → Prop) (n : Nat) (seen : List Bool) (wait : List Nat) (at_ : Option (Nat × List Nat)) : Prop where
 len : seen.length = n
 sound : ∀ i, sn seen i → RS nd R i
 wseen : ∀ i ∈ wait, sn seen i
 clos : ∀ i, sn seen i → i ∈ wait ∨ (∃ p, at_ = some p ∧ i = p.1 ∧ ∀ j ∈ p.2, sn seen j) ∨ ∀ j ∈ nd i, sn seen j
/-- How much is still to do. -/
def left (seen : List Bool) (wait : List Nat) : Nat := 2 * seen.count false + wait.length
theorem sn_lt {seen : List Bool} {i : Nat} (h : sn seen i) : i < seen.length := by
 unfold sn at h
 rw [List.getD_eq_getElem?_getD] at h
 by_cases c : i < seen.length
 ·exact c
 ·rw [List.getElem?_eq_none (by omega)] at h
  cases h
theorem sn_set {seen : List Bool} {k : Nat} (hk : k < seen.length) (i : Nat) : sn (seen.set k true) i ↔ i = k ∨ sn seen i := by
 unfold sn
 rw [List.getD_eq_getElem?_getD, List.getD_eq_getElem?_getD, List.getElem?_set]
 by_cases c : k = i
 ·subst c
  rw [if_pos rfl, if_pos hk]
  simp
 ·rw [if_neg c]
  constructor
  ·exact .inr
  ·rintro (e | h)
   ·exact absurd e.symm c
   ·exact h
theorem count_set {seen : List Bool} : ∀ {k : Nat}, k < seen.length → ¬ sn seen k → (seen.set k true).count false + 1 = seen.count false := by
 induction seen with
 | nil => intro k hk; exact absurd hk (Nat.not_lt_zero _)
 | cons b l ih =>
  intro k hk hn
  cases k with
  | zero =>
   have hb : b = false := by
    cases b with
    | false => rfl
    | true => exact absurd rfl hn
   subst hb
   simp
  | succ k =>
   have := ih (k := k) (by simpa using hk) (by intro h; exact hn (by unfold sn at h ⊢; simpa using h))
   rw [List.set_cons_succ, List.count_cons, List.count_cons]
   omega
/-- A place is marked: it was seen. -/
theorem Sp.mark_old {nd R n seen wait a pre k} (h : Sp nd R n seen wait (some (a, pre))) (hk : sn seen k) : Sp nd R n seen wait (some (a, pre ++ [k])) := by
 refine ⟨h.len, h.sound, h.wseen, fun i hi => ?_⟩
 rcases h.clos i hi with c | ⟨p, e, c, d⟩ | c
 ·exact .inl c
 ·cases e
  refine .inr (.inl ⟨_, rfl, c, fun j hj => ?_⟩)
  rcases List.mem_append.1 hj with hj | hj
  ·exact d j hj
  ·rw [List.mem_singleton.1 hj]; exact hk
 ·exact .inr (.inr c)
/-- .. it was not: it waits now. -/
theorem Sp.mark_new {nd R n seen wait a pre k} (h : Sp nd R n seen wait (some (a, pre))) (hk : k < n) (hr : RS nd R k) : Sp nd R n (seen.set k true) (wait ++ [k]) (some (a, pre ++ [k])) := by
 have hs := fun i => sn_set (seen := seen) (k := k) (by rw [h.len]; exact hk) i
 refine ⟨by rw [List.length_set]; exact h.len, fun i hi => ?_, fun i hi => ?_, fun i hi => ?_⟩
 ·rcases (hs i).1 hi with rfl | hi
  ·exact hr
  ·exact h.sound i hi
 ·rcases List.mem_append.1 hi with hi | hi
  ·exact (hs i).2 (.inr (h.wseen i hi))
  ·exact (hs i).2 (.inl (List.mem_singleton.1 hi))
 ·rcases (hs i).1 hi with rfl | hi
  ·exact .inl (List.mem_append.2 (.inr (List.mem_singleton.2 rfl)))
  ·rcases h.clos i hi with c | ⟨p, e, c, d⟩ | c
   ·exact .inl (List.mem_append.2 (.inl c))
   ·cases e
    refine .inr (.inl ⟨_, rfl, c, fun j hj => ?_⟩)
    rcases List.mem_append.1 hj with hj | hj
    ·exact (hs j).2 (.inr (d j hj))
    ·exact (hs j).2 (.inl (List.mem_singleton.1 hj))
   ·exact .inr (.inr fun j hj => (hs j).2 (.inr (c j hj)))
/-- The last that waits is taken. -/
theorem Sp.take {nd R n seen wait k} (h : Sp nd R n seen (wait ++ [k]) none) : Sp nd R n seen wait (some (k, [])) ∧ RS nd R k ∧ k < n := by
 have hk : sn seen k := h.wseen k (List.mem_append.2 (.inr (List.mem_singleton.2 rfl)))
 refine ⟨⟨h.len, h.sound, fun i hi => h.wseen i (List.mem_append.2 (.inl hi)), fun i hi => ?_⟩, h.sound k hk, by rw [← h.len]; exact sn_lt hk⟩
 rcases h.clos i hi with c | ⟨p, e, _⟩ | c
 ·rcases List.mem_append.1 c with c | c
  ·exact .inl c
  ·exact .inr (.inl ⟨_, rfl, List.mem_singleton.1 c, fun j hj => by cases hj⟩)
 ·cases e
 ·exact .inr (.inr c)
/-- All needs of the one at hand are marked. -/
theorem Sp.next {nd R n seen wait a} (h : Sp nd R n seen wait (some (a, nd a))) : Sp nd R n seen wait none := by
 refine ⟨h.len, h.sound, h.wseen, fun i hi => ?_⟩
 rcases h.clos i hi with c | ⟨p, e, c, d⟩ | c
 ·exact .inl c
 ·cases e
  subst c
  exact .inr (.inr d)
 ·exact .inr (.inr c)
/-- Ahead of all: nothing is seen. -/
theorem Sp.start (nd R n) : Sp nd R n (List.replicate n false) [] none := by
 have no : ∀ i, ¬ sn (List.replicate n false) i := by
  intro i h
  unfold sn at h
  rw [List.getD_eq_getElem?_getD, List.getElem?_replicate] at h
  split at h <;> cases h
 exact ⟨List.length_replicate, fun i h => absurd h (no i), fun i h => (List.not_mem_nil h).elim, fun i h => absurd h (no i)⟩
theorem Sp.root_new {nd R n seen wait k} (h : Sp nd R n seen wait none) (hk : k < n) (hr : R k) : Sp nd R n (seen.set k true) (wait ++ [k]) none := by
 have hs := fun i => sn_set (seen := seen) (k := k) (by rw [h.len]; exact hk) i
 refine ⟨by rw [List.length_set]; exact h.len, fun i hi => ?_, fun i hi => ?_, fun i hi => ?_⟩
 ·rcases (hs i).1 hi with rfl | hi
  ·exact .root hr
  ·exact h.sound i hi
 ·rcases List.mem_append.1 hi with hi | hi
  ·exact (hs i).2 (.inr (h.wseen i hi))
  ·exact (hs i).2 (.inl (List.mem_singleton.1 hi))
 ·rcases (hs i).1 hi with rfl | hi
  ·exact .inl (List.mem_append.2 (.inr (List.mem_singleton.2 rfl)))
  ·rcases h.clos i hi with c | ⟨p, e, _⟩ | c
   ·exact .inl (List.mem_append.2 (.inl c))
   ·cases e
   ·exact .inr (.inr fun j hj => (hs j).2 (.inr (c j hj)))
/-- What is seen at the end is what is reached. -/
theorem Sp.done {nd R n seen} (h : Sp nd R n seen [] none) (hR : ∀ i, R i → sn seen i) (i : Nat) : sn seen i ↔ RS nd R i := by
 refine ⟨h.sound i, fun hr => ?_⟩
 induction hr with
 | root hr => exact hR _ hr
 | step _ hj ih =>
  rcases h.clos _ ih with c | ⟨p, e, _⟩ | c
  ·cases c
  ·cases e
  ·exact c _ hj
/-- A place is marked. -/
def Mk (seen : List Bool) (wait : List Nat) (k : Nat) (seen' : List Bool) (wait' : List Nat) : Prop := (sn seen k ∧ seen' = seen ∧ wait' = wait) ∨ (¬ sn seen k ∧ seen' = seen.set k true ∧ wait' = wait ++ [k])
theorem Mk.left {seen wait k seen' wait'} (h : Mk seen wait k seen' wait') (hk : k < seen.length) : left seen' wait' ≤ left seen wait ∧ seen'.length = seen.length ∧ sn seen' k ∧ ∀ i, sn seen i → sn seen' i := by
 rcases h with ⟨a, rfl, rfl⟩ | ⟨a, rfl, rfl⟩
 ·exact ⟨Nat.le_refl _, rfl, a, fun _ h => h⟩
 ·have := count_set hk a
  refine ⟨?_, List.length_set, (sn_set hk k).2 (.inl rfl), fun i h => (sn_set hk i).2 (.inr h)⟩
  unfold Reach.left
  rw [List.length_append, List.length_singleton]
  omega
theorem Sp.root {nd R n seen wait k seen' wait'} (h : Sp nd R n seen wait none) (hm : Mk seen wait k seen' wait') (hk : k < n) (hr : R k) : Sp nd R n seen' wait' none := by
 rcases hm with ⟨a, rfl, rfl⟩ | ⟨a, rfl, rfl⟩
 ·exact h
 ·exact h.root_new hk hr
theorem Sp.mark {nd R n seen wait a pre k seen' wait'} (h : Sp nd R n seen wait (some (a, pre))) (hm : Mk seen wait k seen' wait') (hk : k < n) (hr : RS nd R k) : Sp nd R n seen' wait' (some (a, pre ++ [k])) := by
 rcases hm with ⟨a, rfl, rfl⟩ | ⟨a, rfl, rfl⟩
 ·exact h.mark_old a
 ·exact h.mark_new hk hr
theorem left_start (n : Nat) : Reach.left (List.replicate n false) [] = 2 * n := by simp [Reach.left]
theorem RS.wider {nd} {R S : Nat → Prop} (h : ∀ i, R i → S i) {i : Nat} (hr : RS nd R i) : RS nd S i := by
 induction hr with
 | root h1 => exact .root (h _ h1)
 | step _ h2 ih => exact .step ih h2
theorem RS.or {nd} {R S : Nat → Prop} (i : Nat) : RS nd (fun i => R i ∨ S i) i ↔ RS nd R i ∨ RS nd S i := by
 constructor
 ·intro h
  induction h with
  | root h => exact h.imp .root .root
  | step _ h ih => exact ih.imp (fun k => .step k h) (fun k => .step k h)
 ·rintro (h | h)
  ·exact h.wider fun _ => .inl
  ·exact h.wider fun _ => .inr
end Go.Proofs.YtngmipfodjgmmaaGreatDoor.Reach
end
