/- Walks and plain laws of this claim, a part. -/
import Derived.Test.YtngmipfodjgmmaaDoorFr45
import Derived.Test.YtngmipfodjgmmaaDoorFr11
import Derived.Test.YtngmipfodjgmmaaDoorFr13
import Derived.RangeFuncNested
import Derived.RangeFuncBox
import Derived.RangeFuncBound
import Derived.RangeFuncCalls
import Derived.RangeFuncLeaves
import Derived.Maps.AppendAt
import Derived.Shelf.Abstract
import Derived.Shelf.RegionOpen
import Derived.WalkKit
import Derived.OwnWalkIn
import Derived.TacticsInMore
import Derived.LoopNIn
import Derived.LoopIn
namespace Go.Proofs.YtngmipfodjgmmaaDoor.P
open Go Go.RowKit Go.Lib Go.Shelf Go.Proofs.YtngmipfodjgmmaaDoorW.PrintWords Go.Proofs.YtngmipfodjgmmaaDoorW.PrintLast Go.Proofs.YtngmipfodjgmmaaDoorW.PrintMore Go.Proofs.YtngmipfodjgmmaaDoor.Reach
set_option linter.unusedVariables false
set_option linter.unusedSimpArgs false
def ni (i : Nat) : Value := .int .i64 i
theorem info_int : (Tryd.prog.info? 3).map (fun i => (i.zero, i.size, i.bytes)) = some (some (.int .i64 0), 1, 8) := by kernel_rfl
set_option maxHeartbeats 1000000 in
theorem put_any (B bw : Nat) (w : World) (v : Value) (wait : List Nat) (k : Nat) (hb : Boxed w bw 105 v) (ho : w.ownsRow B 3 1 v wait.length (wait.map ni)) (hB : B ≤ bw) (hw : B ≤ w.heap.size) (hl : wait.length ≤ 100000) :
 Calls Tryd.prog 56 #[.pointer (some ⟨bw, 0, none⟩), .int .i64 k] w fun e w' => (∃ r, e = .returned r) ∧ ∃ v', Boxed w' bw 105 v' ∧ w'.ownsRow B 3 1 v' (wait.length + 1) ((wait ++ [k]).map ni) ∧ KeepsOthers w w' ∧ Below B w w' ∧
  (∀ b, b < w.heap.size → b ≠ bw → some b ≠ v.ownBlock → w'.heap[b]? = w.heap[b]?) ∧ w.heap.size ≤ w'.heap.size := by
 obtain ⟨i0, hi, hz0, hz1, hz2⟩ := info_parts info_int
 have hc := hb.cell
 have hf := hb.frozen
 have HB := Azz.mk hb
 have HO := Azz.mk ho
 clear hb ho
 go_enter Tryd.func56, Tryd.ntmps56
 go_wp2_with (at_builtin; refine wpList_append_own _ rfl _ _ 25 rfl B 3 i0 (.int .i64 0) 1 8 Tryd.underlying25 hi hz0 hz1 hz2 rfl (by decide) _ _ _ rfl (HO.out.alloc _) ⟨w.heap.size, 0, none⟩ 1 1 [.int .i64 k] rfl rfl (cell_one_new _ _ _) (by simp [Value.oneCell']) (by unfold maxLen; omega) (by omega) (by simp; omega) ?_; intro v' w1 hown' hgrow _; obtain ⟨g', cap', rfl⟩ := ownsRow_succ hown'; obtain ⟨hv1, hv2, hr2, hk2, hb2⟩ := HB.out.appended (by decide) HO.out hw hB hown' hgrow; have hc1 := hv1.cell; have hf1 := hv1.frozen; have HG := Azz.mk hgrow; have H2 := Azz.mk (And.intro hv2 (And.intro hr2 (And.intro hk2 hb2))); clear hgrow hown' hv2 hr2 hk2 hb2 hv1)
 go_end0
 refine ⟨⟨_, rfl⟩, _, H2.out.1, by rw [List.map_append]; exact H2.out.2.1, H2.out.2.2.1, H2.out.2.2.2, fun b h1 h2 h3 => ?_, H2.out.2.2.2.size⟩
 refine (Below.heap_setCell _ _ _ b h2).trans ((HG.out.block b (by simp; omega) h3).trans (Below.heap_alloc w _ b h1))
theorem take_no (bw : Nat) (w : World) (hb : Boxed w bw 105 (.slice none 0 0) ∨ ∃ a c, Boxed w bw 105 (.slice a 0 c)) :
 Calls Tryd.prog 57 #[.pointer (some ⟨bw, 0, none⟩)] w fun e w' => e = .returned (.tuple #[.int .i64 0, .bool false]) ∧ w = w' := by
 obtain ⟨a, c, hb⟩ : ∃ a c, Boxed w bw 105 (.slice a 0 c) := hb.elim (fun h => ⟨_, _, h⟩) id
 have hc := hb.cell
 clear hb
 go_enter Tryd.func57, Tryd.ntmps57
 go_wp2
 go_ret2
 exact ⟨rfl, rfl⟩
theorem slice_head_i (A : Option Addr) (n c m : Nat) (h : m ≤ c) (W : World) : (Instr.slice 25 (.slice A n c) none (some (.int .i64 (m : Int))) none).run Tryd.prog W = .ok (.slice A m c) W := by
 have hl : Tryd.prog.elem 25 = 3 := by kernel_rfl
 have hu : Tryd.prog.underlying 25 = some (.slice (Tryd.prog.elem 25)) := by rw [hl]; exact Tryd.underlying25
 rw [run_slice_h (P := Tryd.prog) W 25 A n c hu .i64 m (by omega) (by omega), hl, Tryd.sizeOf3]
 have e : A.map (fun x : Addr => x.add 0) = A := by cases A <;> simp [Addr.add]
 simp [sliced, e, Result.andThen]
theorem own_take {w : World} {B : Nat} {v : Value} {wait : List Nat} {k : Nat} (h : w.ownsRow B 3 1 v (wait.length + 1) ((wait ++ [k]).map ni)) :
 ∃ g c, v = .slice (some ⟨g, 0, none⟩) (wait.length + 1) c ∧ wait.length + 1 ≤ c ∧ w.cell? ⟨g, wait.length, none⟩ = some (.int .i64 k) ∧ w.ownsRow B 3 1 (.slice (some ⟨g, 0, none⟩) wait.length c) wait.length (wait.map ni) := by
 obtain ⟨h1, h2⟩ := h
 rcases h2 with ⟨_, h0⟩ | ⟨g, c, cur, rfl, hg, hh, hn, hm, hs, ht⟩
 ·omega
 ·rw [Nat.mul_one] at ht hs
  have e1 : cur.toList[wait.length]? = some (ni k) := by
   have := congrArg (·[wait.length]?) ht
   simp only [List.getElem?_take, List.map_append] at this
   rw [if_pos (by omega), List.getElem?_append_right (by simp)] at this
   simpa using this
  refine ⟨g, c, rfl, hn, ?_, by simp, .inr ⟨g, c, cur, rfl, hg, hh, by omega, hm, by omega, ?_⟩⟩
  ·refine (kCC hh wait.length).trans ?_
   rw [Array.getElem?_toList] at e1
   exact e1
  ·have := congrArg (List.take wait.length) ht
   rw [List.take_take, List.map_append, List.take_append_of_le_length (by simp), List.take_of_length_le (l := wait.map ni) (by simp), Nat.min_eq_left (by omega)] at this
   rw [Nat.mul_one]
   exact this
set_option maxHeartbeats 1000000 in
theorem take_yes (B bw : Nat) (w : World) (v : Value) (wait : List Nat) (k : Nat) (hb : Boxed w bw 105 v) (ho : w.ownsRow B 3 1 v (wait.length + 1) ((wait ++ [k]).map ni)) (hB : B ≤ bw) (hl : wait.length ≤ 100000) :
 Calls Tryd.prog 57 #[.pointer (some ⟨bw, 0, none⟩)] w fun e w' => e = .returned (.tuple #[.int .i64 k, .bool true]) ∧ ∃ v', w' = w.setCell ⟨bw, 0, none⟩ v' ∧ Boxed w' bw 105 v' ∧ w'.ownsRow B 3 1 v' wait.length (wait.map ni) ∧ v'.ownBlock = v.ownBlock := by
 obtain ⟨g, c, rfl, hc1, hk, ho2⟩ := own_take ho
 have hc := hb.cell
 have hf := hb.frozen
 have hn := hb.not_row (e := 3) (by decide) ho
 have HB := Azz.mk hb
 have HO := Azz.mk ho2
 have HN := Azz.mk hn
 have hsl := slice_head_i (some ⟨g, 0, none⟩) (wait.length + 1) c wait.length (by omega)
 have h0 : (((wait.length + 1 : Nat) : Int) == 0) = false := beq_eq_false_iff_ne.mpr (by omega)
 clear hb ho ho2
 go_enter Tryd.func57, Tryd.ntmps57
 go_wp2
 go_ret2
 exact ⟨rfl, _, rfl, HB.out.set _, HO.out.kept (grownBy_setCell' w bw _) (.inr hn.symm), rfl⟩
/-- The state of going through: what is seen, what waits. -/
structure St (B : Nat) (w : World) (bs bw sb : Nat) (seen : List Bool) (wait : List Nat) : Prop where
 sbox : Boxed w bs 23 (.slice (some ⟨sb, 0, none⟩) seen.length seen.length)
 sblk : w.heap[sb]? = some (.cells (seen.map Value.bool).toArray 4 (0, 0))
 wbox : ∃ v, Boxed w bw 105 v ∧ w.ownsRow B 3 1 v wait.length (wait.map ni)
 base : B ≤ bs ∧ B ≤ bw ∧ B ≤ sb
theorem grown_set (w : World) (b i : Nat) (v : Value) : w.grownBy (w.setCell ⟨b, i, none⟩ v) (some b) :=
 ⟨rfl, rfl, rfl, (KeepsWalks.setCell w _ v).size, fun k _ hk => Below.heap_setCell _ _ _ k (fun e => hk (by rw [e]))⟩
theorem heap_ne {w : World} {a b : Nat} {o p : Obj} (ha : w.heap[a]? = some o) (hb : w.heap[b]? = some p) (h : o ≠ p) : a ≠ b := by
 rintro rfl
 exact h (Option.some.inj (ha.symm.trans hb))
theorem own_not {w : World} {B b : Nat} {v : Value} {n : Nat} {xs : List Value} {cs : Array Value} {t : TypeId} (h : w.ownsRow B 3 1 v n xs) (hb : w.heap[b]? = some (.cells cs t (0, 0))) (ht : t ≠ 3) : some b ≠ v.ownBlock := by
 rcases h.2 with ⟨rfl, _⟩ | ⟨g, cap, cur, rfl, _, hgb, _⟩
 ·simp [Value.ownBlock]
 ·intro e
  obtain rfl : b = g := by simpa [Value.ownBlock] using e
  rw [hgb] at hb
  injection hb with hb
  injection hb with _ h2
  exact ht h2.symm
theorem St.put {B : Nat} {w w' : World} {bs bw sb : Nat} {seen : List Bool} {wait wait' : List Nat} (h : St B w bs bw sb seen wait) (hs : w'.heap[bs]? = w.heap[bs]?) (hb : w'.heap[sb]? = w.heap[sb]?) {v : Value} (h1 : Boxed w' bw 105 v) (h2 : w'.ownsRow B 3 1 v wait'.length (wait'.map ni)) : St B w' bs bw sb seen wait' :=
 ⟨hs.trans h.sbox, hb.trans h.sblk, ⟨v, h1, h2⟩, h.base⟩
/-- A place is marked in the row of what is seen. -/
theorem St.see {B : Nat} {w : World} {bs bw sb : Nat} {seen : List Bool} {wait : List Nat} (h : St B w bs bw sb seen wait) {k : Nat} (hk : k < seen.length) : St B (w.setCell ⟨sb, k, none⟩ (.bool true)) bs bw sb (seen.set k true) wait := by
 obtain ⟨v, hv, ho⟩ := h.wbox
 have n1 : bs ≠ sb := heap_ne h.sbox h.sblk (by simp)
 have n2 : bw ≠ sb := heap_ne hv h.sblk (by simp)
 have n3 : some sb ≠ v.ownBlock := own_not ho h.sblk (by decide)
 refine ⟨?_, ?_, ⟨v, (Below.heap_setCell _ _ _ bw n2).trans hv, ?_⟩, h.base⟩
 ·rw [List.length_set]
  exact (Below.heap_setCell _ _ _ bs n1).trans h.sbox
 ·obtain ⟨hlt, hk2⟩ := Array.getElem?_eq_some_iff.1 h.sblk
  show (w.heap.modify sb _)[sb]? = _
  rw [Array.getElem?_eq_getElem (by rw [Array.size_modify]; exact hlt), Array.getElem_modify_self, hk2]
  simp [List.map_set]
 ·exact ho.kept (row := some sb) (grown_set w sb k (.bool true)) (.inr n3.symm)
/-- Boxes of other types stay. -/
def Far (w w' : World) : Prop := ∀ (b : Nat) (cs : Array Value) (t : TypeId), w.heap[b]? = some (Obj.cells cs t (0, 0)) → t ≠ 4 → t ≠ 105 → t ≠ 3 → w'.heap[b]? = some (Obj.cells cs t (0, 0))
theorem St.cell {B : Nat} {w : World} {bs bw sb : Nat} {seen : List Bool} {wait : List Nat} (h : St B w bs bw sb seen wait) {k : Nat} (hk : k < seen.length) : w.cell? ⟨sb, k, none⟩ = some (.bool (seen.getD k false)) ∧ w.frozen? ⟨sb, k, none⟩ = false := by
 refine ⟨(kCC h.sblk k).trans ?_, by simp [World.frozen?, h.sblk]⟩
 simp [List.getD_eq_getElem?_getD, List.getElem?_eq_getElem hk]
set_option maxHeartbeats 1000000 in
theorem mark_old (B : Nat) (w : World) (bs bw sb : Nat) (seen : List Bool) (wait : List Nat) (k : Nat) (h : St B w bs bw sb seen wait) (hk : k < seen.length) (hl : seen.length ≤ 100000) (hs : sn seen k) :
 Calls Tryd.prog 55 #[.int .i64 k, .pointer (some ⟨bs, 0, none⟩), .pointer (some ⟨bw, 0, none⟩)] w fun e w' => (∃ r, e = .returned r) ∧ w = w' := by
 obtain ⟨hc, hf⟩ := h.cell hk
 rw [show seen.getD k false = true from hs] at hc
 have h1 := h.sbox.cell
 clear h hs
 go_enter Tryd.func55, Tryd.ntmps55
 go_wp2
 go_end0
 exact ⟨⟨_, rfl⟩, rfl⟩
set_option maxHeartbeats 1000000 in
theorem mark_new (B : Nat) (w : World) (bs bw sb : Nat) (seen : List Bool) (wait : List Nat) (k : Nat) (h : St B w bs bw sb seen wait) (hk : k < seen.length) (hl : seen.length ≤ 100000) (hl2 : wait.length ≤ 100000) (hB : B ≤ w.heap.size) (hs : ¬ sn seen k) :
 Calls Tryd.prog 55 #[.int .i64 k, .pointer (some ⟨bs, 0, none⟩), .pointer (some ⟨bw, 0, none⟩)] w fun e w' => (∃ r, e = .returned r) ∧ St B w' bs bw sb (seen.set k true) (wait ++ [k]) ∧ KeepsOthers w w' ∧ Below B w w' ∧ Far w w' := by
 obtain ⟨hc, hf⟩ := h.cell hk
 have hn : seen.getD k false = false := by
  cases e : seen.getD k false with
  | false => rfl
  | true => exact absurd e hs
 rw [hn] at hc
 have h1 := h.sbox.cell
 have H1 := Azz.mk (h.see hk)
 have HS0 := Azz.mk h.sblk
 have HB := Azz.mk h.base
 have Z : w.heap.size ≤ (w.setCell ⟨sb, k, none⟩ (.bool true)).heap.size := (KeepsWalks.setCell w _ _).size
 have HZ := Azz.mk Z
 have HW := Azz.mk (h.see hk).wbox
 clear h hs Z hn
 obtain ⟨v, hv, ho⟩ := HW.out
 have HP := Azz.mk (put_any B bw _ v wait k hv ho HB.out.2.1 (Nat.le_trans hB HZ.out) hl2)
 have HO := Azz.mk ho
 have HV := Azz.mk hv
 clear hv ho HW
 go_enter Tryd.func55, Tryd.ntmps55
 go_wp2_with fail
 (with_reducible refine HP.out.mono ?_)
 rintro e w1 ⟨⟨r, rfl⟩, v', b1, o1, ko, bl, far, sz⟩
 have H2 := Azz.mk (And.intro b1 (And.intro o1 (And.intro ko (And.intro bl far))))
 clear b1 o1 ko bl far
 go_wp2
 go_end0
 obtain ⟨b1, o1, ko, bl, far⟩ := H2.out
 refine ⟨⟨_, rfl⟩, H1.out.put (far bs H1.out.sbox.lt (heap_ne H1.out.sbox HV.out (by simp)) (own_not HO.out H1.out.sbox (by decide))) (far sb (Array.getElem?_eq_some_iff.1 H1.out.sblk).1 (heap_ne H1.out.sblk HV.out (by simp)) (own_not HO.out H1.out.sblk (by decide))) b1 (by rw [List.length_append]; exact o1), (KeepsOthers.setCell _ _ _).trans ko, (Below.setCell (p := ⟨sb, k, none⟩) (Below.refl _ _) HB.out.2.2 _).trans bl, fun b cs t hb n1 n2 n3 => ?_⟩
 have e1 : b ≠ sb := by
  rintro rfl
  rw [HS0.out] at hb
  injection hb with hb
  injection hb with _ h2
  exact n1 h2.symm
 have h1 := (Below.heap_setCell w ⟨sb, k, none⟩ (.bool true) b e1).trans hb
 exact (far b (Array.getElem?_eq_some_iff.1 h1).1 (heap_ne h1 HV.out (by intro h; injection h with _ h2; exact n2 h2)) (own_not HO.out h1 n3)).trans h1
end Go.Proofs.YtngmipfodjgmmaaDoor.P
