/- Walks and plain laws of this claim, a part. -/
import Derived.Test.YtngmipfodjgmmaaGreatDoorSw84
set_option linter.unusedVariables false
set_option linter.unusedSimpArgs false
section
namespace Go.Proofs.YtngmipfodjgmmaaGreatDoor.Pure
open Go Go.RowKit YtngmipfodjgmmaaGreatDoorW.PrintWords YtngmipfodjgmmaaGreatDoorW.PrintLast YtngmipfodjgmmaaGreatDoorW.PrintMore
theorem succ_small (i : Nat) (h : i ≤ 1000000) : wrap64 ((i : Int) + 1) = ((i + 1 : Nat) : Int) := by rw [wrap64_small _ (by omega) (by omega)]; rfl
theorem big_obj (o : Ob) : ∃ b, Ev (fun k => P.cleatref19_Big.f k o.f0 o.f1) b ∧ (b = false → FewO o) := by
 have fin : ∀ (i : Nat), EndsP (fun k => P.cleatref19_Big.j3 k (i : Int) false o.f0 o.f1) (fun b => b = false → o.f0.length ≤ 40 ∧ o.f1.length ≤ 140) := fun i =>
  EndsP.step (fun k => P.cleatref19_Big.j3.eq_2 _ _ _ _ _) (EndsP.ite (fun h => absurd h (by decide)) fun _ => EndsP.ite (fun c => EndsP.now _ fun h => absurd h (by decide)) fun c => EndsP.now _ fun h => by
   have := of_decide_eq_false h
   omega)
 have syms : ∀ (d i : Nat), i + d = min o.f1.length 141 → EndsP (fun k => P.cleatref19_Big.l1 k (i : Int) o.f0 o.f1) (fun b => b = false → o.f0.length ≤ 40 ∧ o.f1.length ≤ 140 ∧ ∀ q, i ≤ q → q < o.f1.length → (smN o q).f0.size ≤ 100) := by
  intro d
  induction d with
  | zero =>
   intro i hi
   refine EndsP.step (fun k => P.cleatref19_Big.l1.eq_2 _ _ _ _) (EndsP.ite (fun h => ?_) fun h => ?_)
   ·rw [decide_eq_false (show ¬ (o.f1.length : Int) ≤ 140 by omega)]
    obtain ⟨b, hb, h⟩ := fin i
    exact ⟨b, hb, fun e => by have := h e; exact ⟨this.1, this.2, fun q a k => by omega⟩⟩
   ·obtain ⟨b, hb, h⟩ := fin i
    exact ⟨b, hb, fun e => by have := h e; exact ⟨this.1, this.2, fun q a k => by omega⟩⟩
  | succ d ih =>
   intro i hi
   refine EndsP.step (fun k => P.cleatref19_Big.l1.eq_2 _ _ _ _) (EndsP.ite (fun _ => ?_) fun h => absurd (by omega) h)
   by_cases c : o.f1.length ≤ 140
   ·rw [decide_eq_true (show (o.f1.length : Int) ≤ 140 by omega)]
    refine EndsP.step (fun k => P.cleatref19_Big.j3.eq_2 _ _ _ _ _) (EndsP.ite (fun _ => EndsP.ite (fun _ => EndsP.ite (fun _ => EndsP.ite (fun c2 => EndsP.now _ fun h => absurd h (by decide)) fun c2 => ?_) fun h => absurd (by omega) h) fun h => absurd (by omega) h) fun h => absurd rfl h)
    rw [succ_small i (by omega)]
    obtain ⟨b, hb, h⟩ := ih (i + 1) (by omega)
    refine ⟨b, hb, fun e => ⟨(h e).1, (h e).2.1, fun q a k => ?_⟩⟩
    rcases Nat.eq_or_lt_of_le a with rfl | a
    ·unfold smN
     omega
    ·exact (h e).2.2 q a k
   ·rw [decide_eq_false (show ¬ (o.f1.length : Int) ≤ 140 by omega)]
    obtain ⟨b, hb, h⟩ := fin i
    exact ⟨b, hb, fun e => by have := h e; exact ⟨this.1, this.2, fun q a k => by omega⟩⟩
 have fin2 : ∀ (i : Nat), EndsP (fun k => P.cleatref19_Big.j1 k (i : Int) false o.f0 o.f1) (fun b => b = false → o.f0.length ≤ 40 ∧ o.f1.length ≤ 140 ∧ ∀ q, q < o.f1.length → (smN o q).f0.size ≤ 100) := fun i => by
  refine EndsP.step (fun k => P.cleatref19_Big.j1.eq_2 _ _ _ _ _) (EndsP.ite (fun h => absurd h (by decide)) fun _ => ?_)
  obtain ⟨b, hb, h⟩ := syms (min o.f1.length 141) 0 (by omega)
  exact ⟨b, hb, fun e => ⟨(h e).1, (h e).2.1, fun q k => (h e).2.2 q (Nat.zero_le _) k⟩⟩
 have secs : ∀ (d i : Nat), i + d = min o.f0.length 41 → EndsP (fun k => P.cleatref19_Big.l0 k (i : Int) o.f0 o.f1) (fun b => b = false → (o.f0.length ≤ 40 ∧ o.f1.length ≤ 140 ∧ ∀ q, q < o.f1.length → (smN o q).f0.size ≤ 100) ∧ ∀ q, i ≤ q → q < o.f0.length → (seN o q).f4.size ≤ 5000 ∧ (seN o q).f5.length ≤ 80 ∧ (seN o q).f0.size ≤ 100) := by
  intro d
  induction d with
  | zero =>
   intro i hi
   refine EndsP.step (fun k => P.cleatref19_Big.l0.eq_2 _ _ _ _) (EndsP.ite (fun h => ?_) fun h => ?_)
   ·rw [decide_eq_false (show ¬ (o.f0.length : Int) ≤ 40 by omega)]
    obtain ⟨b, hb, h⟩ := fin2 i
    exact ⟨b, hb, fun e => ⟨h e, fun q a k => by have := h e; omega⟩⟩
   ·obtain ⟨b, hb, h⟩ := fin2 i
    exact ⟨b, hb, fun e => ⟨h e, fun q a k => by have := h e; omega⟩⟩
  | succ d ih =>
   intro i hi
   refine EndsP.step (fun k => P.cleatref19_Big.l0.eq_2 _ _ _ _) (EndsP.ite (fun _ => ?_) fun h => absurd (by omega) h)
   by_cases c : o.f0.length ≤ 40
   ·rw [decide_eq_true (show (o.f0.length : Int) ≤ 40 by omega)]
    refine EndsP.step (fun k => P.cleatref19_Big.j1.eq_2 _ _ _ _ _) (EndsP.ite (fun _ => EndsP.ite (fun _ => EndsP.ite (fun _ => ?_) fun h => absurd (by omega) h) fun h => absurd (by omega) h) fun h => absurd rfl h)
    refine EndsP.bind (q := fun t => t = false → (seN o i).f4.size ≤ 5000 ∧ (seN o i).f5.length ≤ 80 ∧ (seN o i).f0.size ≤ 100) ?_ fun t _ ht => EndsP.ite (fun _ => EndsP.now _ fun h => absurd h (by decide)) fun c => ?_
    ·show EndsP (fun _ => P.cleatref16_Big.f (seN o i).f0 (seN o i).f1 (seN o i).f2 (seN o i).f3 (seN o i).f4 (seN o i).f5) _
     unfold P.cleatref16_Big.f
     refine EndsP.ite (fun _ => EndsP.now _ fun h => absurd h (by decide)) fun c1 => EndsP.ite (fun _ => EndsP.now _ fun h => absurd h (by decide)) fun c2 => EndsP.now _ fun h => ?_
     have := of_decide_eq_false h
     omega
    ·rw [succ_small i (by omega)]
     obtain ⟨b, hb, h⟩ := ih (i + 1) (by omega)
     refine ⟨b, hb, fun e => ⟨(h e).1, fun q a k => ?_⟩⟩
     rcases Nat.eq_or_lt_of_le a with rfl | a
     ·exact ht (by simpa using c)
     ·exact (h e).2 q a k
   ·rw [decide_eq_false (show ¬ (o.f0.length : Int) ≤ 40 by omega)]
    obtain ⟨b, hb, h⟩ := fin2 i
    exact ⟨b, hb, fun e => ⟨h e, fun q a k => by have := h e; omega⟩⟩
 obtain ⟨b, hb, h⟩ := secs (min o.f0.length 41) 0 (by omega)
 exact ⟨b, hb, fun e => ⟨(h e).1.1, (h e).1.2.1, fun i hi => (h e).2 i (Nat.zero_le _) hi, (h e).1.2.2⟩⟩
theorem big_objs (os : List Ob) : ∃ b, Ev (fun k => P.cleatref20_Big.f k os) b ∧ (b = false → FewL os) := by
 have fin : ∀ (i : Nat), EndsP (fun k => P.cleatref20_Big.j1 k os (i : Int) false) (fun b => b = false → os.length ≤ 12) := fun i =>
  EndsP.step (fun k => P.cleatref20_Big.j1.eq_2 _ _ _ _) (EndsP.ite (fun h => absurd h (by decide)) fun _ => EndsP.now _ fun h => by
   have := of_decide_eq_false h
   omega)
 have go : ∀ (d i : Nat), i + d = min os.length 13 → EndsP (fun k => P.cleatref20_Big.l0 k os (i : Int)) (fun b => b = false → os.length ≤ 12 ∧ ∀ q, i ≤ q → q < os.length → FewO (obN os q)) := by
  intro d
  induction d with
  | zero =>
   intro i hi
   refine EndsP.step (fun k => P.cleatref20_Big.l0.eq_2 _ _ _) (EndsP.ite (fun h => ?_) fun h => ?_)
   ·rw [decide_eq_false (show ¬ (os.length : Int) ≤ 12 by omega)]
    obtain ⟨b, hb, h⟩ := fin i
    exact ⟨b, hb, fun e => ⟨h e, fun q a k => by have := h e; omega⟩⟩
   ·obtain ⟨b, hb, h⟩ := fin i
    exact ⟨b, hb, fun e => ⟨h e, fun q a k => by have := h e; omega⟩⟩
  | succ d ih =>
   intro i hi
   refine EndsP.step (fun k => P.cleatref20_Big.l0.eq_2 _ _ _) (EndsP.ite (fun _ => ?_) fun h => absurd (by omega) h)
   by_cases c : os.length ≤ 12
   ·rw [decide_eq_true (show (os.length : Int) ≤ 12 by omega)]
    refine EndsP.step (fun k => P.cleatref20_Big.j1.eq_2 _ _ _ _) (EndsP.ite (fun _ => EndsP.ite (fun _ => EndsP.ite (fun _ => ?_) fun h => absurd (by omega) h) fun h => absurd (by omega) h) fun h => absurd rfl h)
    obtain ⟨b0, hb0, h0⟩ := big_obj (obN os i)
    refine EndsP.bind (q := fun t => t = false → FewO (obN os i)) ⟨b0, hb0, h0⟩ fun t _ ht => EndsP.ite (fun _ => EndsP.now _ fun h => absurd h (by decide)) fun c => ?_
    rw [succ_small i (by omega)]
    obtain ⟨b, hb, h⟩ := ih (i + 1) (by omega)
    refine ⟨b, hb, fun e => ⟨(h e).1, fun q a k => ?_⟩⟩
    rcases Nat.eq_or_lt_of_le a with rfl | a
    ·exact ht (by simpa using c)
    ·exact (h e).2 q a k
   ·rw [decide_eq_false (show ¬ (os.length : Int) ≤ 12 by omega)]
    obtain ⟨b, hb, h⟩ := fin i
    exact ⟨b, hb, fun e => ⟨h e, fun q a k => by have := h e; omega⟩⟩
 obtain ⟨b, hb, h⟩ := go (min os.length 13) 0 (by omega)
 exact ⟨b, hb, fun e => ⟨(h e).1, fun i hi => (h e).2 i (Nat.zero_le _) hi⟩⟩
theorem bigL_calls (os : List Ob) (W : World) (A : Option Addr) (c : Nat) (h : Kd.C P.k68 W A os.length os) (hc : os.length ≤ c) :
 ∃ b, Calls Tryz.prog 19 #[.slice A os.length c] W (fun x w' => x = .returned (.bool b) ∧ Below W.heap.size W w') ∧ (b = false → FewL os) := by
 obtain ⟨b, ⟨K, hK⟩, hb⟩ := big_objs os
 exact ⟨b, P.cleatref20_Big.calls K A c os b W h hc (hK K (Nat.le_refl _)), hb⟩
/-- Rows of places that are one are the same. -/
theorem same_refl_ev (rows : List (List Pl)) (hl : rows.length ≤ 100000) (hr : ∀ i, i < rows.length → (P.rd_L15 rows i).length ≤ 100000) : Ev (fun k => P.cleatref20_Same.f k rows rows) true := by
 unfold P.cleatref20_Same.f
 refine Ev.congr (fun k => if_pos rfl) ?_
 have go : ∀ (d i : Nat), i + d = rows.length → Ev (fun k => P.cleatref20_Same.l0 k rows rows (i : Int)) true := by
  intro d
  induction d with
  | zero => intro i hi; exact Ev.step (fun k => P.cleatref20_Same.l0.eq_2 _ _ _ _) (Ev.congr (fun k => if_neg (by omega)) (Ev.now _))
  | succ d ih =>
   intro i hi
   refine Ev.step (fun k => P.cleatref20_Same.l0.eq_2 _ _ _ _) (Ev.congr (fun k => if_pos (by omega)) (Ev.congr (fun k => if_pos (by omega)) (Ev.congr (fun k => if_pos (by omega)) (Ev.congr (fun k => if_pos rfl) ?_))))
   have inner : ∀ (e j : Nat), j + e = (P.rd_L15 rows i).length → Ev (fun k => P.cleatref20_Same.l1 k rows rows (i : Int) (j : Int)) true := by
    intro e
    induction e with
    | zero =>
     intro j hj
     refine Ev.step (fun k => P.cleatref20_Same.l1.eq_2 _ _ _ _ _) (Ev.congr (fun k => if_pos (by omega)) (Ev.congr (fun k => if_pos (by omega)) (Ev.congr (fun k => if_neg (by omega)) ?_)))
     rw [succ_small i (by omega)]
     exact ih (i + 1) (by omega)
    | succ e ih2 =>
     intro j hj
     refine Ev.step (fun k => P.cleatref20_Same.l1.eq_2 _ _ _ _ _) (Ev.congr (fun k => if_pos (by omega)) (Ev.congr (fun k => if_pos (by omega)) (Ev.congr (fun k => if_pos (by omega)) (Ev.congr (fun k => if_pos (by omega)) (Ev.congr (fun k => if_pos (by omega)) (Ev.congr (fun k => if_pos (by omega)) (Ev.congr (fun k => if_neg (by simp)) ?_)))))))
     rw [succ_small j (by have := hr i (by omega); omega)]
     exact ih2 (j + 1) (by omega)
   exact inner _ 0 (Nat.zero_add _)
 exact go rows.length 0 (Nat.zero_add _)
end Go.Proofs.YtngmipfodjgmmaaGreatDoor.Pure
end
section
namespace Go.Proofs.YtngmipfodjgmmaaGreatDoor.Pure
open Go Go.RowKit Go.Lib Go.Shelf Go.Maps YtngmipfodjgmmaaGreatDoorW.PrintWords YtngmipfodjgmmaaGreatDoorW.PrintLast YtngmipfodjgmmaaGreatDoorW.PrintMore
open P (Glob)
def rowsOf (os : List Ob) : List (List Pl) := (List.range os.length).map fun i => plRow os i (nsy os i)
theorem rowsOf_length (os : List Ob) : (rowsOf os).length = os.length := by simp [rowsOf]
theorem rowsOf_get {os : List Ob} {i : Nat} (hi : i < os.length) : P.rd_L15 (rowsOf os) i = plRow os i (nsy os i) := by
 unfold P.rd_L15 rowsOf
 rw [Int.toNat_natCast, List.getD_eq_getElem?_getD, List.getElem?_map, List.getElem?_range hi]
 rfl
abbrev kRows : Kd (List Pl) := Kd.slice 49 P.k49
theorem rows_read {B : Nat} {os : List Ob} {al : Nat} {vs : List Value} {W : World} (h : Rows2 B os al vs os.length 0 W) (hl : os.length ≤ 100000) : Kd.C kRows W (some ⟨al, 0, none⟩) os.length (rowsOf os) := by
 have e : os.length = (rowsOf os).length := (rowsOf_length os).symm
 rw [e]
 refine C_blk (t := 90) (inner := vs) h.blk ⟨by rw [h.len, e]; show _ = _ * 1; omega, fun j p hj => ?_⟩ (by rw [← e]; unfold maxLen; omega)
 have hj2 : j < os.length := by
  have := (List.getElem?_eq_some_iff.1 hj).1
  rwa [← e] at this
 have hp : plRow os j (nsy os j) = p := by
  unfold rowsOf at hj
  rw [List.getElem?_map, List.getElem?_range hj2] at hj
  exact Option.some.inj hj
 have hr := h.row j hj2
 have e2 : toldN os os.length 0 j = nsy os j := by unfold toldN; rw [if_pos hj2]
 rw [e2, hp] at hr
 obtain ⟨A, c, hv, hc, hC⟩ := Kd.R_reads hr
 have hjv : j < vs.length := by rw [h.len]; exact hj2
 show kRows.K W p (List.take 1 (List.drop (j * 1) vs))
 rw [Nat.mul_one, List.drop_eq_getElem_cons hjv]
 have e3 : vs[j] = .slice A p.length c := by
  rw [← hv, List.getD_eq_getElem?_getD, List.getElem?_eq_getElem hjv]
  rfl
 exact ⟨A, c, by rw [List.take_succ_cons, List.take_zero, e3], hc, hC⟩
def wkS : Se := ⟨⟨#[116]⟩, 1, false, 0, ⟨#[]⟩, []⟩
def wkO (n : ByteArray) (b : Int) : Ob := ⟨[wkS], [⟨n, b, 0, 0⟩]⟩
def farO : Ob := ⟨[], [⟨⟨#[98]⟩, 3, -1, 0⟩]⟩
def nmA : ByteArray := ⟨#[97]⟩
def nmB : ByteArray := ⟨#[98]⟩
theorem named_a : Named nmA := Ev.of (fun k => P.local_IsName.mono _ k) (k := 60) (by kernel_rfl)
theorem named_b : Named nmB := Ev.of (fun k => P.local_IsName.mono _ k) (k := 60) (by kernel_rfl)
theorem wkS_is : IsB (scOf wkS) true := Ev.of (fun k => P.part_Is.mono _ _ _ _ _ _ k) (k := 60) (by kernel_rfl)
theorem wk_ok {n : ByteArray} (hn : Named n) {b : Int} (hb : b = 1 ∨ b = 2 ∨ b = 3) : ObOk (wkO n b) := by
 refine ⟨by simp [wkO], by simp [wkO], fun i hi => ?_, fun i hi => ?_⟩
 ·obtain rfl : i = 0 := by simp [wkO] at hi; omega
  exact ⟨fun k h => absurd h (Nat.not_lt_zero _), wkS_is, fun j hj => absurd hj (Nat.not_lt_zero _)⟩
 ·obtain rfl : i = 0 := by simp [wkO] at hi; omega
  refine ⟨?_, .inr ⟨by show (0 : Int) ≠ -1; decide, Int.le_refl _, by show (0 : Int) < 1; decide, Int.le_refl _, Int.le_refl _⟩, .inr ⟨hn, fun k h => absurd h (Nat.not_lt_zero _)⟩⟩
  show 1 ≤ b ∧ b ≤ 3
  omega
theorem wk_few {n : ByteArray} (hn : n.size ≤ 100) (b : Int) : FewO (wkO n b) := by
 refine ⟨by simp [wkO], by simp [wkO], fun i hi => ?_, fun i hi => ?_⟩
 ·obtain rfl : i = 0 := by simp [wkO] at hi; omega
  exact (by decide : wkS.f4.size ≤ 5000 ∧ wkS.f5.length ≤ 80 ∧ wkS.f0.size ≤ 100)
 ·obtain rfl : i = 0 := by simp [wkO] at hi; omega
  exact hn
theorem far_ok : ObOk farO := by
 refine ⟨by simp [farO], by simp [farO], fun i hi => absurd hi (Nat.not_lt_zero _), fun i hi => ?_⟩
 obtain rfl : i = 0 := by simp [farO] at hi; omega
 exact ⟨⟨by decide, by decide⟩, .inl ⟨rfl, by decide, rfl⟩, .inr ⟨named_b, fun k h => absurd h (Nat.not_lt_zero _)⟩⟩
theorem far_few : FewO farO := by
 refine ⟨by simp [farO], by simp [farO], fun i hi => absurd hi (Nat.not_lt_zero _), fun i hi => ?_⟩
 obtain rfl : i = 0 := by simp [farO] at hi; omega
 exact (by decide : (1 : Nat) ≤ 100)
def osA : List Ob := [wkO nmA 3, wkO nmA 2]
def osB : List Ob := [wkO nmA 2, wkO nmA 2]
def osC : List Ob := [farO]
def osD : List Ob := [wkO nmB 1, wkO nmA 3]
theorem two_all {p : Nat → Prop} (h0 : p 0) (h1 : p 1) {n : Nat} (hn : n = 2) : ∀ i, i < n → p i := fun i hi => by
 have : i = 0 ∨ i = 1 := by omega
 rcases this with rfl | rfl
 ·exact h0
 ·exact h1
theorem osA_ok : AllOkO osA := ⟨by decide, two_all (wk_ok named_a (by omega)) (wk_ok named_a (by omega)) rfl⟩
theorem osB_ok : AllOkO osB := ⟨by decide, two_all (wk_ok named_a (by omega)) (wk_ok named_a (by omega)) rfl⟩
theorem osD_ok : AllOkO osD := ⟨by decide, two_all (wk_ok named_b (by omega)) (wk_ok named_a (by omega)) rfl⟩
theorem one_all {p : Nat → Prop} (h0 : p 0) {n : Nat} (hn : n = 1) : ∀ i, i < n → p i := fun i hi => by
 have : i = 0 := by omega
 subst this
 exact h0
theorem osC_ok : AllOkO osC := ⟨by decide, one_all far_ok rfl⟩
theorem osA_few : FewL osA := ⟨by decide, two_all (wk_few (by decide) _) (wk_few (by decide) _) rfl⟩
theorem osB_few : FewL osB := ⟨by decide, two_all (wk_few (by decide) _) (wk_few (by decide) _) rfl⟩
theorem osD_few : FewL osD := ⟨by decide, two_all (wk_few (by decide) _) (wk_few (by decide) _) rfl⟩
theorem osC_few : FewL osC := ⟨by decide, one_all far_few rfl⟩
theorem osA_noTw : NoTw osA osA.length 0 := by
 intro i j hl hj ht
 have hl2 : osA.length = 2 := rfl
 have hi : i = 0 ∨ i = 1 := by unfold LexLt at hl; omega
 rcases hi with rfl | rfl
 ·obtain rfl : j = 0 := by have : nsy osA 0 = 1 := rfl; omega
  exact absurd ht.1 (by decide)
 ·obtain rfl : j = 0 := by have : nsy osA 1 = 1 := rfl; omega
  obtain ⟨u, hu⟩ := ht.2
  have e : firstS strongQ (preS osA 1 0) (syN osA 1 0).f0 = none := by kernel_rfl
  rw [e] at hu
  cases hu
theorem osA_place : placeS osA nmA = some ⟨1, 0, 0⟩ := by kernel_rfl
theorem osA_noLost : NoLost osA osA.length 0 := by
 intro i j hl hj ht
 have hl2 : osA.length = 2 := rfl
 have hi : i = 0 ∨ i = 1 := by unfold LexLt at hl; omega
 have hp : ∀ q, q = nmA → placeT osA q ≠ none := fun q hq h => by
  subst hq
  have := osA_place
  unfold placeS at this
  rw [h] at this
  cases this
 rcases hi with rfl | rfl
 ·obtain rfl : j = 0 := by have : nsy osA 0 = 1 := rfl; omega
  exact hp _ rfl ht.2
 ·obtain rfl : j = 0 := by have : nsy osA 1 = 1 := rfl; omega
  exact hp _ rfl ht.2
theorem osA_rows : rowsOf osA = [[⟨1, 0, 0⟩], [⟨1, 0, 0⟩]] := by kernel_rfl
theorem osB_at : AtTw osB 1 0 := by
 refine ⟨by decide, by decide, ⟨by decide, _, (by kernel_rfl : firstS strongQ (preS osB 1 0) (syN osB 1 0).f0 = some (0, 0, syN osB 0 0))⟩, ?_⟩
 intro i j hl hj ht
 obtain rfl : i = 0 := by unfold LexLt at hl; omega
 obtain rfl : j = 0 := by have : nsy osB 0 = 1 := rfl; omega
 obtain ⟨u, hu⟩ := ht.2
 cases hu
theorem osC_noTw : NoTw osC osC.length 0 := by
 intro i j hl hj ht
 have hl2 : osC.length = 1 := rfl
 obtain rfl : i = 0 := by unfold LexLt at hl; omega
 obtain rfl : j = 0 := by have : nsy osC 0 = 1 := rfl; omega
 exact absurd ht.1 (by decide)
theorem osC_at : AtLost osC 0 0 := by
 refine ⟨by decide, by decide, ⟨by decide, by kernel_rfl⟩, ?_⟩
 intro i j hl hj ht
 unfold LexLt at hl
 omega
theorem osD_place : placeS osD nmA = some ⟨1, 0, 0⟩ := by kernel_rfl
theorem resA (w : World) (A : Option Addr) (c : Nat) (hG : Glob w) (ho : OA w A osA) (hc : 2 ≤ c) : Calls Tryz.prog 20 #[.slice A 2 c] w fun e w' => ∃ al, e = .returned (.tuple #[.slice (some ⟨al, 0, none⟩) 2 2, .agg #[.int .i64 0, .int .i64 0, .int .i64 0]]) ∧ Kd.C kRows w' (some ⟨al, 0, none⟩) 2 [[⟨1, 0, 0⟩], [⟨1, 0, 0⟩]] ∧ Below w.heap.size w w' := by
 refine (resolve_any w A c osA hG ho hc osA_few).mono ?_
 rintro e w' ⟨hb, ⟨c', o, k, hf, _⟩ | ⟨_, _, _, al, vs, rfl, hr, _⟩⟩
 ·rcases hf with h | ⟨_, i, j, h, _⟩ | ⟨_, _, i, j, h, _⟩
  ·exact absurd osA_ok h.1
  ·exact absurd h.2.2.1 (osA_noTw i j (.inl h.1) h.2.1)
  ·exact absurd h.2.2.1 (osA_noLost i j (.inl h.1) h.2.1)
 ·have := rows_read hr (by decide)
  rw [osA_rows] at this
  exact ⟨al, rfl, this, hb⟩
theorem resB (w : World) (A : Option Addr) (c : Nat) (hG : Glob w) (ho : OA w A osB) (hc : 2 ≤ c) : Calls Tryz.prog 20 #[.slice A 2 c] w fun e w' => e = .returned (.tuple #[.slice none 0 0, .agg #[.int .i64 7, .int .i64 1, .int .i64 0]]) ∧ Below w.heap.size w w' := by
 refine (resolve_any w A c osB hG ho hc osB_few).mono ?_
 rintro e w' ⟨hb, ⟨c', o, k, hf, rfl⟩ | ⟨_, h, _⟩⟩
 ·rcases hf with h | ⟨_, i, j, h, rfl, rfl, rfl⟩ | ⟨_, h, _⟩
  ·exact absurd osB_ok h.1
  ·obtain ⟨rfl, rfl⟩ := h.one osB_at
   exact ⟨rfl, hb⟩
  ·exact absurd osB_at.2.2.1 (h 1 0 (.inl (by decide)) (by decide))
 ·exact absurd osB_at.2.2.1 (h 1 0 (.inl (by decide)) (by decide))
theorem resC (w : World) (A : Option Addr) (c : Nat) (hG : Glob w) (ho : OA w A osC) (hc : 1 ≤ c) : Calls Tryz.prog 20 #[.slice A 1 c] w fun e w' => e = .returned (.tuple #[.slice none 0 0, .agg #[.int .i64 6, .int .i64 0, .int .i64 0]]) ∧ Below w.heap.size w w' := by
 refine (resolve_any w A c osC hG ho hc osC_few).mono ?_
 rintro e w' ⟨hb, ⟨c', o, k, hf, rfl⟩ | ⟨_, _, h, _⟩⟩
 ·rcases hf with h | ⟨_, i, j, h, _⟩ | ⟨_, _, i, j, h, rfl, rfl, rfl⟩
  ·exact absurd osC_ok h.1
  ·exact absurd h.2.2.1 (osC_noTw i j (.inl h.1) h.2.1)
  ·obtain ⟨rfl, rfl⟩ := h.one osC_at
   exact ⟨rfl, hb⟩
 ·exact absurd osC_at.2.2.1 (h 0 0 (.inl (by decide)) (by decide))
theorem findD (w : World) (A : Option Addr) (c : Nat) (hG : Glob w) (ho : OA w A osD) (hc : 2 ≤ c) : Calls Tryz.prog 22 #[.slice A 2 c, .string ⟨#[97]⟩] w fun e w' => e = .returned (.tuple #[.agg #[.int .i64 1, .int .i64 0, .int .i64 0], .bool true]) ∧ Below w.heap.size w w' := by
 refine (find_any w A c osD nmA hG ho hc osD_few (by decide)).mono ?_
 rintro e w' ⟨r, hr, rfl, hb⟩
 rcases hr with ⟨_, _, rfl⟩ | ⟨h, _⟩
 ·rw [osD_place]
  exact ⟨rfl, hb⟩
 ·exact absurd ⟨osD_ok, by decide⟩ h
theorem weak_calls (n : ByteArray) (b : Int) (w : World) : Calls Tryz.prog 53 #[.string n, .int .i64 b] w fun e w' => ∃ A0 c0 A1 c1, e = .returned (.agg #[.slice A0 1 c0, .slice A1 1 c1]) ∧ (SeA w' A0 [wkS] ∧ 1 ≤ c0 ∧ SyA w' A1 [⟨n, b, 0, 0⟩] ∧ 1 ≤ c1) ∧ Below w.heap.size w w' := by
 refine (P.cleatlaw20_weak.calls n b [wkS] [⟨n, b, 0, 0⟩] w rfl).mono ?_
 rintro e w' ⟨v0, v1, rfl, h0, h1, hb⟩
 obtain ⟨A0, c0, rfl, l0, C0⟩ := Kd.R_reads (Kd.S_R h0)
 obtain ⟨A1, c1, rfl, l1, C1⟩ := Kd.R_reads h1
 exact ⟨A0, c0, A1, c1, rfl, ⟨C0, l0, C1, l1⟩, hb⟩
def ObV (w : World) (o : Ob) (A0 A1 : Option Addr) (c0 c1 : Nat) : Prop := SeA w A0 o.f0 ∧ o.f0.length ≤ c0 ∧ SyA w A1 o.f1 ∧ o.f1.length ≤ c1
theorem ObV.below {w w1 : World} {o A0 A1 c0 c1} (h : ObV w o A0 A1 c0 c1) (hb : Below w.heap.size w w1) : ObV w1 o A0 A1 c0 c1 := ⟨Kd.C_below h.1 hb, h.2.1, Kd.C_below h.2.2.1 hb, h.2.2.2⟩
theorem ObV.K {w : World} {o A0 A1 c0 c1} (h : ObV w o A0 A1 c0 c1) : P.k68.K w o [.slice A0 o.f0.length c0, .slice A1 o.f1.length c1] := P.k68_mk w o h.2.1 h.1 h.2.2.2 h.2.2.1
theorem obs2 {W : World} {g t : Nat} {a b : Ob} {A0 A1 B0 B1 : Option Addr} {c0 c1 d0 d1 : Nat} (h : W.heap[g]? = some (.cells #[.slice A0 a.f0.length c0, .slice A1 a.f1.length c1, .slice B0 b.f0.length d0, .slice B1 b.f1.length d1] t (0, 0))) (ha : ObV W a A0 A1 c0 c1) (hb : ObV W b B0 B1 d0 d1) : OA W (some ⟨g, 0, none⟩) [a, b] :=
 have hr : Reps (P.k68.K W) 2 [a, b] ((([] : List Value) ++ [.slice A0 a.f0.length c0, .slice A1 a.f1.length c1]) ++ [.slice B0 b.f0.length d0, .slice B1 b.f1.length d1]) := ((Reps.none (P.k68.K W) 2).snoc ha.K rfl).snoc hb.K rfl
 C_blk (d := P.k68) (xs := [a, b]) h hr (by simp [maxLen])
theorem obs1 {W : World} {g t : Nat} {a : Ob} {A0 A1 : Option Addr} {c0 c1 : Nat} (h : W.heap[g]? = some (.cells #[.slice A0 a.f0.length c0, .slice A1 a.f1.length c1] t (0, 0))) (ha : ObV W a A0 A1 c0 c1) : OA W (some ⟨g, 0, none⟩) [a] :=
 have hr : Reps (P.k68.K W) 2 [a] (([] : List Value) ++ [.slice A0 a.f0.length c0, .slice A1 a.f1.length c1]) := (Reps.none (P.k68.K W) 2).snoc ha.K rfl
 C_blk (d := P.k68) (xs := [a]) h hr (by simp [maxLen])
theorem pl1 {W : World} {g : Nat} {p : Pl} (h : W.heap[g]? = some (.cells #[.int .i64 p.f0, .int .i64 p.f1, .int .i64 p.f2] 49 (0, 0))) : Kd.C P.k49 W (some ⟨g, 0, none⟩) 1 [p] :=
 have hr : Reps (P.k49.K W) 3 [p] (([] : List Value) ++ [.int .i64 p.f0, .int .i64 p.f1, .int .i64 p.f2]) := (Reps.none (P.k49.K W) 3).snoc (P.k49_mk W p) rfl
 C_blk (d := P.k49) (xs := [p]) h hr (by simp [maxLen])
theorem rows11 {W : World} {g : Nat} {p q : Pl} {A B : Option Addr} {c d : Nat} (h : W.heap[g]? = some (.cells #[.slice A 1 c, .slice B 1 d] 90 (0, 0))) (ha : Kd.C P.k49 W A 1 [p]) (hc : 1 ≤ c) (hb : Kd.C P.k49 W B 1 [q]) (hd : 1 ≤ d) : Kd.C kRows W (some ⟨g, 0, none⟩) 2 [[p], [q]] :=
 have h1 : kRows.K W [p] [.slice A 1 c] := ⟨A, c, rfl, hc, ha⟩
 have h2 : kRows.K W [q] [.slice B 1 d] := ⟨B, d, rfl, hd, hb⟩
 have hr : Reps (kRows.K W) 1 [[p], [q]] ((([] : List Value) ++ [.slice A 1 c]) ++ [.slice B 1 d]) := ((Reps.none (kRows.K W) 1).snoc h1 rfl).snoc h2 rfl
 C_blk (d := kRows) (xs := [[p], [q]]) h hr (by simp [maxLen])
end Go.Proofs.YtngmipfodjgmmaaGreatDoor.Pure
end
