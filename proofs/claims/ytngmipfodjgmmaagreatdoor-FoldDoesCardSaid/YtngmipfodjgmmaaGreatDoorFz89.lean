/- Walks and plain laws of this claim, a part. -/
import Derived.Test.YtngmipfodjgmmaaGreatDoorFz88
set_option maxRecDepth 100000
set_option maxHeartbeats 8000000
set_option linter.unusedVariables false
set_option linter.unusedSimpArgs false
namespace Go.Proofs.YtngmipfodjgmmaaGreatDoor.P
open Go.RowKit Wa Wb Wc
attribute [local go_sem] max2_int min2_int max_two min_two max_three min_three max_four min_four
def cleatref21_Own.l0 : Nat → List (S39) → List (S39) → Int → Option ((List (S39)))
 | 0, _, _, _ => none
 | k + 1, x0, x3, x4 => if x4 < (x0.length : Int) then (if 0 ≤ x4 then (if ([] : List (S80)).length + ((rd_T39 x0 x4).f5).length < 4398046511104 then (if x3.length < 1759218604441 then (cleatref21_Own.l0 k x0 (x3 ++ [(⟨(rd_T39 x0 x4).f0, (rd_T39 x0 x4).f1, (rd_T39 x0 x4).f2, (rd_T39 x0 x4).f3, (rd_T39 x0 x4).f4, (([] : List (S80)) ++ ((rd_T39 x0 x4).f5))⟩ : S39)]) (wrap64 (x4 + 1))) else (none)) else (none)) else (none)) else (some x3)
def cleatref21_Own.f (k : Nat) (l0 : List (S39)) : Option ((List (S39))) := cleatref21_Own.l0 k l0 ([] : List (S39)) 0
def cleatref21_Own.T7 : Bool × List (List Nat × List Nat) := (true, [([], []), ([0], [0]), ([], []), ([], []), ([2, 3], [2, 3]), ([4], [4]), ([5], [5]), ([1, 6], [1, 6]), ([0, 1, 2, 3, 4, 5, 6, 7], []), ([8, 7, 7, 0, 1, 2, 3, 4, 5, 6, 7], [7, 8])])
def cleatref21_Own.B7 : List Nat := [0, 1, 0, 0, 12, 28, 60, 127, 255, 511]
theorem cleatref21_Own.tab7 : rtab .any (opsOf Tryz.f8 7) = cleatref21_Own.T7 := by kernel_rfl
theorem cleatref21_Own.bits7 : waitsOk cleatref21_Own.T7.2 cleatref21_Own.B7 = true := by kernel_rfl
theorem cleatref21_Own.calls (k : Nat) (A0 : Option Addr) (c0 : Nat) (l0 : List (S39)) (r : List (S39)) (w : World) (hr0 : Kd.C k39 w A0 l0.length l0) (hc0 : l0.length ≤ c0) (h : cleatref21_Own.f k l0 = some r) :
 Calls Tryz.prog 8 #[.slice A0 l0.length c0] w fun e w' => ∃ v0_ : Value, e = .returned (v0_) ∧ Kd.S k39 39 w' w.heap.size (fun _ => True) v0_ r ∧ Below w.heap.size w w' := by
 have hu39 := Tryz.underlying39
 have HR0 := Azz.mk hr0
 have HC0 := Azz.mk hc0
 clear hr0 hc0
 have HB := Azz.mk (Below.refl w.heap.size w)
 have H : (cleatref21_Own.l0 k l0 ([] : List (S39)) 0) = some r := h
 clear h
 have H' := Azz.mk H
 clear H
 go_enter Tryz.func8, Tryz.ntmps8
 go_wp2
 go_loopg [3, 4] k (fun kq v3 v4 w' => ∃ (x3_1 : List (S39)) (x4_1 : Int), v4 = .int .i64 x4_1 ∧ Azz (cleatref21_Own.l0 kq l0 x3_1 x4_1 = some r) ∧ Azz (kq ≤ k) ∧ Azz (Kd.S k39 39 w' w.heap.size (fun _ => True) v3 x3_1) ∧ Azz (Below w.heap.size w w'))
 case atStart => exact ⟨(([] : List (S39))), (0), eqS, H', ⟨Nat.le_refl _⟩, ⟨by first | exact Kd.S_nil _ _ _ _ _ | exact Kd.N_nil _ _ _ _ _ | exact Kd.V_nil _ _ _ _ _ | exact Kd.Q_nil _ _ _ _ _ | exact Kd.R_nil _ _ _ _ _⟩, ⟨by repeat (first | (with_reducible first | exact HB.out | apply bAA | apply bNN | apply bDD) | exact HB.out)⟩⟩
 case round =>
  clear H'
  obtain ⟨x3_1, x4_1, rfl, HA, HK1, HO_3, HB⟩ := hrel
  cases gk with
  | zero => exact absurd HA.out (by simp [cleatref21_Own.l0])
  | succ k1 =>
   have H := HA.out
   clear HA
   simp only [cleatref21_Own.l0] at H
   by_cases c2 : x4_1 < (l0.length : Int)
   rotate_left
   ·rw [if_neg c2] at H
    have c2b0 := dF_ c2
    clear c2
    obtain rfl := sI H
    go_wp2
    go_ret
    exact ⟨_, by first | rfl | (simp [eNN, eSS] <;> rfl) | (simp [*, eNN, eSS] <;> rfl), by (with_reducible repeat (first | apply Kd.S_alloc | apply Kd.S_drewN | apply Kd.S_drew)); exact HO_3.out, by repeat (first | (with_reducible first | exact HB.out | apply bAA | apply bNN | apply bDD) | exact HB.out)⟩
   rw [if_pos c2] at H
   have c2b0 := dT_ c2
   clear c2
   by_cases c3 : 0 ≤ x4_1
   rotate_left
   ·rw [if_neg c3] at H
    exact absurd H (by simp)
   rw [if_pos c3] at H
   have c3b0 := dT_ c3
   clear c3
   by_cases c4 : ([] : List (S80)).length + ((rd_T39 l0 x4_1).f5).length < 4398046511104
   rotate_left
   ·rw [if_neg c4] at H
    exact absurd H (by simp)
   rw [if_pos c4] at H
   have LMc4 := Azz.mk c4
   clear c4
   obtain ⟨y443, hy443⟩ : ∃ y_ : List (S80), y_ = (([] : List (S80)) ++ ((rd_T39 l0 x4_1).f5)) := ⟨_, rfl⟩
   replace H : (if x3_1.length < 1759218604441 then (cleatref21_Own.l0 k1 l0 (x3_1 ++ [(⟨(rd_T39 l0 x4_1).f0, (rd_T39 l0 x4_1).f1, (rd_T39 l0 x4_1).f2, (rd_T39 l0 x4_1).f3, (rd_T39 l0 x4_1).f4, y443⟩ : S39)]) (wrap64 (x4_1 + 1))) else (none)) = some r := by first | (rw [hy443]; with_reducible exact H) | (have H2_ := (Option.bind_some _ _).symm.trans H; rw [hy443]; with_reducible exact H2_) | (have H2_ := (Option.bind_some _ _).symm.trans H; with_reducible exact H2_) | with_reducible exact H | (rw [hy443]; exact H) | exact H
   have Ny443 := Azz.mk hy443
   clear hy443
   by_cases c5 : x3_1.length < 1759218604441
   rotate_left
   ·rw [if_neg c5] at H
    exact absurd H (by simp)
   rw [if_pos c5] at H
   have LMc5 := Azz.mk c5
   clear c5
   obtain ⟨y446, hy446⟩ : ∃ y_ : List (S39), y_ = (x3_1 ++ [(⟨(rd_T39 l0 x4_1).f0, (rd_T39 l0 x4_1).f1, (rd_T39 l0 x4_1).f2, (rd_T39 l0 x4_1).f3, (rd_T39 l0 x4_1).f4, y443⟩ : S39)]) := ⟨_, rfl⟩
   replace H : (cleatref21_Own.l0 k1 l0 y446 (wrap64 (x4_1 + 1))) = some r := by first | (rw [hy446]; with_reducible exact H) | (have H2_ := (Option.bind_some _ _).symm.trans H; rw [hy446]; with_reducible exact H2_) | (have H2_ := (Option.bind_some _ _).symm.trans H; with_reducible exact H2_) | with_reducible exact H | (rw [hy446]; exact H) | exact H
   have Ny446 := Azz.mk hy446
   clear hy446
   have H' := Azz.mk H
   clear H
   have p440 : 0 ≤ (x4_1 : Int) := of_decide_eq_true (by first | (with_reducible assumption) | assumption)
   have q440 : x4_1 < (l0.length : Int) := of_decide_eq_true (by first | (with_reducible assumption) | assumption)
   obtain ⟨ad440, A440_5, c440_5, e440, hx440_0, hx440_1, hx440_2, hx440_3, hx440_4, hx440_5, hl440_5, hi440_5⟩ := at_T39 HR0.out x4_1 p440 q440
   cases e440
   replace hx440_0 := (HB.out.cell (World.block_lt_of_cell? w _ hx440_0)).trans hx440_0
   replace hx440_1 := (HB.out.cell (World.block_lt_of_cell? w _ hx440_1)).trans hx440_1
   replace hx440_2 := (HB.out.cell (World.block_lt_of_cell? w _ hx440_2)).trans hx440_2
   replace hx440_3 := (HB.out.cell (World.block_lt_of_cell? w _ hx440_3)).trans hx440_3
   replace hx440_4 := (HB.out.cell (World.block_lt_of_cell? w _ hx440_4)).trans hx440_4
   replace hx440_5 := (HB.out.cell (World.block_lt_of_cell? w _ hx440_5)).trans hx440_5
   have HR440_5 := Azz.mk hi440_5
   have HC440_5 := Azz.mk hl440_5
   clear hi440_5 hl440_5
   replace p440 := eq_true p440
   replace q440 := eq_true q440
   try go_wp2_with (first | ((with_reducible refine gate_dst (N := 5) rfl ?_); refine box_event ?hg (N := 5) ?hd (cs := #[.string (⟨#[]⟩ : ByteArray), .int .i64 0, .bool false, .int .i64 0, .string (⟨#[]⟩ : ByteArray), .slice none 0 0]) (t := 39) ?hr ?_; (case hd => rfl); (case hg => rfl); (case hr => first | (go_simp; done) | (go_simp; rfl)); intro gb441 hg w6 hbox hb; have n0_ := Azz.mk (Kd.S_below (Kd.S_elderB (by (with_reducible repeat (first | apply Kd.S_alloc | apply Kd.S_drewN | apply Kd.S_drew)); exact HO_3.out) gb441 (Nat.le_of_eq hg.symm)) hb); have n1_ := Azz.mk (bTT (by with_reducible repeat first | exact HB.out | apply bAA | apply bNN | apply bDD) hb); have n2_ := Azz.mk (hbox); have n3_ := Azz.mk ((by rw [hg]; exact (bZZ (by with_reducible repeat first | exact HB.out | apply bAA | apply bNN | apply bDD)) : w.heap.size ≤ gb441)); have n4_ := Azz.mk ((by rw [hg]; exact (bZZ (by with_reducible repeat first | exact HB.out | apply bAA | apply bNN | apply bDD)) : w.heap.size ≤ gb441)); clear HO_3; clear HB; have HO_3 := n0_; have HB := n1_; have BK441 := n2_; have GW441 := n3_; have GE441 := n4_; clear n0_ n1_ n2_ n3_ n4_; clear hb hbox hg; obtain ⟨hcz7_0, hcz7_1, hcz7_2, hcz7_3, hcz7_4, hcz7_5, hfz7_0, hfz7_1, hfz7_2, hfz7_3, hfz7_4, hfz7_5⟩ := cel6 BK441.out) | ((with_reducible refine gate_store (t := 39) (p := 5) rfl ?_); refine store_event (t := 39) (p := 5) (v := ?vo_w8) (w1 := ((((((w6.setCell ⟨gb441, 0, none⟩ (.string ((rd_T39 l0 x4_1).f0))).setCell ⟨gb441, 1, none⟩ (.int .i64 ((rd_T39 l0 x4_1).f1))).setCell ⟨gb441, 2, none⟩ (.bool ((rd_T39 l0 x4_1).f2))).setCell ⟨gb441, 3, none⟩ (.int .i64 ((rd_T39 l0 x4_1).f3))).setCell ⟨gb441, 4, none⟩ (.string ((rd_T39 l0 x4_1).f4))).setCell ⟨gb441, 5, none⟩ (.slice A440_5 ((rd_T39 l0 x4_1).f5).length c440_5))) ?hg ?ho ?hn ?hr ?_; (case ho => rfl); (case hg => rfl); (case hn => rfl); (case hr => first | (go_simp; done) | (go_simp; rfl)); intro w8 hw; have n0_ : Azz (Kd.S k39 39 w8 w.heap.size (fun k_ => k_ ≠ gb441) u3 x3_1) := ⟨(by rw [hw]; exact (by (with_reducible repeat (first | apply Kd.S_alloc | apply Kd.S_drewN | apply Kd.S_drew)); exact Kd.S_mono (Kd.S_far (p := ⟨gb441, 5, none⟩) (Kd.S_far (p := ⟨gb441, 4, none⟩) (Kd.S_far (p := ⟨gb441, 3, none⟩) (Kd.S_far (p := ⟨gb441, 2, none⟩) (Kd.S_far (p := ⟨gb441, 1, none⟩) (Kd.S_far (p := ⟨gb441, 0, none⟩) (Kd.S_mono HO_3.out (fun k_ hk => (⟨hk, hk.2⟩ : _ ∧ k_ ≠ gb441))) (fun _ hk => hk.2) (.string ((rd_T39 l0 x4_1).f0))) (fun _ hk => hk.2) (.int .i64 ((rd_T39 l0 x4_1).f1))) (fun _ hk => hk.2) (.bool ((rd_T39 l0 x4_1).f2))) (fun _ hk => hk.2) (.int .i64 ((rd_T39 l0 x4_1).f3))) (fun _ hk => hk.2) (.string ((rd_T39 l0 x4_1).f4))) (fun _ hk => hk.2) (.slice A440_5 ((rd_T39 l0 x4_1).f5).length c440_5)) (fun _ hk => hk.1.2)))⟩; have n1_ : Azz (w8.heap[gb441]? = some (.cells #[.string ((rd_T39 l0 x4_1).f0), .int .i64 ((rd_T39 l0 x4_1).f1), .bool ((rd_T39 l0 x4_1).f2), .int .i64 ((rd_T39 l0 x4_1).f3), .string ((rd_T39 l0 x4_1).f4), .slice A440_5 ((rd_T39 l0 x4_1).f5).length c440_5] 39 (0, 0))) := ⟨(by rw [hw]; exact (by apply put6; (with_reducible repeat first | apply kNN | apply kDD | apply kAA); exact BK441.out))⟩; have n2_ : Azz (Below w.heap.size w w8) := ⟨(by rw [hw]; exact (by with_reducible repeat first | exact HB.out | apply bAA | apply bNN | apply bDD | refine bSS ?_ GE441.out))⟩; clear hw; clear HO_3; clear BK441; clear HB; have HO_3 := n0_; have BK441 := n1_; have HB := n2_; clear n0_ n1_ n2_; obtain ⟨hcz9_0, hcz9_1, hcz9_2, hcz9_3, hcz9_4, hcz9_5, hfz9_0, hfz9_1, hfz9_2, hfz9_3, hfz9_4, hfz9_5⟩ := cel6 BK441.out))
   have n0_ : Azz (Kd.S k39 39 (w8.setCell ⟨gb441, 5, none⟩ (.slice none 0 0)) w.heap.size (fun k_ => k_ ≠ gb441) u3 x3_1) := ⟨by (with_reducible repeat (first | apply Kd.S_alloc | apply Kd.S_drewN | apply Kd.S_drew)); exact Kd.S_mono (Kd.S_far (p := ⟨gb441, 5, none⟩) (Kd.S_mono HO_3.out (fun k_ hk => (⟨hk, hk⟩ : _ ∧ k_ ≠ gb441))) (fun _ hk => hk.2) (.slice none 0 0)) (fun _ hk => hk.1)⟩
   have n1_ : Azz ((w8.setCell ⟨gb441, 5, none⟩ (.slice none 0 0)).heap[gb441]? = some (.cells #[.string ((rd_T39 l0 x4_1).f0), .int .i64 ((rd_T39 l0 x4_1).f1), .bool ((rd_T39 l0 x4_1).f2), .int .i64 ((rd_T39 l0 x4_1).f3), .string ((rd_T39 l0 x4_1).f4), .slice none 0 0] 39 (0, 0))) := ⟨by (with_reducible repeat first | apply kNN | apply kDD | apply kAA); refine blk_put (cs := #[.string ((rd_T39 l0 x4_1).f0), .int .i64 ((rd_T39 l0 x4_1).f1), .bool ((rd_T39 l0 x4_1).f2), .int .i64 ((rd_T39 l0 x4_1).f3), .string ((rd_T39 l0 x4_1).f4), .slice A440_5 ((rd_T39 l0 x4_1).f5).length c440_5]) ?_ 5 _ rfl; (with_reducible repeat first | apply kNN | apply kDD | apply kAA); exact BK441.out⟩
   have n2_ : Azz (Below w.heap.size w (w8.setCell ⟨gb441, 5, none⟩ (.slice none 0 0))) := ⟨by repeat (first | (with_reducible first | exact HB.out | apply bAA | apply bNN | apply bDD | refine bSS ?_ GE441.out) | exact HB.out)⟩
   (try clear HO_3)
   (try clear BK441)
   (try clear HB)
   generalize (w8.setCell ⟨gb441, 5, none⟩ (.slice none 0 0)) = w10 at n0_ n1_ n2_ ⊢
   have HO_3 := n0_
   have BK441 := n1_
   have HB := n2_
   clear n0_ n1_ n2_
   have n0_ := Azz.mk (Kd.S_drew HO_3.out)
   have n1_ := Azz.mk (kDD BK441.out)
   have n2_ := Azz.mk (bDD HB.out)
   clear HO_3
   clear BK441
   clear HB
   have HO_3 := n0_
   have BK441 := n1_
   have HB := n2_
   clear n0_ n1_ n2_
   have p442 : 0 ≤ (x4_1 : Int) := of_decide_eq_true (by first | (with_reducible assumption) | assumption)
   have q442 : x4_1 < (l0.length : Int) := of_decide_eq_true (by first | (with_reducible assumption) | assumption)
   obtain ⟨ad442, A442_5, c442_5, e442, hx442_0, hx442_1, hx442_2, hx442_3, hx442_4, hx442_5, hl442_5, hi442_5⟩ := at_T39 HR0.out x4_1 p442 q442
   have hw442_5 := hx442_5
   have hw442_4 := hx442_4
   have hw442_3 := hx442_3
   have hw442_2 := hx442_2
   have hw442_1 := hx442_1
   have hw442_0 := hx442_0
   obtain rfl : ad440 = ad442 := (by injection e442)
   replace hx442_0 := (HB.out.cell (World.block_lt_of_cell? w _ hx442_0)).trans hx442_0
   replace hx442_1 := (HB.out.cell (World.block_lt_of_cell? w _ hx442_1)).trans hx442_1
   replace hx442_2 := (HB.out.cell (World.block_lt_of_cell? w _ hx442_2)).trans hx442_2
   replace hx442_3 := (HB.out.cell (World.block_lt_of_cell? w _ hx442_3)).trans hx442_3
   replace hx442_4 := (HB.out.cell (World.block_lt_of_cell? w _ hx442_4)).trans hx442_4
   replace hx442_5 := (HB.out.cell (World.block_lt_of_cell? w _ hx442_5)).trans hx442_5
   have HR442_5 := Azz.mk hi442_5
   have HC442_5 := Azz.mk hl442_5
   clear hi442_5 hl442_5
   replace p442 := eq_true p442
   replace q442 := eq_true q442
   refine start_ (n := 10) (S := fun w' => w'.cell? ⟨gb441, 0, none⟩ = some (.string ((rd_T39 l0 x4_1).f0)) ∧ w'.cell? ⟨gb441, 1, none⟩ = some (.int .i64 ((rd_T39 l0 x4_1).f1)) ∧ w'.cell? ⟨gb441, 2, none⟩ = some (.bool ((rd_T39 l0 x4_1).f2)) ∧ w'.cell? ⟨gb441, 3, none⟩ = some (.int .i64 ((rd_T39 l0 x4_1).f3)) ∧ w'.cell? ⟨gb441, 4, none⟩ = some (.string ((rd_T39 l0 x4_1).f4)) ∧ w'.cell? ⟨gb441, 5, none⟩ = some (.slice none 0 0) ∧ w'.cell? (ad440.add ((x4_1).toNat * 6)) = some (.string ((rd_T39 l0 x4_1).f0)) ∧ w'.cell? ⟨(ad440.add ((x4_1).toNat * 6)).block, (ad440.add ((x4_1).toNat * 6)).off + 1, none⟩ = some (.int .i64 ((rd_T39 l0 x4_1).f1)) ∧ w'.cell? ⟨(ad440.add ((x4_1).toNat * 6)).block, (ad440.add ((x4_1).toNat * 6)).off + 2, none⟩ = some (.bool ((rd_T39 l0 x4_1).f2)) ∧ w'.cell? ⟨(ad440.add ((x4_1).toNat * 6)).block, (ad440.add ((x4_1).toNat * 6)).off + 3, none⟩ = some (.int .i64 ((rd_T39 l0 x4_1).f3)) ∧ w'.cell? ⟨(ad440.add ((x4_1).toNat * 6)).block, (ad440.add ((x4_1).toNat * 6)).off + 4, none⟩ = some (.string ((rd_T39 l0 x4_1).f4)) ∧ w'.cell? ⟨(ad440.add ((x4_1).toNat * 6)).block, (ad440.add ((x4_1).toNat * 6)).off + 5, none⟩ = some (.slice A442_5 ((rd_T39 l0 x4_1).f5).length c442_5)) (ds := [9]) #[false, false, false, false, false, false, false, false, false, false] (by kernel_rfl) rfl rfl ⟨(kCC BK441.out 0).trans rfl, (kCC BK441.out 1).trans rfl, (kCC BK441.out 2).trans rfl, (kCC BK441.out 3).trans rfl, (kCC BK441.out 4).trans rfl, (kCC BK441.out 5).trans rfl, ((HB.out.cell (World.block_lt_of_cell? w _ hw442_0)).trans hw442_0), ((HB.out.cell (World.block_lt_of_cell? w _ hw442_1)).trans hw442_1), ((HB.out.cell (World.block_lt_of_cell? w _ hw442_2)).trans hw442_2), ((HB.out.cell (World.block_lt_of_cell? w _ hw442_3)).trans hw442_3), ((HB.out.cell (World.block_lt_of_cell? w _ hw442_4)).trans hw442_4), ((HB.out.cell (World.block_lt_of_cell? w _ hw442_5)).trans hw442_5)⟩ (fun hHeld => ?_); refine with_tabW cleatref21_Own.tab7 cleatref21_Own.bits7 (fun HT_ HW_ => ?_)
   generalize w10.drew = w11 at HO_3 BK441 HB HR442_5 hx442_0 hx442_1 hx442_2 hx442_3 hx442_4 hx442_5 hHeld ⊢
   refine pure_ (i := 0) (N := some 17) (v := ?_) (a' := ?_) #[true, false, false, false, false, false, false, false, false, false] rfl rfl (any_of HT_.out (by kernel_rfl)) (fun _ _ _ h => h) (Or.inl ⟨by rfl, ?_⟩) ?_ ?_
   rotate_left
   ·intro w'
    go_simp
    with_reducible rfl
   rotate_left
   ·simp only [Act.put, l_A, l_0, l_1, i64_w, i32_w]
    rfl
   refine pure_ (i := 2) (N := some 19) (v := ?_) (a' := ?_) #[true, false, true, false, false, false, false, false, false, false] rfl rfl (any_of HT_.out (by kernel_rfl)) (fun _ _ _ h => h) (Or.inl ⟨by rfl, ?_⟩) ?_ ?_
   rotate_left
   ·intro w'
    go_simp
    with_reducible rfl
   rotate_left
   ·simp only [Act.put, l_A, l_0, l_1, i64_w, i32_w]
    rfl
   refine pure_ (i := 3) (N := some 20) (v := ?_) (a' := ?_) #[true, false, true, true, false, false, false, false, false, false] rfl rfl (any_of HT_.out (by kernel_rfl)) (fun _ _ _ h => h) (Or.inl ⟨by rfl, ?_⟩) ?_ ?_
   rotate_left
   ·intro w'
    go_simp
    with_reducible rfl
   rotate_left
   ·simp only [Act.put, l_A, l_0, l_1, i64_w, i32_w]
    rfl
   refine pure_ (i := 4) (N := some 21) (v := ?_) (a' := ?_) #[true, false, true, true, true, false, false, false, false, false] rfl rfl (any_of HT_.out (by kernel_rfl)) (fun _ _ _ h => h) (Or.inl ⟨by rfl, ?_⟩) ?_ ?_
   rotate_left
   ·intro w'
    go_simp
    with_reducible rfl
   rotate_left
   ·simp only [Act.put, l_A, l_0, l_1, i64_w, i32_w]
    rfl
   refine pure_ (i := 5) (N := some 22) (v := ?_) (a' := ?_) #[true, false, true, true, true, true, false, false, false, false] rfl rfl (any_of HT_.out (by kernel_rfl)) (fun _ _ _ h => h) (Or.inl ⟨by rfl, ?_⟩) ?_ ?_
   rotate_left
   ·intro w'
    go_simp
    with_reducible rfl
   rotate_left
   ·simp only [Act.put, l_A, l_0, l_1, i64_w, i32_w]
    rfl
   refine take_ (i := 1) (N := some 18) (v := ?_) (a' := ?_) #[true, true, true, true, true, true, false, false, false, false] rfl rfl (take_ofW HT_.out HW_.out (by kernel_rfl)) (fun _ _ _ h => h) (Or.inl ⟨by rfl, ?_⟩) hHeld ?_ ?_
   rotate_left
   ·rintro w' ⟨s0, s1, s2, s3, s4, s5, s6, s7, s8, s9, s10, s11⟩
    go_simp
    with_reducible rfl
   rotate_left
   ·simp only [Act.put, l_A, l_0, l_1, i64_w, i32_w]
    rfl
   refine take_ (i := 6) (N := some 23) (v := ?_) (a' := ?_) #[true, true, true, true, true, true, true, false, false, false] rfl rfl (take_ofW HT_.out HW_.out (by kernel_rfl)) (fun _ _ _ h => h) (Or.inl ⟨by rfl, ?_⟩) hHeld ?_ ?_
   rotate_left
   ·rintro w' ⟨s0, s1, s2, s3, s4, s5, s6, s7, s8, s9, s10, s11⟩
    go_simp
    with_reducible rfl
   rotate_left
   ·simp only [Act.put, l_A, l_0, l_1, i64_w, i32_w]
    rfl
   refine one_ (i := 7) (N := some 24) #[true, true, true, true, true, true, true, true, false, false] rfl rfl (one_of HT_.out (by kernel_rfl)) (by decide) (fun K hK => ?_)
   refine Kd.R_append_rows_step k80 (w0 := w) w.heap.size (by rfl) (.tmp 18) (.tmp 23) 37 80 (.agg #[(.int .i64 0), (.int .i64 0), (.int .i64 0), (.int .i64 0)]) 32 rfl Tryz.underlying37 info80 rfl (by decide) (by omega) (.slice none 0 0) ([] : List (S80)) ((rd_T39 l0 x4_1).f5) _ _ _ (fun _ => True) (fun _ => False) rfl rfl ?aO ?aR (fun _ _ h => h) (fun _ h => h.elim) ?aF ?aB ?aS ?aL ?_
   (case aR => repeat (first | exact (Kd.C_below HR442_5.out HB.out) | (with_reducible refine Kd.C_alloc ?_ _) | (with_reducible refine Kd.C_drewN ?_ _) | (with_reducible refine Kd.C_drew ?_)))
   (case aB => exact (by with_reducible repeat first | exact HB.out | apply bAA | apply bNN | apply bDD | refine bSS ?_ GE441.out))
   (case aF => exact (fun _ _ => trivial))
   (case aO => exact ((Kd.R_nil _ _ _ _ (fun _ => True))))
   (case aS => exact (bZZ (by with_reducible repeat first | exact HB.out | apply bAA | apply bNN | apply bDD | refine bSS ?_ GE441.out)))
   (case aL => have := LMc4.out; omega)
   intro v444 w12 ho hb hg hat
   rw [← Ny443.out] at ho
   have n0_ := Azz.mk (Kd.S_after (Kd.S_apart_nil (by (with_reducible repeat (first | apply Kd.S_alloc | apply Kd.S_drewN | apply Kd.S_drew)); exact HO_3.out)) hg hat)
   have n1_ := Azz.mk (blk_grown (g := gb441) (o := .cells #[.string ((rd_T39 l0 x4_1).f0), .int .i64 ((rd_T39 l0 x4_1).f1), .bool ((rd_T39 l0 x4_1).f2), .int .i64 ((rd_T39 l0 x4_1).f3), .string ((rd_T39 l0 x4_1).f4), .slice none 0 0] 39 (0, 0)) (by (with_reducible repeat first | apply kNN | apply kDD | apply kAA); exact BK441.out) hg (by simp [Value.ownBlock]))
   have n2_ := Azz.mk (hb)
   have n3_ := Azz.mk (ho)
   clear HO_3
   clear BK441
   clear HB
   have HO_3 := n0_
   have BK441 := n1_
   have HB := n2_
   have HO445 := n3_
   clear n0_ n1_ n2_ n3_
   clear ho hb hg hat
   obtain ⟨Ao13, co13, eo13⟩ := Kd.R_slice HO445.out
   (first | subst eo13 | (injection eo13 with f1_ f2_ f3_; have f4_ := f1_.symm; have f5_ := f3_.symm; clear f1_ f2_ f3_; subst f4_; subst f5_))
   refine hK.out _ _ ⟨(kCC BK441.out 0).trans rfl, (kCC BK441.out 1).trans rfl, (kCC BK441.out 2).trans rfl, (kCC BK441.out 3).trans rfl, (kCC BK441.out 4).trans rfl, (kCC BK441.out 5).trans rfl, ((HB.out.cell (World.block_lt_of_cell? w _ hw442_0)).trans hw442_0), ((HB.out.cell (World.block_lt_of_cell? w _ hw442_1)).trans hw442_1), ((HB.out.cell (World.block_lt_of_cell? w _ hw442_2)).trans hw442_2), ((HB.out.cell (World.block_lt_of_cell? w _ hw442_3)).trans hw442_3), ((HB.out.cell (World.block_lt_of_cell? w _ hw442_4)).trans hw442_4), ((HB.out.cell (World.block_lt_of_cell? w _ hw442_5)).trans hw442_5)⟩ (fun hHeld => ?_)
   clear hK K
   refine norm_ (a' := ?_) ?_ ?_
   rotate_left
   ·show Act.put _ (some 24) _ = _
    simp only [Act.put, l_A, l_0, l_1, i64_w, i32_w]
    rfl
   refine pure_ (i := 8) (N := some 25) (v := ?_) (a' := ?_) #[true, true, true, true, true, true, true, true, true, false] rfl rfl (any_of HT_.out (by kernel_rfl)) (fun _ _ _ h => h) (Or.inl ⟨by rfl, ?_⟩) ?_ ?_
   rotate_left
   ·intro w'
    go_simp
    with_reducible rfl
   rotate_left
   ·simp only [Act.put, l_A, l_0, l_1, i64_w, i32_w]
    rfl
   refine last_ (i := 9) (N := none) #[true, true, true, true, true, true, true, true, true, true] rfl rfl (one_of HT_.out (by kernel_rfl)) (by decide) (fun K hK => ?_)
   have hs14 : w12.cell? ⟨gb441, 5, none⟩ = some (.slice none 0 0) := (kCC BK441.out 5).trans rfl
   have hfs14 := kFF BK441.out 5
   refine skip_ (w1 := ?_) (by rfl) rfl ?_ ?_
   rotate_left
   ·go_simp
    rfl
   refine hK.out _ _ ?_
   clear hK K
   refine done_ (done_of HT_.out (by kernel_rfl)) ?_
   have n0_ : Azz (Kd.S k39 39 (w12.setCell ⟨gb441, 5, none⟩ (.slice Ao13 y443.length co13)) w.heap.size (fun k_ => some k_ ≠ (.slice Ao13 y443.length co13 : Value).ownBlock ∧ k_ ≠ gb441) u3 x3_1) := ⟨by (with_reducible repeat (first | apply Kd.S_alloc | apply Kd.S_drewN | apply Kd.S_drew)); exact Kd.S_mono (Kd.S_far (p := ⟨gb441, 5, none⟩) (Kd.S_mono HO_3.out (fun k_ hk => (⟨hk, hk.1⟩ : _ ∧ k_ ≠ gb441))) (fun _ hk => hk.2) (.slice Ao13 y443.length co13)) (fun _ hk => ⟨hk.1.2, hk.1.1⟩)⟩
   have n1_ : Azz (Kd.R k80 80 (w12.setCell ⟨gb441, 5, none⟩ (.slice Ao13 y443.length co13)) w.heap.size (fun _ => True) (.slice Ao13 y443.length co13) y443) := ⟨by (with_reducible repeat (first | apply Kd.R_alloc | apply Kd.R_drewN | apply Kd.R_drew)); exact Kd.R_mono (Kd.farR1 (Kd.R_types HO445.out BK441.out (by decide)) (fun _ hk => hk.2)) (fun _ hk => trivial)⟩
   have n2_ : Azz ((w12.setCell ⟨gb441, 5, none⟩ (.slice Ao13 y443.length co13)).heap[gb441]? = some (.cells #[.string ((rd_T39 l0 x4_1).f0), .int .i64 ((rd_T39 l0 x4_1).f1), .bool ((rd_T39 l0 x4_1).f2), .int .i64 ((rd_T39 l0 x4_1).f3), .string ((rd_T39 l0 x4_1).f4), .slice Ao13 y443.length co13] 39 (0, 0))) := ⟨by (with_reducible repeat first | apply kNN | apply kDD | apply kAA); refine blk_put (cs := #[.string ((rd_T39 l0 x4_1).f0), .int .i64 ((rd_T39 l0 x4_1).f1), .bool ((rd_T39 l0 x4_1).f2), .int .i64 ((rd_T39 l0 x4_1).f3), .string ((rd_T39 l0 x4_1).f4), .slice none 0 0]) ?_ 5 _ rfl; (with_reducible repeat first | apply kNN | apply kDD | apply kAA); exact BK441.out⟩
   have n3_ : Azz (Below w.heap.size w (w12.setCell ⟨gb441, 5, none⟩ (.slice Ao13 y443.length co13))) := ⟨by repeat (first | (with_reducible first | exact HB.out | apply bAA | apply bNN | apply bDD | refine bSS ?_ GE441.out) | exact HB.out)⟩
   (try clear HO_3)
   (try clear HO445)
   (try clear BK441)
   (try clear HB)
   generalize (w12.setCell ⟨gb441, 5, none⟩ (.slice Ao13 y443.length co13)) = w15 at n0_ n1_ n2_ n3_ ⊢
   have HO_3 := n0_
   have HO445 := n1_
   have BK441 := n2_
   have HB := n3_
   clear n0_ n1_ n2_ n3_
   obtain ⟨hcz16_0, hcz16_1, hcz16_2, hcz16_3, hcz16_4, hcz16_5, hfz16_0, hfz16_1, hfz16_2, hfz16_3, hfz16_4, hfz16_5⟩ := cel6 BK441.out
   try go_wp2_with (first | ((with_reducible refine g_b (b := .append) (xs := #[.tmp 26, .tmp 28]) rfl ?_); at_builtin; refine Kd.S_append k39 (w0 := w) w.heap.size rfl (.tmp 26) (.tmp 28) 22 39 (.agg #[(.string ⟨#[]⟩), (.int .i64 0), (.bool false), (.int .i64 0), (.string ⟨#[]⟩), (.slice none 0 0)]) 80 rfl Tryz.underlying22 info39 rfl (by decide) (by omega) u3 x3_1 (⟨(rd_T39 l0 x4_1).f0, (rd_T39 l0 x4_1).f1, (rd_T39 l0 x4_1).f2, (rd_T39 l0 x4_1).f3, (rd_T39 l0 x4_1).f4, y443⟩ : S39) [.string ((rd_T39 l0 x4_1).f0), .int .i64 ((rd_T39 l0 x4_1).f1), .bool ((rd_T39 l0 x4_1).f2), .int .i64 ((rd_T39 l0 x4_1).f3), .string ((rd_T39 l0 x4_1).f4), .slice Ao13 y443.length co13] (fun k_ => k_ ≠ gb441) (fun k_ => some k_ = (.slice Ao13 y443.length co13 : Value).ownBlock) rfl rfl ?aP (fun k_ hk_ => ((Kd.R_mono (ok' := fun k_ => ((fun k_ => k_ ≠ gb441)) k_ ∧ some k_ ≠ (u3 : Value).ownBlock) (Kd.R_types (Kd.R_apart' (HO445.out) (Kd.S_typed HO_3.out) (by decide)) BK441.out (by decide)) (fun k_ hk => ⟨hk.2, hk.1.2⟩))).1 k_ hk_.symm) ?aF ?aO ?aB ?aS ?aL ?_; (case aP => exact k39_mkM _ _ _ (⟨(rd_T39 l0 x4_1).f0, (rd_T39 l0 x4_1).f1, (rd_T39 l0 x4_1).f2, (rd_T39 l0 x4_1).f3, (rd_T39 l0 x4_1).f4, y443⟩ : S39) (Kd.R_mono (Kd.R_tight rfl (Kd.R_mono (ok' := fun k_ => ((fun k_ => k_ ≠ gb441)) k_ ∧ some k_ ≠ (u3 : Value).ownBlock) (Kd.R_types (Kd.R_apart' (HO445.out) (Kd.S_typed HO_3.out) (by decide)) BK441.out (by decide)) (fun k_ hk => ⟨hk.2, hk.1.2⟩))) (fun _ h_ => h_))); (case aB => exact (by with_reducible repeat first | exact HB.out | apply bAA | apply bNN | apply bDD | refine bSS ?_ GE441.out)); (case aF => exact (fun k_ hk => Kd.freshB (g := gb441) (o := .cells #[.string ((rd_T39 l0 x4_1).f0), .int .i64 ((rd_T39 l0 x4_1).f1), .bool ((rd_T39 l0 x4_1).f2), .int .i64 ((rd_T39 l0 x4_1).f3), .string ((rd_T39 l0 x4_1).f4), .slice Ao13 y443.length co13] 39 (0, 0)) (by (with_reducible repeat first | apply kNN | apply kDD | apply kAA); exact BK441.out) k_ hk)); (case aO => exact (by (with_reducible repeat (first | apply Kd.S_alloc | apply Kd.S_drewN | apply Kd.S_drew)); exact Kd.S_mono HO_3.out (fun k_ hk => ⟨hk.2, fun e_ => hk.1 e_⟩))); (case aS => exact (bZZ (by with_reducible repeat first | exact HB.out | apply bAA | apply bNN | apply bDD | refine bSS ?_ GE441.out))); (case aL => have := LMc5.out; omega); intro v447 w17 ho hb hg hat; rw [← Ny446.out] at ho; have n0_ := Azz.mk (blk_grown (g := gb441) (o := .cells #[.string ((rd_T39 l0 x4_1).f0), .int .i64 ((rd_T39 l0 x4_1).f1), .bool ((rd_T39 l0 x4_1).f2), .int .i64 ((rd_T39 l0 x4_1).f3), .string ((rd_T39 l0 x4_1).f4), .slice Ao13 y443.length co13] 39 (0, 0)) (by (with_reducible repeat first | apply kNN | apply kDD | apply kAA); exact BK441.out) hg (Kd.S_away HO_3.out (fun _ hk => hk.2))); have n1_ := Azz.mk (hb); have n2_ := Azz.mk (ho); clear BK441; clear HB; clear HO_3; clear HO445; have BK441 := n0_; have HB := n1_; have HO448 := n2_; clear n0_ n1_ n2_; clear ho hb hg hat))
   go_roundg k1
   case measure => have := HK1.out; omega
   case rel => exact ⟨(y446), (wrap64 (x4_1 + 1)), eqS, H', ⟨by have := HK1.out; omega⟩, ⟨by (with_reducible repeat (first | apply Kd.S_alloc | apply Kd.S_drewN | apply Kd.S_drew)); exact Kd.S_mono HO448.out (fun _ hk => trivial)⟩, ⟨by repeat (first | (with_reducible first | exact HB.out | apply bAA | apply bNN | apply bDD | refine bSS ?_ GE441.out) | exact HB.out)⟩⟩
def cleatref04_Same.l0 : Nat → List Int → List Int → Int → Option (Bool)
 | 0, _, _, _ => none
 | k + 1, x0, x1, x5 => if x5 < (x0.length : Int) then (if 0 ≤ x5 then (if x5 < (x1.length : Int) then (if (rd x0 x5) = (rd x1 x5) then (cleatref04_Same.l0 k x0 x1 (wrap64 (x5 + 1))) else (some false)) else (none)) else (none)) else (some true)
def cleatref04_Same.f (k : Nat) (l0 : List Int) (l1 : List Int) : Option (Bool) := if (l0.length : Int) = (l1.length : Int) then (cleatref04_Same.l0 k l0 l1 0) else (some false)
theorem cleatref04_Same.calls (k : Nat) (A0 : Option Addr) (c0 : Nat) (l0 : List Int) (A1 : Option Addr) (c1 : Nat) (l1 : List Int) (r : Bool) (w : World) (hr0 : Kd.C (Kd.int .i64) w A0 l0.length l0) (hc0 : l0.length ≤ c0) (hr1 : Kd.C (Kd.int .i64) w A1 l1.length l1) (hc1 : l1.length ≤ c1) (h : cleatref04_Same.f k l0 l1 = some r) :
 Calls Tryz.prog 13 #[.slice A0 l0.length c0, .slice A1 l1.length c1] w fun e w' => e = .returned (.bool r) ∧ Drawn0 w w' := by
 have HR0 := Azz.mk hr0
 have HC0 := Azz.mk hc0
 clear hr0 hc0
 have HR1 := Azz.mk hr1
 have HC1 := Azz.mk hc1
 clear hr1 hc1
 have H : (if (l0.length : Int) = (l1.length : Int) then (cleatref04_Same.l0 k l0 l1 0) else (some false)) = some r := h
 clear h
 by_cases c3 : (l0.length : Int) = (l1.length : Int)
 rotate_left
 ·rw [if_neg c3] at H
  obtain ⟨c3b0, c3b1⟩ := bn_ c3
  have c3b2 : (l0.length == l1.length) = false := by first | simpa using c3 | (simp at c3 ⊢; omega)
  obtain rfl := sI H
  go_enter Tryz.func13, Tryz.ntmps13
  go_wp2
  repeat (go_quiet (fail); try go_wp2)
  go_ret
  exact ⟨by first | rfl | (simp; done) | (simp [*]; done), d0S⟩
 rw [if_pos c3] at H
 obtain ⟨c3b0, c3b1⟩ := be_ c3
 have c3b2 : (l0.length == l1.length) = true := by first | simpa using c3 | (simp at c3 ⊢; omega)
 clear c3
 have H' := Azz.mk H
 clear H
 go_enter Tryz.func13, Tryz.ntmps13
 go_wp2
 repeat (go_quiet (fail); try go_wp2)
 go_loopg [5] k (fun kq v5 w' => ∃ (x5_1 : Int), v5 = .int .i64 x5_1 ∧ Azz (cleatref04_Same.l0 kq l0 l1 x5_1 = some r) ∧ Azz (kq ≤ k) ∧ Drawn0 w w')
 case atStart => exact ⟨(0), eqS, H', ⟨Nat.le_refl _⟩, d0S⟩
 case round =>
  clear H'
  try clear c1
  try clear p2
  try clear c3
  try clear c3b0
  try clear c3b1
  try clear c3b2
  obtain ⟨x5_1, rfl, HA, HK1, ⟨m1, rfl⟩⟩ := hrel
  cases gk with
  | zero => exact absurd HA.out (by simp [cleatref04_Same.l0])
  | succ k1 =>
   have H := HA.out
   clear HA
   simp only [cleatref04_Same.l0] at H
   by_cases c4 : x5_1 < (l0.length : Int)
   rotate_left
   ·rw [if_neg c4] at H
    have c4b0 := dF_ c4
    clear c4
    obtain rfl := sI H
    go_wp2
    repeat (go_quiet (fail); try go_wp2)
    go_ret
    exact ⟨by first | rfl | (simp; done) | (simp [*]; done), d0S⟩
   rw [if_pos c4] at H
   have c4b0 := dT_ c4
   clear c4
   by_cases c5 : 0 ≤ x5_1
   rotate_left
   ·rw [if_neg c5] at H
    exact absurd H (by simp)
   rw [if_pos c5] at H
   have c5b0 := dT_ c5
   clear c5
   by_cases c6 : x5_1 < (l1.length : Int)
   rotate_left
   ·rw [if_neg c6] at H
    exact absurd H (by simp)
   rw [if_pos c6] at H
   have c6b0 := dT_ c6
   clear c6
   by_cases c7 : (rd l0 x5_1) = (rd l1 x5_1)
   ·rw [if_pos c7] at H
    obtain ⟨c7b0, c7b1⟩ := be_ c7
    clear c7
    have H' := Azz.mk H
    clear H
    have p449 : 0 ≤ (x5_1 : Int) := of_decide_eq_true (by first | (with_reducible assumption) | assumption)
    have q449 : x5_1 < (l0.length : Int) := of_decide_eq_true (by first | (with_reducible assumption) | assumption)
    obtain ⟨ad449, e449, hx449_0⟩ := Kd.at_int HR0.out x5_1 p449 q449
    cases e449
    replace p449 := eq_true p449
    replace q449 := eq_true q449
    have p450 : 0 ≤ (x5_1 : Int) := of_decide_eq_true (by first | (with_reducible assumption) | assumption)
    have q450 : x5_1 < (l1.length : Int) := of_decide_eq_true (by first | (with_reducible assumption) | assumption)
    obtain ⟨ad450, e450, hx450_0⟩ := Kd.at_int HR1.out x5_1 p450 q450
    cases e450
    replace p450 := eq_true p450
    replace q450 := eq_true q450
    go_wp2
    repeat (go_quiet (fail); try go_wp2)
    go_roundg k1
    case measure => have := HK1.out; omega
    case rel => exact ⟨(wrap64 (x5_1 + 1)), eqS, H', ⟨by have := HK1.out; omega⟩, d0S⟩
   rw [if_neg c7] at H
   obtain ⟨c7b0, c7b1⟩ := bn_ c7
   obtain rfl := sI H
   have p449 : 0 ≤ (x5_1 : Int) := of_decide_eq_true (by first | (with_reducible assumption) | assumption)
   have q449 : x5_1 < (l0.length : Int) := of_decide_eq_true (by first | (with_reducible assumption) | assumption)
   obtain ⟨ad449, e449, hx449_0⟩ := Kd.at_int HR0.out x5_1 p449 q449
   cases e449
   replace p449 := eq_true p449
   replace q449 := eq_true q449
   have p450 : 0 ≤ (x5_1 : Int) := of_decide_eq_true (by first | (with_reducible assumption) | assumption)
   have q450 : x5_1 < (l1.length : Int) := of_decide_eq_true (by first | (with_reducible assumption) | assumption)
   obtain ⟨ad450, e450, hx450_0⟩ := Kd.at_int HR1.out x5_1 p450 q450
   cases e450
   replace p450 := eq_true p450
   replace q450 := eq_true q450
   go_wp2
   repeat (go_quiet (fail); try go_wp2)
   go_ret
   exact ⟨by first | rfl | (simp; done) | (simp [*]; done), d0S⟩
end Go.Proofs.YtngmipfodjgmmaaGreatDoor.P
