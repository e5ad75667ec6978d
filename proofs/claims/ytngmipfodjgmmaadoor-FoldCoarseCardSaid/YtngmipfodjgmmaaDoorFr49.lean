/- Walks and plain laws of this claim, a part. -/
import Derived.Test.YtngmipfodjgmmaaDoorFr42
namespace Go.Proofs.YtngmipfodjgmmaaDoor.P
open Go.RowKit Go.Proofs.YtngmipfodjgmmaaDoorW.PrintWords Go.Proofs.YtngmipfodjgmmaaDoorW.PrintLast Go.Proofs.YtngmipfodjgmmaaDoorW.PrintMore
attribute [local go_sem] max2_int min2_int max_two min_two max_three min_three max_four min_four   -- for this text's walks alone
set_option linter.unusedVariables false
set_option linter.unusedSimpArgs false
def graph_section.l0 : Nat → List (S64) → Int → Int → ByteArray → Int → Bool → Int → ByteArray → List (S85) → Option (ByteArray × Int × Bool × Int × ByteArray × (List (S85)))
 | 0, _, _, _, _, _, _, _, _, _ => none
 | k + 1, x18, x19, x20, x202000, x202001, x202002, x202003, x202004, x202005 => if x20 < x19 then (if 0 ≤ x20 then (if x20 < (x18.length : Int) then (if x202005.length < 4398046511104 then (graph_section.l0 k x18 x19 (wrap64 (x20 + 1)) x202000 x202001 x202002 x202003 x202004 (x202005 ++ [(⟨(rd_T64 x18 x20).f0, (rd_T64 x18 x20).f1, (rd_T64 x18 x20).f2, (rd_T64 x18 x20).f3⟩ : S85)])) else (none)) else (none)) else (none)) else (some (x202000, x202001, x202002, x202003, x202004, x202005))
def graph_section.f (k : Nat) (a0_0 : ByteArray) (a0_1 : Int) (a0_2 : Bool) (a0_3 : Int) (a0_4 : ByteArray) (l0_5 : List (S64)) : Option (ByteArray × Int × Bool × Int × ByteArray × (List (S85))) := graph_section.l0 k l0_5 (l0_5.length : Int) 0 a0_0 a0_1 a0_2 a0_3 a0_4 ([] : List (S85))
theorem graph_section.mono_l : ∀ k, (∀ y0 y1 y2 y3 y4 y5 y6 y7 y8, LeO (graph_section.l0 k y0 y1 y2 y3 y4 y5 y6 y7 y8) (graph_section.l0 (k + 1) y0 y1 y2 y3 y4 y5 y6 y7 y8))
 | 0 => fun _ _ _ _ _ _ _ _ _ r h => by simp [graph_section.l0] at h
 | k + 1 => by
  have ih0 := graph_section.mono_l k
  ·intro y0 y1 y2 y3 y4 y5 y6 y7 y8
   unfold graph_section.l0
   repeat' first
   | (with_reducible exact ih0 _ _ _ _ _ _ _ _ _)
   | (with_reducible exact LeO.refl _)
   | (with_reducible exact LeO.none _)
   | (with_reducible refine LeO.ite ?_ ?_)
   | (with_reducible refine LeO.bind ?_ (fun _ => ?_))
theorem graph_section.mono : ∀ a0 a1 a2 a3 a4 a5 k, LeO (graph_section.f k a0 a1 a2 a3 a4 a5) (graph_section.f (k + 1) a0 a1 a2 a3 a4 a5) := by
 intro a0 a1 a2 a3 a4 a5 k
 have ih0 := graph_section.mono_l k
 unfold graph_section.f
 repeat' first
  | (with_reducible exact ih0 _ _ _ _ _ _ _ _ _)
  | (with_reducible exact LeO.refl _)
  | (with_reducible exact LeO.none _)
  | (with_reducible refine LeO.ite ?_ ?_)
  | (with_reducible refine LeO.bind ?_ (fun _ => ?_))
set_option maxHeartbeats 8000000 in
set_option maxRecDepth 100000 in
theorem graph_section.calls (k : Nat) (a0_0 : ByteArray) (a0_1 : Int) (a0_2 : Bool) (a0_3 : Int) (a0_4 : ByteArray) (A0_5 : Option Addr) (c0_5 : Nat) (l0_5 : List (S64)) (r1 : ByteArray) (r2 : Int) (r3 : Bool) (r4 : Int) (r5 : ByteArray) (r6 : List (S85)) (w : World) (hr0_5 : Kd.C k64 w A0_5 l0_5.length l0_5) (hc0_5 : l0_5.length ≤ c0_5) (h : graph_section.f k a0_0 a0_1 a0_2 a0_3 a0_4 l0_5 = some (r1, r2, r3, r4, r5, r6)) :
 Calls Tryd.prog 38 #[.agg #[.string a0_0, .int .i64 a0_1, .bool a0_2, .int .i64 a0_3, .string a0_4, .slice A0_5 l0_5.length c0_5]] w fun e w' => ∃ v5_ : Value, e = .returned (.agg #[.string r1, .int .i64 r2, .bool r3, .int .i64 r4, .string r5, v5_]) ∧ Kd.R k85 85 w' w.heap.size (fun _ => True) v5_ r6 ∧ Below w.heap.size w w' := by
 have hu36 := Tryd.underlying36
 have hu71 := Tryd.underlying71
 have hu64 := Tryd.underlying64
 have hu85 := Tryd.underlying85
 have HR0_5 := Azz.mk hr0_5
 have HC0_5 := Azz.mk hc0_5
 clear hr0_5 hc0_5
 have HB := Azz.mk (Below.refl w.heap.size w)
 have H : (graph_section.l0 k l0_5 (l0_5.length : Int) 0 a0_0 a0_1 a0_2 a0_3 a0_4 ([] : List (S85))) = some (r1, r2, r3, r4, r5, r6) := h
 clear h
 have H' := Azz.mk H
 clear H
 go_enter Tryd.func38, Tryd.ntmps38
 go_wp2_with (first | ((with_reducible refine gate_dst (N := 1) rfl ?_); refine box_event ?hg (N := 1) ?hd (cs := #[.string a0_0, .int .i64 a0_1, .bool a0_2, .int .i64 a0_3, .string a0_4, .slice A0_5 l0_5.length c0_5]) (t := 36) ?hr ?_; (case hd => rfl); (case hg => rfl); (case hr => first | (go_simp; done) | (go_simp; rfl)); intro gb199 hg w2 hbox hb; have n0_ := Azz.mk (bTT (by with_reducible repeat first | exact HB.out | apply bAA | apply bNN | apply bDD) hb); have n1_ := Azz.mk (hbox); have n2_ := Azz.mk ((by rw [hg]; exact (bZZ (by with_reducible repeat first | exact HB.out | apply bAA | apply bNN | apply bDD)) : w.heap.size ≤ gb199)); have n3_ := Azz.mk ((by rw [hg]; exact (bZZ (by with_reducible repeat first | exact HB.out | apply bAA | apply bNN | apply bDD)) : w.heap.size ≤ gb199)); clear HB; have HB := n0_; have BK199 := n1_; have GW199 := n2_; have GE199 := n3_; clear n0_ n1_ n2_ n3_; clear hb hbox hg) | ((with_reducible refine gate_dst (N := 2) rfl ?_); refine box_event ?hg (N := 2) ?hd (cs := #[.string (⟨#[]⟩ : ByteArray), .int .i64 0, .bool false, .int .i64 0, .string (⟨#[]⟩ : ByteArray), .slice none 0 0]) (t := 71) ?hr ?_; (case hd => rfl); (case hg => rfl); (case hr => first | (go_simp; done) | (go_simp; rfl)); intro gb200 hg w3 hbox hb; have n0_ := Azz.mk (blk_b hb BK199.out); have n1_ := Azz.mk (bTT (by with_reducible repeat first | exact HB.out | apply bAA | apply bNN | apply bDD | refine bSS ?_ GE199.out) hb); have n2_ := Azz.mk (hbox); have n3_ := Azz.mk ((by rw [hg]; exact (bZZ (by with_reducible repeat first | exact HB.out | apply bAA | apply bNN | apply bDD | refine bSS ?_ GE199.out)) : w.heap.size ≤ gb200)); have n4_ := Azz.mk ((by rw [hg]; exact (bZZ (by with_reducible repeat first | exact HB.out | apply bAA | apply bNN | apply bDD | refine bSS ?_ GE199.out)) : w.heap.size ≤ gb200)); have n5_ := Azz.mk ((by rw [hg]; exact Nat.ne_of_lt (blk_lt BK199.out) : gb199 ≠ gb200)); have n6_ := Azz.mk ((by rw [hg]; exact Nat.ne_of_gt (blk_lt BK199.out) : gb200 ≠ gb199)); clear BK199; clear HB; have BK199 := n0_; have HB := n1_; have BK200 := n2_; have GW200 := n3_; have GE200 := n4_; have NB199_200 := n5_; have NB200_199 := n6_; clear n0_ n1_ n2_ n3_ n4_ n5_ n6_; clear hb hbox hg; have hnb4 := NB199_200.out; have hnc4 := NB200_199.out; obtain ⟨hcz5_0, hcz5_1, hcz5_2, hcz5_3, hcz5_4, hcz5_5, hfz5_0, hfz5_1, hfz5_2, hfz5_3, hfz5_4, hfz5_5⟩ := cel6 BK199.out) | ((with_reducible refine gate_dst (N := 3) rfl ?_); refine box_event ?hg (N := 3) ?hd (cs := #[.string (⟨#[]⟩ : ByteArray), .int .i64 0, .bool false, .int .i64 0, .string (⟨#[]⟩ : ByteArray), .slice none 0 0]) (t := 71) ?hr ?_; (case hd => rfl); (case hg => rfl); (case hr => first | (go_simp; done) | (go_simp; rfl)); intro gb201 hg w6 hbox hb; have n0_ := Azz.mk (blk_b hb BK199.out); have n1_ := Azz.mk (blk_b hb BK200.out); have n2_ := Azz.mk (bTT (by with_reducible repeat first | exact HB.out | apply bAA | apply bNN | apply bDD | refine bSS ?_ GE199.out | refine bSS ?_ GE200.out) hb); have n3_ := Azz.mk (hbox); have n4_ := Azz.mk ((by rw [hg]; exact (bZZ (by with_reducible repeat first | exact HB.out | apply bAA | apply bNN | apply bDD | refine bSS ?_ GE199.out | refine bSS ?_ GE200.out)) : w.heap.size ≤ gb201)); have n5_ := Azz.mk ((by rw [hg]; exact (bZZ (by with_reducible repeat first | exact HB.out | apply bAA | apply bNN | apply bDD | refine bSS ?_ GE199.out | refine bSS ?_ GE200.out)) : w.heap.size ≤ gb201)); have n6_ := Azz.mk ((by rw [hg]; exact Nat.ne_of_lt (blk_lt BK199.out) : gb199 ≠ gb201)); have n7_ := Azz.mk ((by rw [hg]; exact Nat.ne_of_gt (blk_lt BK199.out) : gb201 ≠ gb199)); have n8_ := Azz.mk ((by rw [hg]; exact Nat.ne_of_lt (blk_lt BK200.out) : gb200 ≠ gb201)); have n9_ := Azz.mk ((by rw [hg]; exact Nat.ne_of_gt (blk_lt BK200.out) : gb201 ≠ gb200)); clear BK199; clear BK200; clear HB; have BK199 := n0_; have BK200 := n1_; have HB := n2_; have BK201 := n3_; have GW201 := n4_; have GE201 := n5_; have NB199_201 := n6_; have NB201_199 := n7_; have NB200_201 := n8_; have NB201_200 := n9_; clear n0_ n1_ n2_ n3_ n4_ n5_ n6_ n7_ n8_ n9_; clear hb hbox hg; have hnb7 := NB201_199.out; have hnc7 := NB199_201.out; have hnb8 := NB201_200.out; have hnc8 := NB200_201.out; obtain ⟨hcz9_0, hcz9_1, hcz9_2, hcz9_3, hcz9_4, hcz9_5, hfz9_0, hfz9_1, hfz9_2, hfz9_3, hfz9_4, hfz9_5⟩ := cel6 BK201.out) | ((with_reducible refine gate_store (t := 71) (p := 3) rfl ?_); refine store_event (t := 71) (p := 3) (v := ?vo_w10) (w1 := ((((((w6.setCell ⟨gb201, 0, none⟩ (.string a0_0)).setCell ⟨gb201, 1, none⟩ (.int .i64 a0_1)).setCell ⟨gb201, 2, none⟩ (.bool a0_2)).setCell ⟨gb201, 3, none⟩ (.int .i64 a0_3)).setCell ⟨gb201, 4, none⟩ (.string a0_4)).setCell ⟨gb201, 5, none⟩ (.slice none 0 0))) ?hg ?ho ?hn ?hr ?_; (case ho => rfl); (case hg => rfl); (case hn => rfl); (case hr => first | (go_simp; done) | (go_simp; rfl)); intro w10 hw; have n0_ : Azz (w10.heap[gb199]? = some (.cells #[.string a0_0, .int .i64 a0_1, .bool a0_2, .int .i64 a0_3, .string a0_4, .slice A0_5 l0_5.length c0_5] 36 (0, 0))) := ⟨(by rw [hw]; exact (by refine far6 NB199_201.out ?_; (with_reducible repeat first | apply kNN | apply kDD | apply kAA); exact BK199.out))⟩; have n1_ : Azz (w10.heap[gb200]? = some (.cells #[.string (⟨#[]⟩ : ByteArray), .int .i64 0, .bool false, .int .i64 0, .string (⟨#[]⟩ : ByteArray), .slice none 0 0] 71 (0, 0))) := ⟨(by rw [hw]; exact (by refine far6 NB200_201.out ?_; (with_reducible repeat first | apply kNN | apply kDD | apply kAA); exact BK200.out))⟩; have n2_ : Azz (w10.heap[gb201]? = some (.cells #[.string a0_0, .int .i64 a0_1, .bool a0_2, .int .i64 a0_3, .string a0_4, .slice none 0 0] 71 (0, 0))) := ⟨(by rw [hw]; exact (by apply put6; (with_reducible repeat first | apply kNN | apply kDD | apply kAA); exact BK201.out))⟩; have n3_ : Azz (Below w.heap.size w w10) := ⟨(by rw [hw]; exact (by with_reducible repeat first | exact HB.out | apply bAA | apply bNN | apply bDD | refine bSS ?_ GE199.out | refine bSS ?_ GE200.out | refine bSS ?_ GE201.out))⟩; clear hw; clear BK199; clear BK200; clear BK201; clear HB; have BK199 := n0_; have BK200 := n1_; have BK201 := n2_; have HB := n3_; clear n0_ n1_ n2_ n3_; obtain ⟨hcz11_0, hcz11_1, hcz11_2, hcz11_3, hcz11_4, hcz11_5, hfz11_0, hfz11_1, hfz11_2, hfz11_3, hfz11_4, hfz11_5⟩ := cel6 BK199.out))
 go_loopg [20] k (fun kq v20 w' => ∃ (x20_1 : Int) (x202005_1 : List (S85)) (u202005 : Value), v20 = .int .i64 x20_1 ∧ Azz (graph_section.l0 kq l0_5 (l0_5.length : Int) x20_1 a0_0 a0_1 a0_2 a0_3 a0_4 x202005_1 = some (r1, r2, r3, r4, r5, r6)) ∧ Azz (kq ≤ k) ∧ Azz (Kd.R k85 85 w' w.heap.size (fun _ => True) u202005 x202005_1) ∧ Azz (w'.heap[gb199]? = some (.cells #[.string a0_0, .int .i64 a0_1, .bool a0_2, .int .i64 a0_3, .string a0_4, (.slice A0_5 l0_5.length c0_5)] 36 (0, 0))) ∧ Azz (w'.heap[gb200]? = some (.cells #[.string (⟨#[]⟩ : ByteArray), .int .i64 0, .bool false, .int .i64 0, .string (⟨#[]⟩ : ByteArray), (.slice none 0 0)] 71 (0, 0))) ∧ Azz (w'.heap[gb201]? = some (.cells #[.string a0_0, .int .i64 a0_1, .bool a0_2, .int .i64 a0_3, .string a0_4, u202005] 71 (0, 0))) ∧ Azz (Below w.heap.size w w'))
 case atStart => exact ⟨(0), (([] : List (S85))), (.slice none 0 0), (by first | rfl | (simp; done) | (simp [*]; done)), H', ⟨Nat.le_refl _⟩, ⟨by first | exact Kd.R_nil _ _ _ _ _ | exact Kd.N_nil _ _ _ _ _ | exact Kd.V_nil _ _ _ _ _ | exact Kd.Q_nil _ _ _ _ _ | exact Kd.S_nil _ _ _ _ _⟩, ⟨by (with_reducible repeat first | apply kNN | apply kDD | apply kAA); exact BK199.out⟩, ⟨by (with_reducible repeat first | apply kNN | apply kDD | apply kAA); exact BK200.out⟩, ⟨by (with_reducible repeat first | apply kNN | apply kDD | apply kAA); exact BK201.out⟩, ⟨by repeat (first | (with_reducible first | exact HB.out | apply bAA | apply bNN | apply bDD | refine bSS ?_ GE199.out | refine bSS ?_ GE200.out | refine bSS ?_ GE201.out) | exact HB.out)⟩⟩
 case round =>
  clear H'
  try clear p2
  try clear c3
  try clear c4
  try clear c7
  try clear c8
  try clear hcz11_0 hcz11_1 hcz11_2 hcz11_3 hcz11_4 hcz11_5 hcz5_0 hcz5_1 hcz5_2 hcz5_3 hcz5_4 hcz5_5 hcz9_0 hcz9_1 hcz9_2 hcz9_3 hcz9_4 hcz9_5 hfz11_0 hfz11_1 hfz11_2 hfz11_3 hfz11_4 hfz11_5 hfz5_0 hfz5_1 hfz5_2 hfz5_3 hfz5_4 hfz5_5 hfz9_0 hfz9_1 hfz9_2 hfz9_3 hfz9_4 hfz9_5
  obtain ⟨x20_1, x202005_1, u202005, rfl, HA, HK1, HO_202005, BK199, BK200, BK201, HB⟩ := hrel
  cases gk with
  | zero => exact absurd HA.out (by simp [graph_section.l0])
  | succ k1 =>
   have H := HA.out
   clear HA
   simp only [graph_section.l0] at H
   by_cases c12 : x20_1 < (l0_5.length : Int)
   ·rw [if_pos c12] at H
    have c12b0 := decide_eq_true c12
    clear c12
    by_cases c13 : 0 ≤ x20_1
    ·rw [if_pos c13] at H
     have c13b0 := decide_eq_true c13
     clear c13
     by_cases c14 : x20_1 < (l0_5.length : Int)
     ·rw [if_pos c14] at H
      have c14b0 := decide_eq_true c14
      clear c14
      by_cases c15 : x202005_1.length < 4398046511104
      ·rw [if_pos c15] at H
       have LMc15 := Azz.mk c15
       clear c15
       obtain ⟨y204, hy204⟩ : ∃ y_ : List (S85), y_ = (x202005_1 ++ [(⟨(rd_T64 l0_5 x20_1).f0, (rd_T64 l0_5 x20_1).f1, (rd_T64 l0_5 x20_1).f2, (rd_T64 l0_5 x20_1).f3⟩ : S85)]) := ⟨_, rfl⟩
       replace H : (graph_section.l0 k1 l0_5 (l0_5.length : Int) (wrap64 (x20_1 + 1)) a0_0 a0_1 a0_2 a0_3 a0_4 y204) = some (r1, r2, r3, r4, r5, r6) := by first | (rw [hy204]; with_reducible exact H) | (have H2_ := (Option.bind_some _ _).symm.trans H; rw [hy204]; with_reducible exact H2_) | (have H2_ := (Option.bind_some _ _).symm.trans H; with_reducible exact H2_) | with_reducible exact H | (rw [hy204]; exact H) | exact H
       have Ny204 := Azz.mk hy204
       clear hy204
       have H' := Azz.mk H
       clear H
       have p202 : 0 ≤ (x20_1 : Int) := of_decide_eq_true (by first | (with_reducible assumption) | assumption)
       have q202 : x20_1 < (l0_5.length : Int) := of_decide_eq_true (by first | (with_reducible assumption) | assumption)
       obtain ⟨ad202, e202, hx202_0, hx202_1, hx202_2, hx202_3⟩ := at_T64 HR0_5.out x20_1 p202 q202
       cases e202
       replace hx202_0 := (HB.out.cell (World.block_lt_of_cell? w _ hx202_0)).trans hx202_0
       replace hx202_1 := (HB.out.cell (World.block_lt_of_cell? w _ hx202_1)).trans hx202_1
       replace hx202_2 := (HB.out.cell (World.block_lt_of_cell? w _ hx202_2)).trans hx202_2
       replace hx202_3 := (HB.out.cell (World.block_lt_of_cell? w _ hx202_3)).trans hx202_3
       replace p202 := eq_true p202
       replace q202 := eq_true q202
       go_wp2_with (first | ((with_reducible refine gate_dst (N := 5) rfl ?_); refine box_event ?hg (N := 5) ?hd (cs := #[.int .i64 0, .int .i64 0, .int .i64 0, .int .i64 0]) (t := 64) ?hr ?_; (case hd => rfl); (case hg => rfl); (case hr => first | (go_simp; done) | (go_simp; rfl)); intro gb203 hg w16 hbox hb; have n0_ := Azz.mk (Kd.R_below (by (with_reducible repeat (first | apply Kd.R_alloc | apply Kd.R_drewN | apply Kd.R_drew)); exact HO_202005.out) hb); have n1_ := Azz.mk (blk_b hb BK199.out); have n2_ := Azz.mk (blk_b hb BK200.out); have n3_ := Azz.mk (blk_b hb BK201.out); have n4_ := Azz.mk (bTT (by with_reducible repeat first | exact HB.out | apply bAA | apply bNN | apply bDD | refine bSS ?_ GE199.out | refine bSS ?_ GE200.out | refine bSS ?_ GE201.out) hb); have n5_ := Azz.mk (hbox); have n6_ := Azz.mk ((by rw [hg]; exact (bZZ (by with_reducible repeat first | exact HB.out | apply bAA | apply bNN | apply bDD | refine bSS ?_ GE199.out | refine bSS ?_ GE200.out | refine bSS ?_ GE201.out)) : w.heap.size ≤ gb203)); have n7_ := Azz.mk ((by rw [hg]; exact (bZZ (by with_reducible repeat first | exact HB.out | apply bAA | apply bNN | apply bDD | refine bSS ?_ GE199.out | refine bSS ?_ GE200.out | refine bSS ?_ GE201.out)) : w.heap.size ≤ gb203)); have n8_ := Azz.mk ((by rw [hg]; exact Nat.ne_of_lt (blk_lt BK199.out) : gb199 ≠ gb203)); have n9_ := Azz.mk ((by rw [hg]; exact Nat.ne_of_gt (blk_lt BK199.out) : gb203 ≠ gb199)); have n10_ := Azz.mk ((by rw [hg]; exact Nat.ne_of_lt (blk_lt BK200.out) : gb200 ≠ gb203)); have n11_ := Azz.mk ((by rw [hg]; exact Nat.ne_of_gt (blk_lt BK200.out) : gb203 ≠ gb200)); have n12_ := Azz.mk ((by rw [hg]; exact Nat.ne_of_lt (blk_lt BK201.out) : gb201 ≠ gb203)); have n13_ := Azz.mk ((by rw [hg]; exact Nat.ne_of_gt (blk_lt BK201.out) : gb203 ≠ gb201)); clear HO_202005; clear BK199; clear BK200; clear BK201; clear HB; have HO_202005 := n0_; have BK199 := n1_; have BK200 := n2_; have BK201 := n3_; have HB := n4_; have BK203 := n5_; have GW203 := n6_; have GE203 := n7_; have NB199_203 := n8_; have NB203_199 := n9_; have NB200_203 := n10_; have NB203_200 := n11_; have NB201_203 := n12_; have NB203_201 := n13_; clear n0_ n1_ n2_ n3_ n4_ n5_ n6_ n7_ n8_ n9_ n10_ n11_ n12_ n13_; clear hb hbox hg; have hnb17 := NB203_199.out; have hnc17 := NB199_203.out; have hnb18 := NB203_200.out; have hnc18 := NB200_203.out; have hnb19 := NB203_201.out; have hnc19 := NB201_203.out; obtain ⟨hcz20_0, hcz20_1, hcz20_2, hcz20_3, hfz20_0, hfz20_1, hfz20_2, hfz20_3⟩ := cel4 BK203.out; have hnb21 := NB201_199.out; have hnc21 := NB199_201.out; have hnb22 := NB201_200.out; have hnc22 := NB200_201.out; obtain ⟨hcz23_0, hcz23_1, hcz23_2, hcz23_3, hcz23_4, hcz23_5, hfz23_0, hfz23_1, hfz23_2, hfz23_3, hfz23_4, hfz23_5⟩ := cel6 BK201.out) | ((with_reducible refine gate_builtin (b := .append) (xs := #[.tmp 25, .tmp 35]) rfl ?_); at_builtin; refine Kd.R_append k85 (w0 := w) w.heap.size rfl (.tmp 25) (.tmp 35) 69 85 (.agg #[(.int .i64 0), (.int .i64 0), (.int .i64 0), (.int .i64 0)]) 32 rfl Tryd.underlying69 info85 rfl (by decide) (by omega) u202005 x202005_1 (⟨(rd_T64 l0_5 x20_1).f0, (rd_T64 l0_5 x20_1).f1, (rd_T64 l0_5 x20_1).f2, (rd_T64 l0_5 x20_1).f3⟩ : S85) [.int .i64 ((rd_T64 l0_5 x20_1).f0), .int .i64 ((rd_T64 l0_5 x20_1).f1), .int .i64 ((rd_T64 l0_5 x20_1).f2), .int .i64 ((rd_T64 l0_5 x20_1).f3)] (fun _ => True) (fun _ => False) rfl (by first | (go_simp; done) | (go_simp; rfl)) ?aP (fun _ hk => hk.elim) ?aF ?aO ?aB ?aS ?aL ?_; (case aP => exact k85_mkM _ _ _ (⟨(rd_T64 l0_5 x20_1).f0, (rd_T64 l0_5 x20_1).f1, (rd_T64 l0_5 x20_1).f2, (rd_T64 l0_5 x20_1).f3⟩ : S85)); (case aB => exact (by with_reducible repeat first | exact HB.out | apply bAA | apply bNN | apply bDD | refine bSS ?_ GE199.out | refine bSS ?_ GE200.out | refine bSS ?_ GE201.out | refine bSS ?_ GE203.out)); (case aF => exact (fun _ _ => trivial)); (case aO => exact (by (with_reducible repeat (first | apply Kd.R_alloc | apply Kd.R_drewN | apply Kd.R_drew)); exact Kd.R_mono (Kd.farR4 (Kd.R_types HO_202005.out BK203.out (by decide)) (fun _ hk => hk.2)) (fun _ hk => trivial))); (case aS => exact (bZZ (by with_reducible repeat first | exact HB.out | apply bAA | apply bNN | apply bDD | refine bSS ?_ GE199.out | refine bSS ?_ GE200.out | refine bSS ?_ GE201.out | refine bSS ?_ GE203.out))); (case aL => have := LMc15.out; omega); intro v205 w24 ho hb hg hat; rw [← Ny204.out] at ho; have n0_ := Azz.mk (blk_grown (g := gb199) (o := .cells #[.string a0_0, .int .i64 a0_1, .bool a0_2, .int .i64 a0_3, .string a0_4, .slice (some ad202) l0_5.length c0_5] 36 (0, 0)) (by refine far4 NB199_203.out ?_; (with_reducible repeat first | apply kNN | apply kDD | apply kAA); exact BK199.out) hg (Kd.R_ne HO_202005.out BK199.out (by decide))); have n1_ := Azz.mk (blk_grown (g := gb200) (o := .cells #[.string (⟨#[]⟩ : ByteArray), .int .i64 0, .bool false, .int .i64 0, .string (⟨#[]⟩ : ByteArray), .slice none 0 0] 71 (0, 0)) (by refine far4 NB200_203.out ?_; (with_reducible repeat first | apply kNN | apply kDD | apply kAA); exact BK200.out) hg (Kd.R_ne HO_202005.out BK200.out (by decide))); have n2_ := Azz.mk (blk_grown (g := gb201) (o := .cells #[.string a0_0, .int .i64 a0_1, .bool a0_2, .int .i64 a0_3, .string a0_4, u202005] 71 (0, 0)) (by refine far4 NB201_203.out ?_; (with_reducible repeat first | apply kNN | apply kDD | apply kAA); exact BK201.out) hg (Kd.R_ne HO_202005.out BK201.out (by decide))); have n3_ := Azz.mk (blk_grown (g := gb203) (o := .cells #[.int .i64 ((rd_T64 l0_5 x20_1).f0), .int .i64 ((rd_T64 l0_5 x20_1).f1), .int .i64 ((rd_T64 l0_5 x20_1).f2), .int .i64 ((rd_T64 l0_5 x20_1).f3)] 64 (0, 0)) (by apply put4; (with_reducible repeat first | apply kNN | apply kDD | apply kAA); exact BK203.out) hg (Kd.R_ne HO_202005.out BK203.out (by decide))); have n4_ := Azz.mk (hb); have n5_ := Azz.mk (ho); clear BK199; clear BK200; clear BK201; clear BK203; clear HB; clear HO_202005; have BK199 := n0_; have BK200 := n1_; have BK201 := n2_; have BK203 := n3_; have HB := n4_; have HO206 := n5_; clear n0_ n1_ n2_ n3_ n4_ n5_; clear ho hb hg hat; obtain ⟨Ao25, co25, eo25⟩ := Kd.R_slice HO206.out; subst eo25; obtain ⟨hcz26_0, hcz26_1, hcz26_2, hcz26_3, hcz26_4, hcz26_5, hfz26_0, hfz26_1, hfz26_2, hfz26_3, hfz26_4, hfz26_5⟩ := cel6 BK201.out))
       go_roundg k1
       case measure => have := HK1.out; omega
       case rel => exact ⟨(wrap64 (x20_1 + 1)), (y204), (.slice Ao25 y204.length co25), (by first | rfl | (simp; done) | (simp [*]; done)), H', ⟨by have := HK1.out; omega⟩, ⟨by (with_reducible repeat (first | apply Kd.R_alloc | apply Kd.R_drewN | apply Kd.R_drew)); exact Kd.R_mono (Kd.farR1 (Kd.R_types HO206.out BK201.out (by decide)) (fun _ hk => hk.2)) (fun _ hk => trivial)⟩, ⟨by (with_reducible repeat first | apply kNN | apply kDD | apply kAA); refine blk_far ?_ NB199_201.out _; (with_reducible repeat first | apply kNN | apply kDD | apply kAA); exact BK199.out⟩, ⟨by (with_reducible repeat first | apply kNN | apply kDD | apply kAA); refine blk_far ?_ NB200_201.out _; (with_reducible repeat first | apply kNN | apply kDD | apply kAA); exact BK200.out⟩, ⟨by (with_reducible repeat first | apply kNN | apply kDD | apply kAA); refine blk_put (cs := #[.string a0_0, .int .i64 a0_1, .bool a0_2, .int .i64 a0_3, .string a0_4, u202005]) ?_ 5 _ rfl; (with_reducible repeat first | apply kNN | apply kDD | apply kAA); exact BK201.out⟩, ⟨by repeat (first | (with_reducible first | exact HB.out | apply bAA | apply bNN | apply bDD | refine bSS ?_ GE199.out | refine bSS ?_ GE200.out | refine bSS ?_ GE201.out | refine bSS ?_ GE203.out) | exact HB.out)⟩⟩
      ·rw [if_neg c15] at H
       exact absurd H (by simp)
     ·rw [if_neg c14] at H
      exact absurd H (by simp)
    ·rw [if_neg c13] at H
     exact absurd H (by simp)
   ·rw [if_neg c12] at H
    have c12b0 := decide_eq_false c12
    clear c12
    simp only [Option.some.injEq, Prod.mk.injEq] at H
    obtain ⟨rfl, rfl, rfl, rfl, rfl, rfl⟩ := H
    have hnb27 := NB201_199.out
    have hnc27 := NB199_201.out
    have hnb28 := NB201_200.out
    have hnc28 := NB200_201.out
    obtain ⟨hcz29_0, hcz29_1, hcz29_2, hcz29_3, hcz29_4, hcz29_5, hfz29_0, hfz29_1, hfz29_2, hfz29_3, hfz29_4, hfz29_5⟩ := cel6 BK201.out
    have hnb30 := NB200_199.out
    have hnc30 := NB199_200.out
    obtain ⟨hcz31_0, hcz31_1, hcz31_2, hcz31_3, hcz31_4, hcz31_5, hfz31_0, hfz31_1, hfz31_2, hfz31_3, hfz31_4, hfz31_5⟩ := cel6 BK200.out
    obtain ⟨Ao32, co32, eo32⟩ := Kd.R_slice HO_202005.out
    subst eo32
    go_wp2_with (first | ((with_reducible refine gate_store (t := 71) (p := 2) rfl ?_); refine store_event (t := 71) (p := 2) (v := ?vo_w33) (w1 := ((((((wr.setCell ⟨gb200, 0, none⟩ (.string a0_0)).setCell ⟨gb200, 1, none⟩ (.int .i64 a0_1)).setCell ⟨gb200, 2, none⟩ (.bool a0_2)).setCell ⟨gb200, 3, none⟩ (.int .i64 a0_3)).setCell ⟨gb200, 4, none⟩ (.string a0_4)).setCell ⟨gb200, 5, none⟩ (.slice Ao32 x202005_1.length co32))) ?hg ?ho ?hn ?hr ?_; (case ho => rfl); (case hg => rfl); (case hn => rfl); (case hr => first | (go_simp; done) | (go_simp; rfl)); intro w33 hw; have n0_ : Azz (Kd.R k85 85 w33 w.heap.size (fun _ => True) (.slice Ao32 x202005_1.length co32) x202005_1) := ⟨(by rw [hw]; exact (by (with_reducible repeat (first | apply Kd.R_alloc | apply Kd.R_drewN | apply Kd.R_drew)); exact Kd.R_mono (Kd.farR6 (Kd.R_types HO_202005.out BK200.out (by decide)) (fun _ hk => hk.2)) (fun _ hk => trivial)))⟩; have n1_ : Azz (w33.heap[gb199]? = some (.cells #[.string a0_0, .int .i64 a0_1, .bool a0_2, .int .i64 a0_3, .string a0_4, .slice A0_5 l0_5.length c0_5] 36 (0, 0))) := ⟨(by rw [hw]; exact (by refine far6 NB199_200.out ?_; (with_reducible repeat first | apply kNN | apply kDD | apply kAA); exact BK199.out))⟩; have n2_ : Azz (w33.heap[gb200]? = some (.cells #[.string a0_0, .int .i64 a0_1, .bool a0_2, .int .i64 a0_3, .string a0_4, .slice Ao32 x202005_1.length co32] 71 (0, 0))) := ⟨(by rw [hw]; exact (by apply put6; (with_reducible repeat first | apply kNN | apply kDD | apply kAA); exact BK200.out))⟩; have n3_ : Azz (w33.heap[gb201]? = some (.cells #[.string a0_0, .int .i64 a0_1, .bool a0_2, .int .i64 a0_3, .string a0_4, .slice Ao32 x202005_1.length co32] 71 (0, 0))) := ⟨(by rw [hw]; exact (by refine far6 NB201_200.out ?_; (with_reducible repeat first | apply kNN | apply kDD | apply kAA); exact BK201.out))⟩; have n4_ : Azz (Below w.heap.size w w33) := ⟨(by rw [hw]; exact (by with_reducible repeat first | exact HB.out | apply bAA | apply bNN | apply bDD | refine bSS ?_ GE199.out | refine bSS ?_ GE200.out | refine bSS ?_ GE201.out))⟩; clear hw; clear HO_202005; clear BK199; clear BK200; clear BK201; clear HB; have HO_202005 := n0_; have BK199 := n1_; have BK200 := n2_; have BK201 := n3_; have HB := n4_; clear n0_ n1_ n2_ n3_ n4_))
    refine bodyPost_ret (results_cell_row rfl _ _ gb200 71 #[.string a0_0, .int .i64 a0_1, .bool a0_2, .int .i64 a0_3, .string a0_4, .slice Ao32 x202005_1.length co32] (0, 0) _ rfl (by (with_reducible repeat first | apply kNN | apply kDD | apply kAA); exact BK200.out) Tryd.underlying71 rfl (by kernel_rfl)) rfl ?_
    exact ⟨_, by first | rfl | (simp [eNN, eSS] <;> rfl) | (simp [*, eNN, eSS] <;> rfl), by (with_reducible repeat (first | apply Kd.R_alloc | apply Kd.R_drewN | apply Kd.R_drew)); exact HO_202005.out, by repeat (first | (with_reducible first | exact HB.out | apply bAA | apply bNN | apply bDD | refine bSS ?_ GE199.out | refine bSS ?_ GE200.out | refine bSS ?_ GE201.out) | exact HB.out)⟩
mutual
def graph_Is.l0 : Nat → List (S36) → List (S36) → Int → Int → Option (Bool)
 | 0, _, _, _, _ => none
 | k + 1, x0, x10, x11, x12 => if x12 < x11 then (if 0 ≤ x12 then (if x12 < (x10.length : Int) then ((graph_section.f k ((rd_T36 x10 x12).f0) ((rd_T36 x10 x12).f1) ((rd_T36 x10 x12).f2) ((rd_T36 x10 x12).f3) ((rd_T36 x10 x12).f4) ((rd_T36 x10 x12).f5)).bind fun bt209 => ((part_Is.f k bt209.1 bt209.2.1 bt209.2.2.1 bt209.2.2.2.1 bt209.2.2.2.2.1 bt209.2.2.2.2.2).bind fun t217 => (if t217 = true then (graph_Is.l1 k x0 x10 x11 x12 ((rd_T36 x10 x12).f5) (((rd_T36 x10 x12).f5).length : Int) 0) else (some false)))) else (none)) else (none)) else (some true)
def graph_Is.l1 : Nat → List (S36) → List (S36) → Int → Int → List (S64) → Int → Int → Option (Bool)
 | 0, _, _, _, _, _, _, _ => none
 | k + 1, x0, x10, x11, x12, x21, x22, x23 => if x23 < x22 then (if 0 ≤ x23 then (if x23 < (x21.length : Int) then (if ((rd_T64 x21 x23).f2) ≥ (x0.length : Int) then (some false) else (graph_Is.l1 k x0 x10 x11 x12 x21 x22 (wrap64 (x23 + 1)))) else (none)) else (none)) else (graph_Is.l0 k x0 x10 x11 (wrap64 (x12 + 1)))
end
def graph_Is.f (k : Nat) (l0 : List (S36)) : Option (Bool) := if (l0.length : Int) > 256 then (some false) else (graph_Is.l0 k l0 l0 (l0.length : Int) 0)
theorem graph_Is.mono_l : ∀ k, (∀ y0 y1 y2 y3, LeO (graph_Is.l0 k y0 y1 y2 y3) (graph_Is.l0 (k + 1) y0 y1 y2 y3)) ∧ (∀ y0 y1 y2 y3 y4 y5 y6, LeO (graph_Is.l1 k y0 y1 y2 y3 y4 y5 y6) (graph_Is.l1 (k + 1) y0 y1 y2 y3 y4 y5 y6))
 | 0 => ⟨fun _ _ _ _ r h => by simp [graph_Is.l0] at h, fun _ _ _ _ _ _ _ r h => by simp [graph_Is.l1] at h⟩
 | k + 1 => by
  obtain ⟨ih0, ih1⟩ := graph_Is.mono_l k
  refine ⟨?_, ?_⟩
  ·intro y0 y1 y2 y3
   unfold graph_Is.l0
   repeat' first
   | (with_reducible exact ih0 _ _ _ _)
   | (with_reducible exact ih1 _ _ _ _ _ _ _)
   | (with_reducible exact graph_section.mono _ _ _ _ _ _ _)
   | (with_reducible exact part_Is.mono _ _ _ _ _ _ _)
   | (with_reducible exact LeO.refl _)
   | (with_reducible exact LeO.none _)
   | (with_reducible refine LeO.ite ?_ ?_)
   | (with_reducible refine LeO.bind ?_ (fun _ => ?_))
  ·intro y0 y1 y2 y3 y4 y5 y6
   unfold graph_Is.l1
   repeat' first
   | (with_reducible exact ih0 _ _ _ _)
   | (with_reducible exact ih1 _ _ _ _ _ _ _)
   | (with_reducible exact graph_section.mono _ _ _ _ _ _ _)
   | (with_reducible exact part_Is.mono _ _ _ _ _ _ _)
   | (with_reducible exact LeO.refl _)
   | (with_reducible exact LeO.none _)
   | (with_reducible refine LeO.ite ?_ ?_)
   | (with_reducible refine LeO.bind ?_ (fun _ => ?_))
theorem graph_Is.mono : ∀ a0 k, LeO (graph_Is.f k a0) (graph_Is.f (k + 1) a0) := by
 intro a0 k
 obtain ⟨ih0, ih1⟩ := graph_Is.mono_l k
 unfold graph_Is.f
 repeat' first
  | (with_reducible exact ih0 _ _ _ _)
  | (with_reducible exact ih1 _ _ _ _ _ _ _)
  | (with_reducible exact graph_section.mono _ _ _ _ _ _ _)
  | (with_reducible exact part_Is.mono _ _ _ _ _ _ _)
  | (with_reducible exact LeO.refl _)
  | (with_reducible exact LeO.none _)
  | (with_reducible refine LeO.ite ?_ ?_)
  | (with_reducible refine LeO.bind ?_ (fun _ => ?_))
set_option maxHeartbeats 8000000 in
set_option maxRecDepth 100000 in
theorem graph_Is.calls (k : Nat) (A0 : Option Addr) (c0 : Nat) (l0 : List (S36)) (r : Bool) (w : World) (hG : Glob w) (hr0 : Kd.C k36 w A0 l0.length l0) (hc0 : l0.length ≤ c0) (h : graph_Is.f k l0 = some r) :
 Calls Tryd.prog 15 #[.slice A0 l0.length c0] w fun e w' => e = .returned (.bool r) ∧ Below w.heap.size w w' := by
 have hu36 := Tryd.underlying36
 have hu64 := Tryd.underlying64
 have HR0 := Azz.mk hr0
 have HC0 := Azz.mk hc0
 clear hr0 hc0
 have HB := Azz.mk (Below.refl w.heap.size w)
 have H : (if (l0.length : Int) > 256 then (some false) else (graph_Is.l0 k l0 l0 (l0.length : Int) 0)) = some r := h
 clear h
 by_cases c2 : (l0.length : Int) > 256
 ·rw [if_pos c2] at H
  have c2b0 := decide_eq_true c2
  have c2b1 : decide (256 < l0.length) = true := decide_eq_true (by omega)
  clear c2
  obtain rfl := Option.some.inj H
  go_enter Tryd.func15, Tryd.ntmps15
  go_wp2
  go_ret
  exact ⟨by first | rfl | (simp [eNN, eSS] <;> rfl) | (simp [*, eNN, eSS] <;> rfl), by repeat (first | (with_reducible first | exact HB.out | apply bAA | apply bNN | apply bDD) | exact HB.out)⟩
 ·rw [if_neg c2] at H
  have c2b0 := decide_eq_false c2
  have c2b1 : decide (256 < l0.length) = false := decide_eq_false (by omega)
  clear c2
  have H' := Azz.mk H
  clear H
  go_enter Tryd.func15, Tryd.ntmps15
  go_wp2
  go_loopg [12] k (fun kq v12 w' => ∃ (x12_1 : Int), v12 = .int .i64 x12_1 ∧ Azz (graph_Is.l0 kq l0 l0 (l0.length : Int) x12_1 = some r) ∧ Azz (kq ≤ k) ∧ Azz (Below w.heap.size w w'))
  case atStart => exact ⟨(0), (by first | rfl | (simp; done) | (simp [*]; done)), H', ⟨Nat.le_refl _⟩, ⟨by repeat (first | (with_reducible first | exact HB.out | apply bAA | apply bNN | apply bDD) | exact HB.out)⟩⟩
  case round =>
   clear H'
   try clear c1
   try clear c2
   try clear c2b0
   try clear c2b1
   try clear p2
   obtain ⟨x12_1, rfl, HA, HK1, HB⟩ := hrel
   cases gk with
   | zero => exact absurd HA.out (by simp [graph_Is.l0])
   | succ k1 =>
    have H := HA.out
    clear HA
    simp only [graph_Is.l0] at H
    by_cases c3 : x12_1 < (l0.length : Int)
    ·rw [if_pos c3] at H
     have c3b0 := decide_eq_true c3
     clear c3
     by_cases c4 : 0 ≤ x12_1
     ·rw [if_pos c4] at H
      have c4b0 := decide_eq_true c4
      clear c4
      by_cases c5 : x12_1 < (l0.length : Int)
      ·rw [if_pos c5] at H
       have c5b0 := decide_eq_true c5
       clear c5
       replace H := Option.bind_eq_some_iff.mp H
       obtain ⟨⟨t209, t210, t211, t212, t213, t214⟩, A60, H⟩ := H
       (try dsimp only at H)
       have A6 := Azz.mk A60
       clear A60
       replace H := Option.bind_eq_some_iff.mp H
       obtain ⟨t217, A70, H⟩ := H
       (try dsimp only at H)
       have A7 := Azz.mk A70
       clear A70
       by_cases c8 : t217 = true
       ·subst c8
        rw [if_pos rfl] at H
        have H' := Azz.mk H
        clear H
        have p207 : 0 ≤ (x12_1 : Int) := of_decide_eq_true (by first | (with_reducible assumption) | assumption)
        have q207 : x12_1 < (l0.length : Int) := of_decide_eq_true (by first | (with_reducible assumption) | assumption)
        obtain ⟨ad207, A207_5, c207_5, e207, hx207_0, hx207_1, hx207_2, hx207_3, hx207_4, hx207_5, hl207_5, hi207_5⟩ := at_T36 HR0.out x12_1 p207 q207
        cases e207
        replace hx207_0 := (HB.out.cell (World.block_lt_of_cell? w _ hx207_0)).trans hx207_0
        replace hx207_1 := (HB.out.cell (World.block_lt_of_cell? w _ hx207_1)).trans hx207_1
        replace hx207_2 := (HB.out.cell (World.block_lt_of_cell? w _ hx207_2)).trans hx207_2
        replace hx207_3 := (HB.out.cell (World.block_lt_of_cell? w _ hx207_3)).trans hx207_3
        replace hx207_4 := (HB.out.cell (World.block_lt_of_cell? w _ hx207_4)).trans hx207_4
        replace hx207_5 := (HB.out.cell (World.block_lt_of_cell? w _ hx207_5)).trans hx207_5
        have HR207_5 := Azz.mk hi207_5
        have HC207_5 := Azz.mk hl207_5
        clear hi207_5 hl207_5
        replace p207 := eq_true p207
        replace q207 := eq_true q207
        go_wp2_with (first | ((with_reducible refine gate_dst (N := 4) rfl ?_); refine box_event ?hg (N := 4) ?hd (cs := #[.string (⟨#[]⟩ : ByteArray), .int .i64 0, .bool false, .int .i64 0, .string (⟨#[]⟩ : ByteArray), .slice none 0 0]) (t := 36) ?hr ?_; (case hd => rfl); (case hg => rfl); (case hr => first | (go_simp; done) | (go_simp; rfl)); intro gb208 hg w9 hbox hb; have n0_ := Azz.mk (bTT (by with_reducible repeat first | exact HB.out | apply bAA | apply bNN | apply bDD) hb); have n1_ := Azz.mk (hbox); have n2_ := Azz.mk ((by rw [hg]; exact (bZZ (by with_reducible repeat first | exact HB.out | apply bAA | apply bNN | apply bDD)) : w.heap.size ≤ gb208)); have n3_ := Azz.mk ((by rw [hg]; exact (bZZ (by with_reducible repeat first | exact HB.out | apply bAA | apply bNN | apply bDD)) : w.heap.size ≤ gb208)); clear HB; have HB := n0_; have BK208 := n1_; have GW208 := n2_; have GE208 := n3_; clear n0_ n1_ n2_ n3_; clear hb hbox hg; obtain ⟨hcz10_0, hcz10_1, hcz10_2, hcz10_3, hcz10_4, hcz10_5, hfz10_0, hfz10_1, hfz10_2, hfz10_3, hfz10_4, hfz10_5⟩ := cel6 BK208.out) | ((with_reducible refine gate_store (t := 36) (p := 4) rfl ?_); refine store_event (t := 36) (p := 4) (v := ?vo_w11) (w1 := ((((((w9.setCell ⟨gb208, 0, none⟩ (.string ((rd_T36 l0 x12_1).f0))).setCell ⟨gb208, 1, none⟩ (.int .i64 ((rd_T36 l0 x12_1).f1))).setCell ⟨gb208, 2, none⟩ (.bool ((rd_T36 l0 x12_1).f2))).setCell ⟨gb208, 3, none⟩ (.int .i64 ((rd_T36 l0 x12_1).f3))).setCell ⟨gb208, 4, none⟩ (.string ((rd_T36 l0 x12_1).f4))).setCell ⟨gb208, 5, none⟩ (.slice A207_5 ((rd_T36 l0 x12_1).f5).length c207_5))) ?hg ?ho ?hn ?hr ?_; (case ho => rfl); (case hg => rfl); (case hn => rfl); (case hr => first | (go_simp; done) | (go_simp; rfl)); intro w11 hw; have n0_ : Azz (w11.heap[gb208]? = some (.cells #[.string ((rd_T36 l0 x12_1).f0), .int .i64 ((rd_T36 l0 x12_1).f1), .bool ((rd_T36 l0 x12_1).f2), .int .i64 ((rd_T36 l0 x12_1).f3), .string ((rd_T36 l0 x12_1).f4), .slice A207_5 ((rd_T36 l0 x12_1).f5).length c207_5] 36 (0, 0))) := ⟨(by rw [hw]; exact (by apply put6; (with_reducible repeat first | apply kNN | apply kDD | apply kAA); exact BK208.out))⟩; have n1_ : Azz (Below w.heap.size w w11) := ⟨(by rw [hw]; exact (by with_reducible repeat first | exact HB.out | apply bAA | apply bNN | apply bDD | refine bSS ?_ GE208.out))⟩; clear hw; clear BK208; clear HB; have BK208 := n0_; have HB := n1_; clear n0_ n1_; obtain ⟨hcz12_0, hcz12_1, hcz12_2, hcz12_3, hcz12_4, hcz12_5, hfz12_0, hfz12_1, hfz12_2, hfz12_3, hfz12_4, hfz12_5⟩ := cel6 BK208.out) | ((with_reducible refine gate_callee (f := 38) rfl ?_); refine goesL_ (some 17) rfl rfl Tryd.func38 (by kernel_rfl) rfl #[.agg #[.string ((rd_T36 l0 x12_1).f0), .int .i64 ((rd_T36 l0 x12_1).f1), .bool ((rd_T36 l0 x12_1).f2), .int .i64 ((rd_T36 l0 x12_1).f3), .string ((rd_T36 l0 x12_1).f4), .slice A207_5 ((rd_T36 l0 x12_1).f5).length c207_5]] rfl (by (try simp only [List.map_toArray, List.map_cons, List.map_nil]); first | done | rfl | (simp only [List.length_drop, List.length_take]; rfl)) ?_; (with_reducible refine (graph_section.calls k1 ((rd_T36 l0 x12_1).f0) ((rd_T36 l0 x12_1).f1) ((rd_T36 l0 x12_1).f2) ((rd_T36 l0 x12_1).f3) ((rd_T36 l0 x12_1).f4) _ _ ((rd_T36 l0 x12_1).f5) t209 t210 t211 t212 t213 t214 _ ?side1 ?side2 A6.out).mono ?_); (case side1 => repeat (first | exact (Kd.C_below HR207_5.out HB.out) | (with_reducible refine Kd.C_alloc ?_ _) | (with_reducible refine Kd.C_drewN ?_ _) | (with_reducible refine Kd.C_drew ?_))); (case side2 => exact HC207_5.out); rintro e w13 ⟨v215, rfl, ho0, hb⟩; refine ⟨_, rfl, ?_⟩; have n0_ := Azz.mk (Kd.R_lower ho0 (bZZ (by with_reducible repeat first | exact HB.out | apply bAA | apply bNN | apply bDD | refine bSS ?_ GE208.out))); have n1_ := Azz.mk (blk_b hb BK208.out); have n2_ := Azz.mk (bTT (by with_reducible repeat first | exact HB.out | apply bAA | apply bNN | apply bDD | refine bSS ?_ GE208.out) hb); clear BK208; clear HB; have HO216 := n0_; have BK208 := n1_; have HB := n2_; clear n0_ n1_ n2_; (try clear hb); (try clear hb2); (try clear hk); (try clear hi); (try clear ho0); obtain ⟨Ao14, co14, eo14⟩ := Kd.R_slice HO216.out; subst eo14) | ((with_reducible refine gate_callee (f := 37) rfl ?_); refine goesL_ (some 18) rfl rfl Tryd.func37 (by kernel_rfl) rfl #[.agg #[.string t209, .int .i64 t210, .bool t211, .int .i64 t212, .string t213, .slice Ao14 t214.length co14]] rfl (by (try simp only [List.map_toArray, List.map_cons, List.map_nil]); first | done | rfl | (simp only [List.length_drop, List.length_take]; rfl)) ?_; (with_reducible refine (part_Is.calls k1 t209 t210 t211 t212 t213 _ _ t214 true _ ?side3 ?side1 ?side2 A7.out).mono ?_); (case side1 => repeat (first | exact (Kd.R_reads' HO216.out).2.2 | (with_reducible refine Kd.C_alloc ?_ _) | (with_reducible refine Kd.C_drewN ?_ _) | (with_reducible refine Kd.C_drew ?_))); (case side2 => exact (Kd.R_reads' HO216.out).2.1); (case side3 => exact Glob.below hG (by with_reducible repeat first | exact HB.out | apply bAA | apply bNN | apply bDD | refine bSS ?_ GE208.out)); rintro e w15 ⟨rfl, hb⟩; refine ⟨_, rfl, ?_⟩; have n0_ := Azz.mk (Kd.R_below (by (with_reducible repeat (first | apply Kd.R_alloc | apply Kd.R_drewN | apply Kd.R_drew)); exact HO216.out) hb); have n1_ := Azz.mk (blk_b hb BK208.out); have n2_ := Azz.mk (bTT (by with_reducible repeat first | exact HB.out | apply bAA | apply bNN | apply bDD | refine bSS ?_ GE208.out) hb); clear HO216; clear BK208; clear HB; have HO216 := n0_; have BK208 := n1_; have HB := n2_; clear n0_ n1_ n2_; (try clear hb); (try clear hb2); (try clear hk); (try clear hi); obtain ⟨hcz16_0, hcz16_1, hcz16_2, hcz16_3, hcz16_4, hcz16_5, hfz16_0, hfz16_1, hfz16_2, hfz16_3, hfz16_4, hfz16_5⟩ := cel6 BK208.out))
        go_loopg [23] k1 (fun kq v23 w' => ∃ (x23_2 : Int), v23 = .int .i64 x23_2 ∧ Azz (graph_Is.l1 kq l0 l0 (l0.length : Int) x12_1 ((rd_T36 l0 x12_1).f5) (((rd_T36 l0 x12_1).f5).length : Int) x23_2 = some r) ∧ Azz (kq ≤ k1) ∧ Azz (w'.heap[gb208]? = some (.cells #[.string ((rd_T36 l0 x12_1).f0), .int .i64 ((rd_T36 l0 x12_1).f1), .bool ((rd_T36 l0 x12_1).f2), .int .i64 ((rd_T36 l0 x12_1).f3), .string ((rd_T36 l0 x12_1).f4), (.slice A207_5 ((rd_T36 l0 x12_1).f5).length c207_5)] 36 (0, 0))) ∧ Azz (Below w.heap.size w w'))
        case atStart => exact ⟨(0), (by first | rfl | (simp; done) | (simp [*]; done)), H', ⟨Nat.le_refl _⟩, ⟨by (with_reducible repeat first | apply kNN | apply kDD | apply kAA); exact BK208.out⟩, ⟨by repeat (first | (with_reducible first | exact HB.out | apply bAA | apply bNN | apply bDD | refine bSS ?_ GE208.out) | exact HB.out)⟩⟩
        case round =>
         clear H'
         try clear c1
         try clear c2
         try clear c2b0
         try clear c2b1
         try clear p2
         try clear q2
         try clear hx2
         try clear c3
         try clear c3b0
         try clear c4
         try clear c4b0
         try clear c5
         try clear c5b0
         try clear c8
         try clear c15
         try clear hx207_0
         try clear hx207_1
         try clear hx207_2
         try clear hx207_3
         try clear hx207_4
         try clear hx207_5
         try clear p2
         try clear p207
         try clear q207
         try clear hcz10_0 hcz10_1 hcz10_2 hcz10_3 hcz10_4 hcz10_5 hcz12_0 hcz12_1 hcz12_2 hcz12_3 hcz12_4 hcz12_5 hcz16_0 hcz16_1 hcz16_2 hcz16_3 hcz16_4 hcz16_5 hfz10_0 hfz10_1 hfz10_2 hfz10_3 hfz10_4 hfz10_5 hfz12_0 hfz12_1 hfz12_2 hfz12_3 hfz12_4 hfz12_5 hfz16_0 hfz16_1 hfz16_2 hfz16_3 hfz16_4 hfz16_5
         obtain ⟨x23_2, rfl, HA, HK2, BK208, HB⟩ := hrel
         cases gk with
         | zero => exact absurd HA.out (by simp [graph_Is.l1])
         | succ k2 =>
          have H := HA.out
          clear HA
          simp only [graph_Is.l1] at H
          by_cases c17 : x23_2 < (((rd_T36 l0 x12_1).f5).length : Int)
          ·rw [if_pos c17] at H
           have c17b0 := decide_eq_true c17
           clear c17
           by_cases c18 : 0 ≤ x23_2
           ·rw [if_pos c18] at H
            have c18b0 := decide_eq_true c18
            clear c18
            by_cases c19 : x23_2 < (((rd_T36 l0 x12_1).f5).length : Int)
            ·rw [if_pos c19] at H
             have c19b0 := decide_eq_true c19
             clear c19
             by_cases c20 : ((rd_T64 ((rd_T36 l0 x12_1).f5) x23_2).f2) ≥ (l0.length : Int)
             ·rw [if_pos c20] at H
              have c20b0 := decide_eq_true c20
              clear c20
              obtain rfl := Option.some.inj H
              have p218 : 0 ≤ (x23_2 : Int) := of_decide_eq_true (by first | (with_reducible assumption) | assumption)
              have q218 : x23_2 < (((rd_T36 l0 x12_1).f5).length : Int) := of_decide_eq_true (by first | (with_reducible assumption) | assumption)
              obtain ⟨ad218, e218, hx218_0, hx218_1, hx218_2, hx218_3⟩ := at_T64 HR207_5.out x23_2 p218 q218
              cases e218
              replace hx218_0 := (HB.out.cell (World.block_lt_of_cell? w _ hx218_0)).trans hx218_0
              replace hx218_1 := (HB.out.cell (World.block_lt_of_cell? w _ hx218_1)).trans hx218_1
              replace hx218_2 := (HB.out.cell (World.block_lt_of_cell? w _ hx218_2)).trans hx218_2
              replace hx218_3 := (HB.out.cell (World.block_lt_of_cell? w _ hx218_3)).trans hx218_3
              replace p218 := eq_true p218
              replace q218 := eq_true q218
              go_wp2_with (first | ((with_reducible refine gate_dst (N := 6) rfl ?_); refine box_event ?hg (N := 6) ?hd (cs := #[.int .i64 0, .int .i64 0, .int .i64 0, .int .i64 0]) (t := 64) ?hr ?_; (case hd => rfl); (case hg => rfl); (case hr => first | (go_simp; done) | (go_simp; rfl)); intro gb219 hg w21 hbox hb; have n0_ := Azz.mk (blk_b hb BK208.out); have n1_ := Azz.mk (bTT (by with_reducible repeat first | exact HB.out | apply bAA | apply bNN | apply bDD | refine bSS ?_ GE208.out) hb); have n2_ := Azz.mk (hbox); have n3_ := Azz.mk ((by rw [hg]; exact (bZZ (by with_reducible repeat first | exact HB.out | apply bAA | apply bNN | apply bDD | refine bSS ?_ GE208.out)) : w.heap.size ≤ gb219)); have n4_ := Azz.mk ((by rw [hg]; exact (bZZ (by with_reducible repeat first | exact HB.out | apply bAA | apply bNN | apply bDD | refine bSS ?_ GE208.out)) : w.heap.size ≤ gb219)); have n5_ := Azz.mk ((by rw [hg]; exact Nat.ne_of_lt (blk_lt BK208.out) : gb208 ≠ gb219)); have n6_ := Azz.mk ((by rw [hg]; exact Nat.ne_of_gt (blk_lt BK208.out) : gb219 ≠ gb208)); clear BK208; clear HB; have BK208 := n0_; have HB := n1_; have BK219 := n2_; have GW219 := n3_; have GE219 := n4_; have NB208_219 := n5_; have NB219_208 := n6_; clear n0_ n1_ n2_ n3_ n4_ n5_ n6_; clear hb hbox hg; have hnb22 := NB219_208.out; have hnc22 := NB208_219.out; obtain ⟨hcz23_0, hcz23_1, hcz23_2, hcz23_3, hfz23_0, hfz23_1, hfz23_2, hfz23_3⟩ := cel4 BK219.out))
              go_ret
              exact ⟨by first | rfl | (simp [eNN, eSS] <;> rfl) | (simp [*, eNN, eSS] <;> rfl), by repeat (first | (with_reducible first | exact HB.out | apply bAA | apply bNN | apply bDD | refine bSS ?_ GE208.out | refine bSS ?_ GE219.out) | exact HB.out)⟩
             ·rw [if_neg c20] at H
              have c20b0 := decide_eq_false c20
              clear c20
              have H' := Azz.mk H
              clear H
              have p218 : 0 ≤ (x23_2 : Int) := of_decide_eq_true (by first | (with_reducible assumption) | assumption)
              have q218 : x23_2 < (((rd_T36 l0 x12_1).f5).length : Int) := of_decide_eq_true (by first | (with_reducible assumption) | assumption)
              obtain ⟨ad218, e218, hx218_0, hx218_1, hx218_2, hx218_3⟩ := at_T64 HR207_5.out x23_2 p218 q218
              cases e218
              replace hx218_0 := (HB.out.cell (World.block_lt_of_cell? w _ hx218_0)).trans hx218_0
              replace hx218_1 := (HB.out.cell (World.block_lt_of_cell? w _ hx218_1)).trans hx218_1
              replace hx218_2 := (HB.out.cell (World.block_lt_of_cell? w _ hx218_2)).trans hx218_2
              replace hx218_3 := (HB.out.cell (World.block_lt_of_cell? w _ hx218_3)).trans hx218_3
              replace p218 := eq_true p218
              replace q218 := eq_true q218
              go_wp2_with (first | ((with_reducible refine gate_dst (N := 6) rfl ?_); refine box_event ?hg (N := 6) ?hd (cs := #[.int .i64 0, .int .i64 0, .int .i64 0, .int .i64 0]) (t := 64) ?hr ?_; (case hd => rfl); (case hg => rfl); (case hr => first | (go_simp; done) | (go_simp; rfl)); intro gb219 hg w24 hbox hb; have n0_ := Azz.mk (blk_b hb BK208.out); have n1_ := Azz.mk (bTT (by with_reducible repeat first | exact HB.out | apply bAA | apply bNN | apply bDD | refine bSS ?_ GE208.out) hb); have n2_ := Azz.mk (hbox); have n3_ := Azz.mk ((by rw [hg]; exact (bZZ (by with_reducible repeat first | exact HB.out | apply bAA | apply bNN | apply bDD | refine bSS ?_ GE208.out)) : w.heap.size ≤ gb219)); have n4_ := Azz.mk ((by rw [hg]; exact (bZZ (by with_reducible repeat first | exact HB.out | apply bAA | apply bNN | apply bDD | refine bSS ?_ GE208.out)) : w.heap.size ≤ gb219)); have n5_ := Azz.mk ((by rw [hg]; exact Nat.ne_of_lt (blk_lt BK208.out) : gb208 ≠ gb219)); have n6_ := Azz.mk ((by rw [hg]; exact Nat.ne_of_gt (blk_lt BK208.out) : gb219 ≠ gb208)); clear BK208; clear HB; have BK208 := n0_; have HB := n1_; have BK219 := n2_; have GW219 := n3_; have GE219 := n4_; have NB208_219 := n5_; have NB219_208 := n6_; clear n0_ n1_ n2_ n3_ n4_ n5_ n6_; clear hb hbox hg; have hnb25 := NB219_208.out; have hnc25 := NB208_219.out; obtain ⟨hcz26_0, hcz26_1, hcz26_2, hcz26_3, hfz26_0, hfz26_1, hfz26_2, hfz26_3⟩ := cel4 BK219.out))
              go_roundg k2
              case measure => have := HK1.out; have := HK2.out; omega
              case rel => exact ⟨(wrap64 (x23_2 + 1)), (by first | rfl | (simp; done) | (simp [*]; done)), H', ⟨by have := HK1.out; have := HK2.out; omega⟩, ⟨by (with_reducible repeat first | apply kNN | apply kDD | apply kAA); refine blk_far ?_ NB208_219.out _; (with_reducible repeat first | apply kNN | apply kDD | apply kAA); refine blk_far ?_ NB208_219.out _; (with_reducible repeat first | apply kNN | apply kDD | apply kAA); refine blk_far ?_ NB208_219.out _; (with_reducible repeat first | apply kNN | apply kDD | apply kAA); refine blk_far ?_ NB208_219.out _; (with_reducible repeat first | apply kNN | apply kDD | apply kAA); exact BK208.out⟩, ⟨by repeat (first | (with_reducible first | exact HB.out | apply bAA | apply bNN | apply bDD | refine bSS ?_ GE208.out | refine bSS ?_ GE219.out) | exact HB.out)⟩⟩
            ·rw [if_neg c19] at H
             exact absurd H (by simp)
           ·rw [if_neg c18] at H
            exact absurd H (by simp)
          ·rw [if_neg c17] at H
           have c17b0 := decide_eq_false c17
           clear c17
           have H' := Azz.mk H
           clear H
           go_wp2
           go_roundg k2
           case measure => have := HK1.out; have := HK2.out; omega
           case rel => exact ⟨(wrap64 (x12_1 + 1)), (by first | rfl | (simp; done) | (simp [*]; done)), H', ⟨by have := HK1.out; have := HK2.out; omega⟩, ⟨by repeat (first | (with_reducible first | exact HB.out | apply bAA | apply bNN | apply bDD | refine bSS ?_ GE208.out) | exact HB.out)⟩⟩
       ·replace c8 := Bool.eq_false_iff.mpr c8
        subst c8
        rw [if_neg (show ¬ (false = true) by decide)] at H
        obtain rfl := Option.some.inj H
        have p207 : 0 ≤ (x12_1 : Int) := of_decide_eq_true (by first | (with_reducible assumption) | assumption)
        have q207 : x12_1 < (l0.length : Int) := of_decide_eq_true (by first | (with_reducible assumption) | assumption)
        obtain ⟨ad207, A207_5, c207_5, e207, hx207_0, hx207_1, hx207_2, hx207_3, hx207_4, hx207_5, hl207_5, hi207_5⟩ := at_T36 HR0.out x12_1 p207 q207
        cases e207
        replace hx207_0 := (HB.out.cell (World.block_lt_of_cell? w _ hx207_0)).trans hx207_0
        replace hx207_1 := (HB.out.cell (World.block_lt_of_cell? w _ hx207_1)).trans hx207_1
        replace hx207_2 := (HB.out.cell (World.block_lt_of_cell? w _ hx207_2)).trans hx207_2
        replace hx207_3 := (HB.out.cell (World.block_lt_of_cell? w _ hx207_3)).trans hx207_3
        replace hx207_4 := (HB.out.cell (World.block_lt_of_cell? w _ hx207_4)).trans hx207_4
        replace hx207_5 := (HB.out.cell (World.block_lt_of_cell? w _ hx207_5)).trans hx207_5
        have HR207_5 := Azz.mk hi207_5
        have HC207_5 := Azz.mk hl207_5
        clear hi207_5 hl207_5
        replace p207 := eq_true p207
        replace q207 := eq_true q207
        go_wp2_with (first | ((with_reducible refine gate_dst (N := 4) rfl ?_); refine box_event ?hg (N := 4) ?hd (cs := #[.string (⟨#[]⟩ : ByteArray), .int .i64 0, .bool false, .int .i64 0, .string (⟨#[]⟩ : ByteArray), .slice none 0 0]) (t := 36) ?hr ?_; (case hd => rfl); (case hg => rfl); (case hr => first | (go_simp; done) | (go_simp; rfl)); intro gb208 hg w27 hbox hb; have n0_ := Azz.mk (bTT (by with_reducible repeat first | exact HB.out | apply bAA | apply bNN | apply bDD) hb); have n1_ := Azz.mk (hbox); have n2_ := Azz.mk ((by rw [hg]; exact (bZZ (by with_reducible repeat first | exact HB.out | apply bAA | apply bNN | apply bDD)) : w.heap.size ≤ gb208)); have n3_ := Azz.mk ((by rw [hg]; exact (bZZ (by with_reducible repeat first | exact HB.out | apply bAA | apply bNN | apply bDD)) : w.heap.size ≤ gb208)); clear HB; have HB := n0_; have BK208 := n1_; have GW208 := n2_; have GE208 := n3_; clear n0_ n1_ n2_ n3_; clear hb hbox hg; obtain ⟨hcz28_0, hcz28_1, hcz28_2, hcz28_3, hcz28_4, hcz28_5, hfz28_0, hfz28_1, hfz28_2, hfz28_3, hfz28_4, hfz28_5⟩ := cel6 BK208.out) | ((with_reducible refine gate_store (t := 36) (p := 4) rfl ?_); refine store_event (t := 36) (p := 4) (v := ?vo_w29) (w1 := ((((((w27.setCell ⟨gb208, 0, none⟩ (.string ((rd_T36 l0 x12_1).f0))).setCell ⟨gb208, 1, none⟩ (.int .i64 ((rd_T36 l0 x12_1).f1))).setCell ⟨gb208, 2, none⟩ (.bool ((rd_T36 l0 x12_1).f2))).setCell ⟨gb208, 3, none⟩ (.int .i64 ((rd_T36 l0 x12_1).f3))).setCell ⟨gb208, 4, none⟩ (.string ((rd_T36 l0 x12_1).f4))).setCell ⟨gb208, 5, none⟩ (.slice A207_5 ((rd_T36 l0 x12_1).f5).length c207_5))) ?hg ?ho ?hn ?hr ?_; (case ho => rfl); (case hg => rfl); (case hn => rfl); (case hr => first | (go_simp; done) | (go_simp; rfl)); intro w29 hw; have n0_ : Azz (w29.heap[gb208]? = some (.cells #[.string ((rd_T36 l0 x12_1).f0), .int .i64 ((rd_T36 l0 x12_1).f1), .bool ((rd_T36 l0 x12_1).f2), .int .i64 ((rd_T36 l0 x12_1).f3), .string ((rd_T36 l0 x12_1).f4), .slice A207_5 ((rd_T36 l0 x12_1).f5).length c207_5] 36 (0, 0))) := ⟨(by rw [hw]; exact (by apply put6; (with_reducible repeat first | apply kNN | apply kDD | apply kAA); exact BK208.out))⟩; have n1_ : Azz (Below w.heap.size w w29) := ⟨(by rw [hw]; exact (by with_reducible repeat first | exact HB.out | apply bAA | apply bNN | apply bDD | refine bSS ?_ GE208.out))⟩; clear hw; clear BK208; clear HB; have BK208 := n0_; have HB := n1_; clear n0_ n1_; obtain ⟨hcz30_0, hcz30_1, hcz30_2, hcz30_3, hcz30_4, hcz30_5, hfz30_0, hfz30_1, hfz30_2, hfz30_3, hfz30_4, hfz30_5⟩ := cel6 BK208.out) | ((with_reducible refine gate_callee (f := 38) rfl ?_); refine goesL_ (some 17) rfl rfl Tryd.func38 (by kernel_rfl) rfl #[.agg #[.string ((rd_T36 l0 x12_1).f0), .int .i64 ((rd_T36 l0 x12_1).f1), .bool ((rd_T36 l0 x12_1).f2), .int .i64 ((rd_T36 l0 x12_1).f3), .string ((rd_T36 l0 x12_1).f4), .slice A207_5 ((rd_T36 l0 x12_1).f5).length c207_5]] rfl (by (try simp only [List.map_toArray, List.map_cons, List.map_nil]); first | done | rfl | (simp only [List.length_drop, List.length_take]; rfl)) ?_; (with_reducible refine (graph_section.calls k1 ((rd_T36 l0 x12_1).f0) ((rd_T36 l0 x12_1).f1) ((rd_T36 l0 x12_1).f2) ((rd_T36 l0 x12_1).f3) ((rd_T36 l0 x12_1).f4) _ _ ((rd_T36 l0 x12_1).f5) t209 t210 t211 t212 t213 t214 _ ?side1 ?side2 A6.out).mono ?_); (case side1 => repeat (first | exact (Kd.C_below HR207_5.out HB.out) | (with_reducible refine Kd.C_alloc ?_ _) | (with_reducible refine Kd.C_drewN ?_ _) | (with_reducible refine Kd.C_drew ?_))); (case side2 => exact HC207_5.out); rintro e w31 ⟨v215, rfl, ho0, hb⟩; refine ⟨_, rfl, ?_⟩; have n0_ := Azz.mk (Kd.R_lower ho0 (bZZ (by with_reducible repeat first | exact HB.out | apply bAA | apply bNN | apply bDD | refine bSS ?_ GE208.out))); have n1_ := Azz.mk (blk_b hb BK208.out); have n2_ := Azz.mk (bTT (by with_reducible repeat first | exact HB.out | apply bAA | apply bNN | apply bDD | refine bSS ?_ GE208.out) hb); clear BK208; clear HB; have HO216 := n0_; have BK208 := n1_; have HB := n2_; clear n0_ n1_ n2_; (try clear hb); (try clear hb2); (try clear hk); (try clear hi); (try clear ho0); obtain ⟨Ao32, co32, eo32⟩ := Kd.R_slice HO216.out; subst eo32) | ((with_reducible refine gate_callee (f := 37) rfl ?_); refine goesL_ (some 18) rfl rfl Tryd.func37 (by kernel_rfl) rfl #[.agg #[.string t209, .int .i64 t210, .bool t211, .int .i64 t212, .string t213, .slice Ao32 t214.length co32]] rfl (by (try simp only [List.map_toArray, List.map_cons, List.map_nil]); first | done | rfl | (simp only [List.length_drop, List.length_take]; rfl)) ?_; (with_reducible refine (part_Is.calls k1 t209 t210 t211 t212 t213 _ _ t214 false _ ?side3 ?side1 ?side2 A7.out).mono ?_); (case side1 => repeat (first | exact (Kd.R_reads' HO216.out).2.2 | (with_reducible refine Kd.C_alloc ?_ _) | (with_reducible refine Kd.C_drewN ?_ _) | (with_reducible refine Kd.C_drew ?_))); (case side2 => exact (Kd.R_reads' HO216.out).2.1); (case side3 => exact Glob.below hG (by with_reducible repeat first | exact HB.out | apply bAA | apply bNN | apply bDD | refine bSS ?_ GE208.out)); rintro e w33 ⟨rfl, hb⟩; refine ⟨_, rfl, ?_⟩; have n0_ := Azz.mk (Kd.R_below (by (with_reducible repeat (first | apply Kd.R_alloc | apply Kd.R_drewN | apply Kd.R_drew)); exact HO216.out) hb); have n1_ := Azz.mk (blk_b hb BK208.out); have n2_ := Azz.mk (bTT (by with_reducible repeat first | exact HB.out | apply bAA | apply bNN | apply bDD | refine bSS ?_ GE208.out) hb); clear HO216; clear BK208; clear HB; have HO216 := n0_; have BK208 := n1_; have HB := n2_; clear n0_ n1_ n2_; (try clear hb); (try clear hb2); (try clear hk); (try clear hi)))
        go_ret
        exact ⟨by first | rfl | (simp [eNN, eSS] <;> rfl) | (simp [*, eNN, eSS] <;> rfl), by repeat (first | (with_reducible first | exact HB.out | apply bAA | apply bNN | apply bDD | refine bSS ?_ GE208.out) | exact HB.out)⟩
      ·rw [if_neg c5] at H
       exact absurd H (by simp)
     ·rw [if_neg c4] at H
      exact absurd H (by simp)
    ·rw [if_neg c3] at H
     have c3b0 := decide_eq_false c3
     clear c3
     obtain rfl := Option.some.inj H
     go_wp2
     go_ret
     exact ⟨by first | rfl | (simp [eNN, eSS] <;> rfl) | (simp [*, eNN, eSS] <;> rfl), by repeat (first | (with_reducible first | exact HB.out | apply bAA | apply bNN | apply bDD) | exact HB.out)⟩
end Go.Proofs.YtngmipfodjgmmaaDoor.P
