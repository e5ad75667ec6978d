/- The walks and the plain laws of this claim, a part: what each function of the program computes. -/
import Derived.Test.YtngmipfodjgmmaaDoorGu23
import Derived.Test.YtngmipfodjgmmaaDoorGu49
namespace Go.Proofs.YtngmipfodjgmmaaDoor.P
open Go.RowKit Go.Proofs.YtngmipfodjgmmaaDoorW.PrintWords Go.Proofs.YtngmipfodjgmmaaDoorW.PrintLast Go.Proofs.YtngmipfodjgmmaaDoorW.PrintMore
attribute [local go_sem] max2_int min2_int max_two min_two max_three min_three max_four min_four   -- for this text's walks alone
set_option linter.unusedVariables false
set_option linter.unusedSimpArgs false
mutual
def graph_Roots.j0 : Nat → List (S36) → Int → Bool → Option (List Int × Int)
  | 0, _, _, _ => none
  | k + 1, x0, x1, x21 => if x21 = true then (some (([] : List Int), 1)) else (graph_Roots.l0 k x1 ([] : List Int) x0 (x0.length : Int) 0)
def graph_Roots.l0 : Nat → Int → List Int → List (S36) → Int → Int → Option (List Int × Int)
  | 0, _, _, _, _, _ => none
  | k + 1, x1, x6, x22, x23, x24 => if x24 < x23 then (if 0 ≤ x24 then (if x24 < (x22.length : Int) then (if x24 = x1 then (if x6.length < 17592186044416 then (graph_Roots.l0 k x1 (x6 ++ [x24]) x22 x23 (wrap64 (x24 + 1))) else (none)) else (if (rd_T36 x22 x24).f2 = true then (if x6.length < 17592186044416 then (graph_Roots.l0 k x1 (x6 ++ [x24]) x22 x23 (wrap64 (x24 + 1))) else (none)) else (graph_Roots.l0 k x1 x6 x22 x23 (wrap64 (x24 + 1))))) else (none)) else (none)) else (some (x6, 0))
end
def graph_Roots.f (k : Nat) (l0 : List (S36)) (a1 : Int) : Option (List Int × Int) := if a1 < 0 then (graph_Roots.j0 k l0 a1 true) else (if a1 ≥ (l0.length : Int) then (graph_Roots.j0 k l0 a1 true) else ((graph_Is.f k l0).bind fun t233 => (graph_Roots.j0 k l0 a1 (!t233))))
set_option maxHeartbeats 8000000 in
set_option maxRecDepth 100000 in
theorem graph_Roots.calls (k : Nat) (A0 : Option Addr) (c0 : Nat) (l0 : List (S36)) (a1 : Int) (r1 : List Int) (r2 : Int) (w : World) (hG : Glob w) (hr0 : Kd.C k36 w A0 l0.length l0) (hc0 : l0.length ≤ c0) (h : graph_Roots.f k l0 a1 = some (r1, r2)) :
    Calls Tryd.prog 49 #[.slice A0 l0.length c0, .int .i64 a1] w fun e w' => ∃ v0_ : Value, e = .returned (.tuple #[v0_, .int .i64 r2]) ∧ Kd.R (Kd.int .i64) 3 w' w.heap.size (fun _ => True) v0_ r1 ∧ Below w.heap.size w w' := by
  have hu36 := Tryd.underlying36
  have HR0 := Aside0.mk hr0
  have HC0 := Aside0.mk hc0
  clear hr0 hc0
  have HB := Aside0.mk (Below.refl w.heap.size w)
  have H : (if a1 < 0 then (graph_Roots.j0 k l0 a1 true) else (if a1 ≥ (l0.length : Int) then (graph_Roots.j0 k l0 a1 true) else ((graph_Is.f k l0).bind fun t233 => (graph_Roots.j0 k l0 a1 (!t233))))) = some (r1, r2) := h
  clear h
  have HC3 := Aside0.mk H
  clear H
  go_enter Tryd.func49, Tryd.ntmps49
  go_upto_region 1 with (fail)
  go_cut [21] (fun v21 wc => ∃ (kq : Nat) (x21_2 : Bool), v21 = .bool x21_2 ∧ Aside0 (graph_Roots.j0 kq l0 a1 x21_2 = some (r1, r2)) ∧ Aside0 (kq ≤ k) ∧ Aside0 (Below w.heap.size w wc))
  case first =>
    have H := HC3.out
    clear HC3
    by_cases c4 : a1 < 0
    · rw [if_pos c4] at H
      have c4b0 : decide (a1 < 0) = true := decide_eq_true c4
      clear c4
      (first | rw [c4b0] | (simp only [i64_w, i32_w]; rw [c4b0]) | skip)
      have H' := Aside0.mk H
      clear H
      go_wp2
      go_meet
      case rel => exact ⟨_, (true), (by first | rfl | (simp; done) | (simp [*]; done)), H', ⟨by first | omega | exact Nat.le_refl _⟩, ⟨by repeat (first | (with_reducible first | exact HB.out | apply below_alloc | apply pw_below_drewN | apply below_drew1) | exact HB.out)⟩⟩
    · rw [if_neg c4] at H
      have c4b0 : decide (a1 < 0) = false := decide_eq_false c4
      clear c4
      (first | rw [c4b0] | (simp only [i64_w, i32_w]; rw [c4b0]) | skip)
      by_cases c5 : a1 ≥ (l0.length : Int)
      · rw [if_pos c5] at H
        have c5b0 : decide ((l0.length : Int) ≤ a1) = true := decide_eq_true c5
        clear c5
        have H' := Aside0.mk H
        clear H
        go_wp2
        go_meet
        case rel => exact ⟨_, (true), (by first | rfl | (simp; done) | (simp [*]; done)), H', ⟨by first | omega | exact Nat.le_refl _⟩, ⟨by repeat (first | (with_reducible first | exact HB.out | apply below_alloc | apply pw_below_drewN | apply below_drew1) | exact HB.out)⟩⟩
      · rw [if_neg c5] at H
        have c5b0 : decide ((l0.length : Int) ≤ a1) = false := decide_eq_false c5
        clear c5
        replace H := Option.bind_eq_some_iff.mp H
        obtain ⟨t233, A60, H⟩ := H
        replace H : (graph_Roots.j0 k l0 a1 (!t233)) = some (r1, r2) := H
        have A6 := Aside0.mk A60
        clear A60
        have H' := Aside0.mk H
        clear H
        go_wp2_with (first | (go_at_call 15; (with_reducible refine (graph_Is.calls k _ _ l0 t233 _ ?side3 ?side1 ?side2 A6.out).mono ?_); (case side1 => repeat (first | exact (Kd.C_below HR0.out HB.out) | (with_reducible refine Kd.C_alloc ?_ _) | (with_reducible refine Kd.C_drewN ?_ _) | (with_reducible refine Kd.C_drew ?_))); (case side2 => exact HC0.out); (case side3 => exact Glob.below hG (by repeat (first | (with_reducible first | exact HB.out | apply below_alloc | apply pw_below_drewN | apply below_drew1) | exact HB.out))); rintro e w7 ⟨rfl, hb⟩; have n0_ := Aside0.mk (below_step (by repeat (first | (with_reducible first | exact HB.out | apply below_alloc | apply pw_below_drewN | apply below_drew1) | exact HB.out)) hb); clear HB; have HB := n0_; clear n0_; (try clear hb); (try clear hb2); (try clear hk); (try clear hi)))
        go_meet
        case rel => exact ⟨_, (!t233), (by first | rfl | (simp; done) | (simp [*]; done)), H', ⟨by first | omega | exact Nat.le_refl _⟩, ⟨by repeat (first | (with_reducible first | exact HB.out | apply below_alloc | apply pw_below_drewN | apply below_drew1) | exact HB.out)⟩⟩
  case rest =>
    clear HC3
    try clear p2
    try clear c4
    try clear c4b0
    try clear c5
    try clear c5b0
    obtain ⟨kq, x21_2, rfl, HA, HJ2, HB⟩ := hcut
    cases kq with
    | zero => exact absurd HA.out (by simp [graph_Roots.j0])
    | succ kj2 =>
      have H := HA.out
      clear HA
      simp only [graph_Roots.j0] at H
      by_cases c8 : x21_2 = true
      · subst c8
        have H1 : (some (([] : List Int), 1)) = some (r1, r2) := by rw [if_pos rfl] at H; exact H
        clear H
        have H := H1
        clear H1
        simp only [Option.some.injEq, Prod.mk.injEq] at H
        obtain ⟨rfl, rfl⟩ := H
        go_wp2
        go_ret2
        exact ⟨_, by first | rfl | (simp [errW_none, errW_some] <;> rfl) | (simp [*, errW_none, errW_some] <;> rfl), by first | exact Kd.R_nil _ _ _ _ _ | exact Kd.N_nil _ _ _ _ _ | exact Kd.V_nil _ _ _ _ _ | exact Kd.Q_nil _ _ _ _ _ | exact Kd.S_nil _ _ _ _ _, by repeat (first | (with_reducible first | exact HB.out | apply below_alloc | apply pw_below_drewN | apply below_drew1) | exact HB.out)⟩
      · replace c8 := Bool.eq_false_iff.mpr c8
        subst c8
        have H1 : (graph_Roots.l0 kj2 a1 ([] : List Int) l0 (l0.length : Int) 0) = some (r1, r2) := by rw [if_neg (show ¬ (false = true) by decide)] at H; exact H
        clear H
        have H := H1
        clear H1
        have H' := Aside0.mk H
        clear H
        go_wp2
        go_loopg [6, 24] kj2 (fun kq v6 v24 w' => ∃ (x6_2 : List Int) (x24_2 : Int), v24 = .int .i64 x24_2 ∧ Aside0 (graph_Roots.l0 kq a1 x6_2 l0 (l0.length : Int) x24_2 = some (r1, r2)) ∧ Aside0 (kq ≤ kj2) ∧ Aside0 (Kd.R (Kd.int .i64) 3 w' w.heap.size (fun _ => True) v6 x6_2) ∧ Aside0 (Below w.heap.size w w'))
        case atStart => exact ⟨(([] : List Int)), (0), (by first | rfl | (simp; done) | (simp [*]; done)), H', ⟨Nat.le_refl _⟩, ⟨by first | exact Kd.R_nil _ _ _ _ _ | exact Kd.N_nil _ _ _ _ _ | exact Kd.V_nil _ _ _ _ _ | exact Kd.Q_nil _ _ _ _ _ | exact Kd.S_nil _ _ _ _ _⟩, ⟨by repeat (first | (with_reducible first | exact HB.out | apply below_alloc | apply pw_below_drewN | apply below_drew1) | exact HB.out)⟩⟩
        case round =>
          clear H'
          try clear p2
          try clear c4
          try clear c4b0
          try clear c5
          try clear c5b0
          try clear c8
          try clear p2
          obtain ⟨x6_2, x24_2, rfl, HA, HK2, HO_6, HB⟩ := hrel
          cases gk with
          | zero => exact absurd HA.out (by simp [graph_Roots.l0])
          | succ k2 =>
            have H := HA.out
            clear HA
            simp only [graph_Roots.l0] at H
            by_cases c9 : x24_2 < (l0.length : Int)
            · rw [if_pos c9] at H
              have c9b0 : decide (x24_2 < (l0.length : Int)) = true := decide_eq_true c9
              clear c9
              by_cases c10 : 0 ≤ x24_2
              · rw [if_pos c10] at H
                have c10b0 : decide (0 ≤ x24_2) = true := decide_eq_true c10
                clear c10
                by_cases c11 : x24_2 < (l0.length : Int)
                · rw [if_pos c11] at H
                  have c11b0 : decide (x24_2 < (l0.length : Int)) = true := decide_eq_true c11
                  clear c11
                  by_cases c12 : x24_2 = a1
                  · rw [if_pos c12] at H
                    have c12b0 : (x24_2 == a1) = true := beq_iff_eq.mpr c12
                    have c12b1 : (x24_2 != a1) = false := bne_eq_false_iff_eq.mpr c12
                    clear c12
                    by_cases c13 : x6_2.length < 17592186044416
                    · rw [if_pos c13] at H
                      have LMc13 := Aside0.mk c13
                      clear c13
                      obtain ⟨y236, hy236⟩ : ∃ y_ : List Int, y_ = (x6_2 ++ [x24_2]) := ⟨_, rfl⟩
                      replace H : (graph_Roots.l0 k2 a1 y236 l0 (l0.length : Int) (wrap64 (x24_2 + 1))) = some (r1, r2) := by first | (rw [hy236]; with_reducible exact H) | (have H2_ := (Option.bind_some _ _).symm.trans H; rw [hy236]; with_reducible exact H2_) | (have H2_ := (Option.bind_some _ _).symm.trans H; with_reducible exact H2_) | with_reducible exact H | (rw [hy236]; exact H) | exact H
                      have Ny236 := Aside0.mk hy236
                      clear hy236
                      have H' := Aside0.mk H
                      clear H
                      have p234 : 0 ≤ (x24_2 : Int) := of_decide_eq_true (by first | (with_reducible assumption) | assumption)
                      have q234 : x24_2 < (l0.length : Int) := of_decide_eq_true (by first | (with_reducible assumption) | assumption)
                      obtain ⟨ad234, A234_5, c234_5, e234, hx234_0, hx234_1, hx234_2, hx234_3, hx234_4, hx234_5, hl234_5, hi234_5⟩ := at_T36 HR0.out x24_2 p234 q234
                      cases e234
                      replace hx234_0 := (HB.out.cell (World.block_lt_of_cell? w _ hx234_0)).trans hx234_0
                      replace hx234_1 := (HB.out.cell (World.block_lt_of_cell? w _ hx234_1)).trans hx234_1
                      replace hx234_2 := (HB.out.cell (World.block_lt_of_cell? w _ hx234_2)).trans hx234_2
                      replace hx234_3 := (HB.out.cell (World.block_lt_of_cell? w _ hx234_3)).trans hx234_3
                      replace hx234_4 := (HB.out.cell (World.block_lt_of_cell? w _ hx234_4)).trans hx234_4
                      replace hx234_5 := (HB.out.cell (World.block_lt_of_cell? w _ hx234_5)).trans hx234_5
                      have HR234_5 := Aside0.mk hi234_5
                      have HC234_5 := Aside0.mk hl234_5
                      clear hi234_5 hl234_5
                      replace p234 := eq_true p234
                      replace q234 := eq_true q234
                      go_wp2_with (first | ((with_reducible refine gate_dst (N := 8) rfl ?_); (try (refine gate_guard (by rfl) ?_; dsimp only)); refine box_event ?hg (N := 8) ?hd (cs := #[.string (⟨#[]⟩ : ByteArray), .int .i64 0, .bool false, .int .i64 0, .string (⟨#[]⟩ : ByteArray), .slice none 0 0]) (t := 36) ?hr ?_; (case hd => rfl); (case hg => rfl); (case hr => first | (go_simp; done) | (go_simp; rfl)); intro gb235 hg w14 hbox hb; have n0_ := Aside0.mk (Kd.R_below (by (with_reducible repeat (first | apply Kd.R_alloc | apply Kd.R_drewN | apply Kd.R_drew)); exact HO_6.out) hb); have n1_ := Aside0.mk (below_step (by repeat (first | (with_reducible first | exact HB.out | apply below_alloc | apply pw_below_drewN | apply below_drew1) | exact HB.out)) hb); have n2_ := Aside0.mk (hbox); have n3_ := Aside0.mk ((by rw [hg]; exact (below_size (by repeat (first | (with_reducible first | exact HB.out | apply below_alloc | apply pw_below_drewN | apply below_drew1) | exact HB.out))) : w.heap.size ≤ gb235)); have n4_ := Aside0.mk ((by rw [hg]; exact (below_size (by repeat (first | (with_reducible first | exact HB.out | apply below_alloc | apply pw_below_drewN | apply below_drew1) | exact HB.out))) : w.heap.size ≤ gb235)); clear HO_6; clear HB; have HO_6 := n0_; have HB := n1_; have BK235 := n2_; have GW235 := n3_; have GE235 := n4_; clear n0_ n1_ n2_ n3_ n4_; clear hb hbox hg; have hcz15_0 : w14.cell? ⟨gb235, 0, none⟩ = some (.string (⟨#[]⟩ : ByteArray)) := (blk_cell BK235.out 0).trans rfl; have hcz15_1 : w14.cell? ⟨gb235, 1, none⟩ = some (.int .i64 0) := (blk_cell BK235.out 1).trans rfl; have hcz15_2 : w14.cell? ⟨gb235, 2, none⟩ = some (.bool false) := (blk_cell BK235.out 2).trans rfl; have hcz15_3 : w14.cell? ⟨gb235, 3, none⟩ = some (.int .i64 0) := (blk_cell BK235.out 3).trans rfl; have hcz15_4 : w14.cell? ⟨gb235, 4, none⟩ = some (.string (⟨#[]⟩ : ByteArray)) := (blk_cell BK235.out 4).trans rfl; have hcz15_5 : w14.cell? ⟨gb235, 5, none⟩ = some (.slice none 0 0) := (blk_cell BK235.out 5).trans rfl; have hfz15_0 := blk_frozen BK235.out 0; have hfz15_1 := blk_frozen BK235.out 1; have hfz15_2 := blk_frozen BK235.out 2; have hfz15_3 := blk_frozen BK235.out 3; have hfz15_4 := blk_frozen BK235.out 4; have hfz15_5 := blk_frozen BK235.out 5) | ((with_reducible refine gate_store (t := 36) (p := 8) rfl ?_); refine store_event (t := 36) (p := 8) (v := ?vo_w16) (w1 := ((((((w14.setCell ⟨gb235, 0, none⟩ (.string ((rd_T36 l0 x24_2).f0))).setCell ⟨gb235, 1, none⟩ (.int .i64 ((rd_T36 l0 x24_2).f1))).setCell ⟨gb235, 2, none⟩ (.bool ((rd_T36 l0 x24_2).f2))).setCell ⟨gb235, 3, none⟩ (.int .i64 ((rd_T36 l0 x24_2).f3))).setCell ⟨gb235, 4, none⟩ (.string ((rd_T36 l0 x24_2).f4))).setCell ⟨gb235, 5, none⟩ (.slice A234_5 ((rd_T36 l0 x24_2).f5).length c234_5))) ?hg ?ho ?hn ?hr ?_; (case ho => rfl); (case hg => rfl); (case hn => rfl); (case hr => first | (go_simp; done) | (go_simp; rfl)); intro w16 hw; have n0_ : Aside0 (Kd.R (Kd.int .i64) 3 w16 w.heap.size (fun _ => True) u6 x6_2) := ⟨(by rw [hw]; exact (by (with_reducible repeat (first | apply Kd.R_alloc | apply Kd.R_drewN | apply Kd.R_drew)); exact Kd.R_mono (Kd.R_far (p := ⟨gb235, 5, none⟩) (Kd.R_far (p := ⟨gb235, 4, none⟩) (Kd.R_far (p := ⟨gb235, 3, none⟩) (Kd.R_far (p := ⟨gb235, 2, none⟩) (Kd.R_far (p := ⟨gb235, 1, none⟩) (Kd.R_far (p := ⟨gb235, 0, none⟩) (Kd.R_types HO_6.out BK235.out (by decide)) (fun _ hk => hk.2) (.string ((rd_T36 l0 x24_2).f0))) (fun _ hk => hk.2) (.int .i64 ((rd_T36 l0 x24_2).f1))) (fun _ hk => hk.2) (.bool ((rd_T36 l0 x24_2).f2))) (fun _ hk => hk.2) (.int .i64 ((rd_T36 l0 x24_2).f3))) (fun _ hk => hk.2) (.string ((rd_T36 l0 x24_2).f4))) (fun _ hk => hk.2) (.slice A234_5 ((rd_T36 l0 x24_2).f5).length c234_5)) (fun _ hk => trivial)))⟩; have n1_ : Aside0 (w16.heap[gb235]? = some (.cells #[.string ((rd_T36 l0 x24_2).f0), .int .i64 ((rd_T36 l0 x24_2).f1), .bool ((rd_T36 l0 x24_2).f2), .int .i64 ((rd_T36 l0 x24_2).f3), .string ((rd_T36 l0 x24_2).f4), .slice A234_5 ((rd_T36 l0 x24_2).f5).length c234_5] 36 (0, 0))) := ⟨(by rw [hw]; exact (by (with_reducible repeat (first | refine blk_drewN ?_ _ | refine blk_drew ?_ | refine blk_alloc ?_ _)); refine blk_put (cs := #[.string ((rd_T36 l0 x24_2).f0), .int .i64 ((rd_T36 l0 x24_2).f1), .bool ((rd_T36 l0 x24_2).f2), .int .i64 ((rd_T36 l0 x24_2).f3), .string ((rd_T36 l0 x24_2).f4), .slice none 0 0]) ?_ 5 _ rfl; (with_reducible repeat (first | refine blk_drewN ?_ _ | refine blk_drew ?_ | refine blk_alloc ?_ _)); refine blk_put (cs := #[.string ((rd_T36 l0 x24_2).f0), .int .i64 ((rd_T36 l0 x24_2).f1), .bool ((rd_T36 l0 x24_2).f2), .int .i64 ((rd_T36 l0 x24_2).f3), .string (⟨#[]⟩ : ByteArray), .slice none 0 0]) ?_ 4 _ rfl; (with_reducible repeat (first | refine blk_drewN ?_ _ | refine blk_drew ?_ | refine blk_alloc ?_ _)); refine blk_put (cs := #[.string ((rd_T36 l0 x24_2).f0), .int .i64 ((rd_T36 l0 x24_2).f1), .bool ((rd_T36 l0 x24_2).f2), .int .i64 0, .string (⟨#[]⟩ : ByteArray), .slice none 0 0]) ?_ 3 _ rfl; (with_reducible repeat (first | refine blk_drewN ?_ _ | refine blk_drew ?_ | refine blk_alloc ?_ _)); refine blk_put (cs := #[.string ((rd_T36 l0 x24_2).f0), .int .i64 ((rd_T36 l0 x24_2).f1), .bool false, .int .i64 0, .string (⟨#[]⟩ : ByteArray), .slice none 0 0]) ?_ 2 _ rfl; (with_reducible repeat (first | refine blk_drewN ?_ _ | refine blk_drew ?_ | refine blk_alloc ?_ _)); refine blk_put (cs := #[.string ((rd_T36 l0 x24_2).f0), .int .i64 0, .bool false, .int .i64 0, .string (⟨#[]⟩ : ByteArray), .slice none 0 0]) ?_ 1 _ rfl; (with_reducible repeat (first | refine blk_drewN ?_ _ | refine blk_drew ?_ | refine blk_alloc ?_ _)); refine blk_put (cs := #[.string (⟨#[]⟩ : ByteArray), .int .i64 0, .bool false, .int .i64 0, .string (⟨#[]⟩ : ByteArray), .slice none 0 0]) ?_ 0 _ rfl; (with_reducible repeat (first | refine blk_drewN ?_ _ | refine blk_drew ?_ | refine blk_alloc ?_ _)); exact BK235.out))⟩; have n2_ : Aside0 (Below w.heap.size w w16) := ⟨(by rw [hw]; exact (by repeat (first | (with_reducible first | exact HB.out | apply below_alloc | apply pw_below_drewN | apply below_drew1 | refine below_set ?_ GE235.out) | exact HB.out)))⟩; clear hw; clear HO_6; clear BK235; clear HB; have HO_6 := n0_; have BK235 := n1_; have HB := n2_; clear n0_ n1_ n2_) | ((with_reducible refine gate_builtin (b := .append) (xs := #[.tmp 36, .tmp 38]) rfl ?_); (try (refine gate_guard (by rfl) ?_; dsimp only)); at_builtin; refine Kd.R_append (Kd.int .i64) (w0 := w) w.heap.size rfl (.tmp 36) (.tmp 38) 25 3 (.int .i64 0) 8 rfl Tryd.underlying25 info3 rfl (by decide) (by omega) u6 x6_2 x24_2 [.int .i64 x24_2] (fun _ => True) (fun _ => False) rfl rfl ?aP (fun _ hk => hk.elim) ?aF ?aO ?aB ?aS ?aL ?_; (case aP => exact rfl); (case aB => exact (by repeat (first | (with_reducible first | exact HB.out | apply below_alloc | apply pw_below_drewN | apply below_drew1 | refine below_set ?_ GE235.out) | exact HB.out))); (case aF => exact (fun _ _ => trivial)); (case aO => exact (by (with_reducible repeat (first | apply Kd.R_alloc | apply Kd.R_drewN | apply Kd.R_drew)); exact HO_6.out)); (case aS => exact (below_size (by repeat (first | (with_reducible first | exact HB.out | apply below_alloc | apply pw_below_drewN | apply below_drew1 | refine below_set ?_ GE235.out) | exact HB.out)))); (case aL => have := LMc13.out; omega); intro v237 w17 ho hb hg hat; rw [← Ny236.out] at ho; have n0_ := Aside0.mk (blk_grown (g := gb235) (o := .cells #[.string ((rd_T36 l0 x24_2).f0), .int .i64 ((rd_T36 l0 x24_2).f1), .bool ((rd_T36 l0 x24_2).f2), .int .i64 ((rd_T36 l0 x24_2).f3), .string ((rd_T36 l0 x24_2).f4), .slice A234_5 ((rd_T36 l0 x24_2).f5).length c234_5] 36 (0, 0)) (by (with_reducible repeat (first | refine blk_drewN ?_ _ | refine blk_drew ?_ | refine blk_alloc ?_ _)); exact BK235.out) hg (Kd.R_ne HO_6.out BK235.out (by decide))); have n1_ := Aside0.mk (hb); have n2_ := Aside0.mk (ho); clear BK235; clear HB; clear HO_6; have BK235 := n0_; have HB := n1_; have HO238 := n2_; clear n0_ n1_ n2_; clear ho hb hg hat))
                      go_roundg k2
                      case measure => have := HJ2.out; have := HK2.out; omega
                      case rel => exact ⟨(y236), (wrap64 (x24_2 + 1)), (by first | rfl | (simp; done) | (simp [*]; done)), H', ⟨by have := HJ2.out; have := HK2.out; omega⟩, ⟨by (with_reducible repeat (first | apply Kd.R_alloc | apply Kd.R_drewN | apply Kd.R_drew)); exact HO238.out⟩, ⟨by repeat (first | (with_reducible first | exact HB.out | apply below_alloc | apply pw_below_drewN | apply below_drew1 | refine below_set ?_ GE235.out) | exact HB.out)⟩⟩
                    · rw [if_neg c13] at H
                      exact absurd H (by simp)
                  · rw [if_neg c12] at H
                    have c12b0 : (x24_2 == a1) = false := beq_eq_false_iff_ne.mpr c12
                    have c12b1 : (x24_2 != a1) = true := bne_iff_ne.mpr c12
                    obtain ⟨bq18, hbq18⟩ : ∃ b_ : Bool, b_ = ((rd_T36 l0 x24_2).f2) := ⟨_, rfl⟩
                    replace H : (if bq18 = true then (if x6_2.length < 17592186044416 then (graph_Roots.l0 k2 a1 (x6_2 ++ [x24_2]) l0 (l0.length : Int) (wrap64 (x24_2 + 1))) else (none)) else (graph_Roots.l0 k2 a1 x6_2 l0 (l0.length : Int) (wrap64 (x24_2 + 1)))) = some (r1, r2) := by rw [← hbq18] at H; exact H
                    have Nbq18 := Aside0.mk hbq18
                    clear hbq18
                    by_cases c19 : bq18 = true
                    · subst c19
                      have H1 : (if x6_2.length < 17592186044416 then (graph_Roots.l0 k2 a1 (x6_2 ++ [x24_2]) l0 (l0.length : Int) (wrap64 (x24_2 + 1))) else (none)) = some (r1, r2) := by rw [if_pos rfl] at H; exact H
                      clear H
                      have H := H1
                      clear H1
                      by_cases c20 : x6_2.length < 17592186044416
                      · rw [if_pos c20] at H
                        have LMc20 := Aside0.mk c20
                        clear c20
                        obtain ⟨y239, hy239⟩ : ∃ y_ : List Int, y_ = (x6_2 ++ [x24_2]) := ⟨_, rfl⟩
                        replace H : (graph_Roots.l0 k2 a1 y239 l0 (l0.length : Int) (wrap64 (x24_2 + 1))) = some (r1, r2) := by first | (rw [hy239]; with_reducible exact H) | (have H2_ := (Option.bind_some _ _).symm.trans H; rw [hy239]; with_reducible exact H2_) | (have H2_ := (Option.bind_some _ _).symm.trans H; with_reducible exact H2_) | with_reducible exact H | (rw [hy239]; exact H) | exact H
                        have Ny239 := Aside0.mk hy239
                        clear hy239
                        have H' := Aside0.mk H
                        clear H
                        have p234 : 0 ≤ (x24_2 : Int) := of_decide_eq_true (by first | (with_reducible assumption) | assumption)
                        have q234 : x24_2 < (l0.length : Int) := of_decide_eq_true (by first | (with_reducible assumption) | assumption)
                        obtain ⟨ad234, A234_5, c234_5, e234, hx234_0, hx234_1, hx234_2, hx234_3, hx234_4, hx234_5, hl234_5, hi234_5⟩ := at_T36 HR0.out x24_2 p234 q234
                        (try rw [← Nbq18.out] at hx234_2)
                        cases e234
                        replace hx234_0 := (HB.out.cell (World.block_lt_of_cell? w _ hx234_0)).trans hx234_0
                        replace hx234_1 := (HB.out.cell (World.block_lt_of_cell? w _ hx234_1)).trans hx234_1
                        replace hx234_2 := (HB.out.cell (World.block_lt_of_cell? w _ hx234_2)).trans hx234_2
                        replace hx234_3 := (HB.out.cell (World.block_lt_of_cell? w _ hx234_3)).trans hx234_3
                        replace hx234_4 := (HB.out.cell (World.block_lt_of_cell? w _ hx234_4)).trans hx234_4
                        replace hx234_5 := (HB.out.cell (World.block_lt_of_cell? w _ hx234_5)).trans hx234_5
                        have HR234_5 := Aside0.mk hi234_5
                        have HC234_5 := Aside0.mk hl234_5
                        clear hi234_5 hl234_5
                        replace p234 := eq_true p234
                        replace q234 := eq_true q234
                        go_wp2_with (first | ((with_reducible refine gate_dst (N := 8) rfl ?_); (try (refine gate_guard (by rfl) ?_; dsimp only)); refine box_event ?hg (N := 8) ?hd (cs := #[.string (⟨#[]⟩ : ByteArray), .int .i64 0, .bool false, .int .i64 0, .string (⟨#[]⟩ : ByteArray), .slice none 0 0]) (t := 36) ?hr ?_; (case hd => rfl); (case hg => rfl); (case hr => first | (go_simp; done) | (go_simp; rfl)); intro gb235 hg w21 hbox hb; have n0_ := Aside0.mk (Kd.R_below (by (with_reducible repeat (first | apply Kd.R_alloc | apply Kd.R_drewN | apply Kd.R_drew)); exact HO_6.out) hb); have n1_ := Aside0.mk (below_step (by repeat (first | (with_reducible first | exact HB.out | apply below_alloc | apply pw_below_drewN | apply below_drew1) | exact HB.out)) hb); have n2_ := Aside0.mk (hbox); have n3_ := Aside0.mk ((by rw [hg]; exact (below_size (by repeat (first | (with_reducible first | exact HB.out | apply below_alloc | apply pw_below_drewN | apply below_drew1) | exact HB.out))) : w.heap.size ≤ gb235)); have n4_ := Aside0.mk ((by rw [hg]; exact (below_size (by repeat (first | (with_reducible first | exact HB.out | apply below_alloc | apply pw_below_drewN | apply below_drew1) | exact HB.out))) : w.heap.size ≤ gb235)); clear HO_6; clear HB; have HO_6 := n0_; have HB := n1_; have BK235 := n2_; have GW235 := n3_; have GE235 := n4_; clear n0_ n1_ n2_ n3_ n4_; clear hb hbox hg; have hcz22_0 : w21.cell? ⟨gb235, 0, none⟩ = some (.string (⟨#[]⟩ : ByteArray)) := (blk_cell BK235.out 0).trans rfl; have hcz22_1 : w21.cell? ⟨gb235, 1, none⟩ = some (.int .i64 0) := (blk_cell BK235.out 1).trans rfl; have hcz22_2 : w21.cell? ⟨gb235, 2, none⟩ = some (.bool false) := (blk_cell BK235.out 2).trans rfl; have hcz22_3 : w21.cell? ⟨gb235, 3, none⟩ = some (.int .i64 0) := (blk_cell BK235.out 3).trans rfl; have hcz22_4 : w21.cell? ⟨gb235, 4, none⟩ = some (.string (⟨#[]⟩ : ByteArray)) := (blk_cell BK235.out 4).trans rfl; have hcz22_5 : w21.cell? ⟨gb235, 5, none⟩ = some (.slice none 0 0) := (blk_cell BK235.out 5).trans rfl; have hfz22_0 := blk_frozen BK235.out 0; have hfz22_1 := blk_frozen BK235.out 1; have hfz22_2 := blk_frozen BK235.out 2; have hfz22_3 := blk_frozen BK235.out 3; have hfz22_4 := blk_frozen BK235.out 4; have hfz22_5 := blk_frozen BK235.out 5) | ((with_reducible refine gate_store (t := 36) (p := 8) rfl ?_); refine store_event (t := 36) (p := 8) (v := ?vo_w23) (w1 := ((((((w21.setCell ⟨gb235, 0, none⟩ (.string ((rd_T36 l0 x24_2).f0))).setCell ⟨gb235, 1, none⟩ (.int .i64 ((rd_T36 l0 x24_2).f1))).setCell ⟨gb235, 2, none⟩ (.bool true)).setCell ⟨gb235, 3, none⟩ (.int .i64 ((rd_T36 l0 x24_2).f3))).setCell ⟨gb235, 4, none⟩ (.string ((rd_T36 l0 x24_2).f4))).setCell ⟨gb235, 5, none⟩ (.slice A234_5 ((rd_T36 l0 x24_2).f5).length c234_5))) ?hg ?ho ?hn ?hr ?_; (case ho => rfl); (case hg => rfl); (case hn => rfl); (case hr => first | (go_simp; done) | (go_simp; rfl)); intro w23 hw; have n0_ : Aside0 (Kd.R (Kd.int .i64) 3 w23 w.heap.size (fun _ => True) u6 x6_2) := ⟨(by rw [hw]; exact (by (with_reducible repeat (first | apply Kd.R_alloc | apply Kd.R_drewN | apply Kd.R_drew)); exact Kd.R_mono (Kd.R_far (p := ⟨gb235, 5, none⟩) (Kd.R_far (p := ⟨gb235, 4, none⟩) (Kd.R_far (p := ⟨gb235, 3, none⟩) (Kd.R_far (p := ⟨gb235, 2, none⟩) (Kd.R_far (p := ⟨gb235, 1, none⟩) (Kd.R_far (p := ⟨gb235, 0, none⟩) (Kd.R_types HO_6.out BK235.out (by decide)) (fun _ hk => hk.2) (.string ((rd_T36 l0 x24_2).f0))) (fun _ hk => hk.2) (.int .i64 ((rd_T36 l0 x24_2).f1))) (fun _ hk => hk.2) (.bool true)) (fun _ hk => hk.2) (.int .i64 ((rd_T36 l0 x24_2).f3))) (fun _ hk => hk.2) (.string ((rd_T36 l0 x24_2).f4))) (fun _ hk => hk.2) (.slice A234_5 ((rd_T36 l0 x24_2).f5).length c234_5)) (fun _ hk => trivial)))⟩; have n1_ : Aside0 (w23.heap[gb235]? = some (.cells #[.string ((rd_T36 l0 x24_2).f0), .int .i64 ((rd_T36 l0 x24_2).f1), .bool true, .int .i64 ((rd_T36 l0 x24_2).f3), .string ((rd_T36 l0 x24_2).f4), .slice A234_5 ((rd_T36 l0 x24_2).f5).length c234_5] 36 (0, 0))) := ⟨(by rw [hw]; exact (by (with_reducible repeat (first | refine blk_drewN ?_ _ | refine blk_drew ?_ | refine blk_alloc ?_ _)); refine blk_put (cs := #[.string ((rd_T36 l0 x24_2).f0), .int .i64 ((rd_T36 l0 x24_2).f1), .bool true, .int .i64 ((rd_T36 l0 x24_2).f3), .string ((rd_T36 l0 x24_2).f4), .slice none 0 0]) ?_ 5 _ rfl; (with_reducible repeat (first | refine blk_drewN ?_ _ | refine blk_drew ?_ | refine blk_alloc ?_ _)); refine blk_put (cs := #[.string ((rd_T36 l0 x24_2).f0), .int .i64 ((rd_T36 l0 x24_2).f1), .bool true, .int .i64 ((rd_T36 l0 x24_2).f3), .string (⟨#[]⟩ : ByteArray), .slice none 0 0]) ?_ 4 _ rfl; (with_reducible repeat (first | refine blk_drewN ?_ _ | refine blk_drew ?_ | refine blk_alloc ?_ _)); refine blk_put (cs := #[.string ((rd_T36 l0 x24_2).f0), .int .i64 ((rd_T36 l0 x24_2).f1), .bool true, .int .i64 0, .string (⟨#[]⟩ : ByteArray), .slice none 0 0]) ?_ 3 _ rfl; (with_reducible repeat (first | refine blk_drewN ?_ _ | refine blk_drew ?_ | refine blk_alloc ?_ _)); refine blk_put (cs := #[.string ((rd_T36 l0 x24_2).f0), .int .i64 ((rd_T36 l0 x24_2).f1), .bool false, .int .i64 0, .string (⟨#[]⟩ : ByteArray), .slice none 0 0]) ?_ 2 _ rfl; (with_reducible repeat (first | refine blk_drewN ?_ _ | refine blk_drew ?_ | refine blk_alloc ?_ _)); refine blk_put (cs := #[.string ((rd_T36 l0 x24_2).f0), .int .i64 0, .bool false, .int .i64 0, .string (⟨#[]⟩ : ByteArray), .slice none 0 0]) ?_ 1 _ rfl; (with_reducible repeat (first | refine blk_drewN ?_ _ | refine blk_drew ?_ | refine blk_alloc ?_ _)); refine blk_put (cs := #[.string (⟨#[]⟩ : ByteArray), .int .i64 0, .bool false, .int .i64 0, .string (⟨#[]⟩ : ByteArray), .slice none 0 0]) ?_ 0 _ rfl; (with_reducible repeat (first | refine blk_drewN ?_ _ | refine blk_drew ?_ | refine blk_alloc ?_ _)); exact BK235.out))⟩; have n2_ : Aside0 (Below w.heap.size w w23) := ⟨(by rw [hw]; exact (by repeat (first | (with_reducible first | exact HB.out | apply below_alloc | apply pw_below_drewN | apply below_drew1 | refine below_set ?_ GE235.out) | exact HB.out)))⟩; clear hw; clear HO_6; clear BK235; clear HB; have HO_6 := n0_; have BK235 := n1_; have HB := n2_; clear n0_ n1_ n2_; have hcz24_0 : w23.cell? ⟨gb235, 0, none⟩ = some (.string ((rd_T36 l0 x24_2).f0)) := (blk_cell BK235.out 0).trans rfl; have hcz24_1 : w23.cell? ⟨gb235, 1, none⟩ = some (.int .i64 ((rd_T36 l0 x24_2).f1)) := (blk_cell BK235.out 1).trans rfl; have hcz24_2 : w23.cell? ⟨gb235, 2, none⟩ = some (.bool true) := (blk_cell BK235.out 2).trans rfl; have hcz24_3 : w23.cell? ⟨gb235, 3, none⟩ = some (.int .i64 ((rd_T36 l0 x24_2).f3)) := (blk_cell BK235.out 3).trans rfl; have hcz24_4 : w23.cell? ⟨gb235, 4, none⟩ = some (.string ((rd_T36 l0 x24_2).f4)) := (blk_cell BK235.out 4).trans rfl; have hcz24_5 : w23.cell? ⟨gb235, 5, none⟩ = some (.slice A234_5 ((rd_T36 l0 x24_2).f5).length c234_5) := (blk_cell BK235.out 5).trans rfl; have hfz24_0 := blk_frozen BK235.out 0; have hfz24_1 := blk_frozen BK235.out 1; have hfz24_2 := blk_frozen BK235.out 2; have hfz24_3 := blk_frozen BK235.out 3; have hfz24_4 := blk_frozen BK235.out 4; have hfz24_5 := blk_frozen BK235.out 5) | ((with_reducible refine gate_builtin (b := .append) (xs := #[.tmp 36, .tmp 38]) rfl ?_); (try (refine gate_guard (by rfl) ?_; dsimp only)); at_builtin; refine Kd.R_append (Kd.int .i64) (w0 := w) w.heap.size rfl (.tmp 36) (.tmp 38) 25 3 (.int .i64 0) 8 rfl Tryd.underlying25 info3 rfl (by decide) (by omega) u6 x6_2 x24_2 [.int .i64 x24_2] (fun _ => True) (fun _ => False) rfl rfl ?aP (fun _ hk => hk.elim) ?aF ?aO ?aB ?aS ?aL ?_; (case aP => exact rfl); (case aB => exact (by repeat (first | (with_reducible first | exact HB.out | apply below_alloc | apply pw_below_drewN | apply below_drew1 | refine below_set ?_ GE235.out) | exact HB.out))); (case aF => exact (fun _ _ => trivial)); (case aO => exact (by (with_reducible repeat (first | apply Kd.R_alloc | apply Kd.R_drewN | apply Kd.R_drew)); exact HO_6.out)); (case aS => exact (below_size (by repeat (first | (with_reducible first | exact HB.out | apply below_alloc | apply pw_below_drewN | apply below_drew1 | refine below_set ?_ GE235.out) | exact HB.out)))); (case aL => have := LMc20.out; omega); intro v240 w25 ho hb hg hat; rw [← Ny239.out] at ho; have n0_ := Aside0.mk (blk_grown (g := gb235) (o := .cells #[.string ((rd_T36 l0 x24_2).f0), .int .i64 ((rd_T36 l0 x24_2).f1), .bool true, .int .i64 ((rd_T36 l0 x24_2).f3), .string ((rd_T36 l0 x24_2).f4), .slice A234_5 ((rd_T36 l0 x24_2).f5).length c234_5] 36 (0, 0)) (by (with_reducible repeat (first | refine blk_drewN ?_ _ | refine blk_drew ?_ | refine blk_alloc ?_ _)); exact BK235.out) hg (Kd.R_ne HO_6.out BK235.out (by decide))); have n1_ := Aside0.mk (hb); have n2_ := Aside0.mk (ho); clear BK235; clear HB; clear HO_6; have BK235 := n0_; have HB := n1_; have HO241 := n2_; clear n0_ n1_ n2_; clear ho hb hg hat))
                        go_roundg k2
                        case measure => have := HJ2.out; have := HK2.out; omega
                        case rel => exact ⟨(y239), (wrap64 (x24_2 + 1)), (by first | rfl | (simp; done) | (simp [*]; done)), H', ⟨by have := HJ2.out; have := HK2.out; omega⟩, ⟨by (with_reducible repeat (first | apply Kd.R_alloc | apply Kd.R_drewN | apply Kd.R_drew)); exact HO241.out⟩, ⟨by repeat (first | (with_reducible first | exact HB.out | apply below_alloc | apply pw_below_drewN | apply below_drew1 | refine below_set ?_ GE235.out) | exact HB.out)⟩⟩
                      · rw [if_neg c20] at H
                        exact absurd H (by simp)
                    · replace c19 := Bool.eq_false_iff.mpr c19
                      subst c19
                      have H1 : (graph_Roots.l0 k2 a1 x6_2 l0 (l0.length : Int) (wrap64 (x24_2 + 1))) = some (r1, r2) := by rw [if_neg (show ¬ (false = true) by decide)] at H; exact H
                      clear H
                      have H := H1
                      clear H1
                      have H' := Aside0.mk H
                      clear H
                      have p234 : 0 ≤ (x24_2 : Int) := of_decide_eq_true (by first | (with_reducible assumption) | assumption)
                      have q234 : x24_2 < (l0.length : Int) := of_decide_eq_true (by first | (with_reducible assumption) | assumption)
                      obtain ⟨ad234, A234_5, c234_5, e234, hx234_0, hx234_1, hx234_2, hx234_3, hx234_4, hx234_5, hl234_5, hi234_5⟩ := at_T36 HR0.out x24_2 p234 q234
                      (try rw [← Nbq18.out] at hx234_2)
                      cases e234
                      replace hx234_0 := (HB.out.cell (World.block_lt_of_cell? w _ hx234_0)).trans hx234_0
                      replace hx234_1 := (HB.out.cell (World.block_lt_of_cell? w _ hx234_1)).trans hx234_1
                      replace hx234_2 := (HB.out.cell (World.block_lt_of_cell? w _ hx234_2)).trans hx234_2
                      replace hx234_3 := (HB.out.cell (World.block_lt_of_cell? w _ hx234_3)).trans hx234_3
                      replace hx234_4 := (HB.out.cell (World.block_lt_of_cell? w _ hx234_4)).trans hx234_4
                      replace hx234_5 := (HB.out.cell (World.block_lt_of_cell? w _ hx234_5)).trans hx234_5
                      have HR234_5 := Aside0.mk hi234_5
                      have HC234_5 := Aside0.mk hl234_5
                      clear hi234_5 hl234_5
                      replace p234 := eq_true p234
                      replace q234 := eq_true q234
                      go_wp2_with (first | ((with_reducible refine gate_dst (N := 8) rfl ?_); (try (refine gate_guard (by rfl) ?_; dsimp only)); refine box_event ?hg (N := 8) ?hd (cs := #[.string (⟨#[]⟩ : ByteArray), .int .i64 0, .bool false, .int .i64 0, .string (⟨#[]⟩ : ByteArray), .slice none 0 0]) (t := 36) ?hr ?_; (case hd => rfl); (case hg => rfl); (case hr => first | (go_simp; done) | (go_simp; rfl)); intro gb235 hg w26 hbox hb; have n0_ := Aside0.mk (Kd.R_below (by (with_reducible repeat (first | apply Kd.R_alloc | apply Kd.R_drewN | apply Kd.R_drew)); exact HO_6.out) hb); have n1_ := Aside0.mk (below_step (by repeat (first | (with_reducible first | exact HB.out | apply below_alloc | apply pw_below_drewN | apply below_drew1) | exact HB.out)) hb); have n2_ := Aside0.mk (hbox); have n3_ := Aside0.mk ((by rw [hg]; exact (below_size (by repeat (first | (with_reducible first | exact HB.out | apply below_alloc | apply pw_below_drewN | apply below_drew1) | exact HB.out))) : w.heap.size ≤ gb235)); have n4_ := Aside0.mk ((by rw [hg]; exact (below_size (by repeat (first | (with_reducible first | exact HB.out | apply below_alloc | apply pw_below_drewN | apply below_drew1) | exact HB.out))) : w.heap.size ≤ gb235)); clear HO_6; clear HB; have HO_6 := n0_; have HB := n1_; have BK235 := n2_; have GW235 := n3_; have GE235 := n4_; clear n0_ n1_ n2_ n3_ n4_; clear hb hbox hg; have hcz27_0 : w26.cell? ⟨gb235, 0, none⟩ = some (.string (⟨#[]⟩ : ByteArray)) := (blk_cell BK235.out 0).trans rfl; have hcz27_1 : w26.cell? ⟨gb235, 1, none⟩ = some (.int .i64 0) := (blk_cell BK235.out 1).trans rfl; have hcz27_2 : w26.cell? ⟨gb235, 2, none⟩ = some (.bool false) := (blk_cell BK235.out 2).trans rfl; have hcz27_3 : w26.cell? ⟨gb235, 3, none⟩ = some (.int .i64 0) := (blk_cell BK235.out 3).trans rfl; have hcz27_4 : w26.cell? ⟨gb235, 4, none⟩ = some (.string (⟨#[]⟩ : ByteArray)) := (blk_cell BK235.out 4).trans rfl; have hcz27_5 : w26.cell? ⟨gb235, 5, none⟩ = some (.slice none 0 0) := (blk_cell BK235.out 5).trans rfl; have hfz27_0 := blk_frozen BK235.out 0; have hfz27_1 := blk_frozen BK235.out 1; have hfz27_2 := blk_frozen BK235.out 2; have hfz27_3 := blk_frozen BK235.out 3; have hfz27_4 := blk_frozen BK235.out 4; have hfz27_5 := blk_frozen BK235.out 5) | ((with_reducible refine gate_store (t := 36) (p := 8) rfl ?_); refine store_event (t := 36) (p := 8) (v := ?vo_w28) (w1 := ((((((w26.setCell ⟨gb235, 0, none⟩ (.string ((rd_T36 l0 x24_2).f0))).setCell ⟨gb235, 1, none⟩ (.int .i64 ((rd_T36 l0 x24_2).f1))).setCell ⟨gb235, 2, none⟩ (.bool false)).setCell ⟨gb235, 3, none⟩ (.int .i64 ((rd_T36 l0 x24_2).f3))).setCell ⟨gb235, 4, none⟩ (.string ((rd_T36 l0 x24_2).f4))).setCell ⟨gb235, 5, none⟩ (.slice A234_5 ((rd_T36 l0 x24_2).f5).length c234_5))) ?hg ?ho ?hn ?hr ?_; (case ho => rfl); (case hg => rfl); (case hn => rfl); (case hr => first | (go_simp; done) | (go_simp; rfl)); intro w28 hw; have n0_ : Aside0 (Kd.R (Kd.int .i64) 3 w28 w.heap.size (fun _ => True) u6 x6_2) := ⟨(by rw [hw]; exact (by (with_reducible repeat (first | apply Kd.R_alloc | apply Kd.R_drewN | apply Kd.R_drew)); exact Kd.R_mono (Kd.R_far (p := ⟨gb235, 5, none⟩) (Kd.R_far (p := ⟨gb235, 4, none⟩) (Kd.R_far (p := ⟨gb235, 3, none⟩) (Kd.R_far (p := ⟨gb235, 2, none⟩) (Kd.R_far (p := ⟨gb235, 1, none⟩) (Kd.R_far (p := ⟨gb235, 0, none⟩) (Kd.R_types HO_6.out BK235.out (by decide)) (fun _ hk => hk.2) (.string ((rd_T36 l0 x24_2).f0))) (fun _ hk => hk.2) (.int .i64 ((rd_T36 l0 x24_2).f1))) (fun _ hk => hk.2) (.bool false)) (fun _ hk => hk.2) (.int .i64 ((rd_T36 l0 x24_2).f3))) (fun _ hk => hk.2) (.string ((rd_T36 l0 x24_2).f4))) (fun _ hk => hk.2) (.slice A234_5 ((rd_T36 l0 x24_2).f5).length c234_5)) (fun _ hk => trivial)))⟩; have n1_ : Aside0 (w28.heap[gb235]? = some (.cells #[.string ((rd_T36 l0 x24_2).f0), .int .i64 ((rd_T36 l0 x24_2).f1), .bool false, .int .i64 ((rd_T36 l0 x24_2).f3), .string ((rd_T36 l0 x24_2).f4), .slice A234_5 ((rd_T36 l0 x24_2).f5).length c234_5] 36 (0, 0))) := ⟨(by rw [hw]; exact (by (with_reducible repeat (first | refine blk_drewN ?_ _ | refine blk_drew ?_ | refine blk_alloc ?_ _)); refine blk_put (cs := #[.string ((rd_T36 l0 x24_2).f0), .int .i64 ((rd_T36 l0 x24_2).f1), .bool false, .int .i64 ((rd_T36 l0 x24_2).f3), .string ((rd_T36 l0 x24_2).f4), .slice none 0 0]) ?_ 5 _ rfl; (with_reducible repeat (first | refine blk_drewN ?_ _ | refine blk_drew ?_ | refine blk_alloc ?_ _)); refine blk_put (cs := #[.string ((rd_T36 l0 x24_2).f0), .int .i64 ((rd_T36 l0 x24_2).f1), .bool false, .int .i64 ((rd_T36 l0 x24_2).f3), .string (⟨#[]⟩ : ByteArray), .slice none 0 0]) ?_ 4 _ rfl; (with_reducible repeat (first | refine blk_drewN ?_ _ | refine blk_drew ?_ | refine blk_alloc ?_ _)); refine blk_put (cs := #[.string ((rd_T36 l0 x24_2).f0), .int .i64 ((rd_T36 l0 x24_2).f1), .bool false, .int .i64 0, .string (⟨#[]⟩ : ByteArray), .slice none 0 0]) ?_ 3 _ rfl; (with_reducible repeat (first | refine blk_drewN ?_ _ | refine blk_drew ?_ | refine blk_alloc ?_ _)); refine blk_put (cs := #[.string ((rd_T36 l0 x24_2).f0), .int .i64 ((rd_T36 l0 x24_2).f1), .bool false, .int .i64 0, .string (⟨#[]⟩ : ByteArray), .slice none 0 0]) ?_ 2 _ rfl; (with_reducible repeat (first | refine blk_drewN ?_ _ | refine blk_drew ?_ | refine blk_alloc ?_ _)); refine blk_put (cs := #[.string ((rd_T36 l0 x24_2).f0), .int .i64 0, .bool false, .int .i64 0, .string (⟨#[]⟩ : ByteArray), .slice none 0 0]) ?_ 1 _ rfl; (with_reducible repeat (first | refine blk_drewN ?_ _ | refine blk_drew ?_ | refine blk_alloc ?_ _)); refine blk_put (cs := #[.string (⟨#[]⟩ : ByteArray), .int .i64 0, .bool false, .int .i64 0, .string (⟨#[]⟩ : ByteArray), .slice none 0 0]) ?_ 0 _ rfl; (with_reducible repeat (first | refine blk_drewN ?_ _ | refine blk_drew ?_ | refine blk_alloc ?_ _)); exact BK235.out))⟩; have n2_ : Aside0 (Below w.heap.size w w28) := ⟨(by rw [hw]; exact (by repeat (first | (with_reducible first | exact HB.out | apply below_alloc | apply pw_below_drewN | apply below_drew1 | refine below_set ?_ GE235.out) | exact HB.out)))⟩; clear hw; clear HO_6; clear BK235; clear HB; have HO_6 := n0_; have BK235 := n1_; have HB := n2_; clear n0_ n1_ n2_; have hcz29_0 : w28.cell? ⟨gb235, 0, none⟩ = some (.string ((rd_T36 l0 x24_2).f0)) := (blk_cell BK235.out 0).trans rfl; have hcz29_1 : w28.cell? ⟨gb235, 1, none⟩ = some (.int .i64 ((rd_T36 l0 x24_2).f1)) := (blk_cell BK235.out 1).trans rfl; have hcz29_2 : w28.cell? ⟨gb235, 2, none⟩ = some (.bool false) := (blk_cell BK235.out 2).trans rfl; have hcz29_3 : w28.cell? ⟨gb235, 3, none⟩ = some (.int .i64 ((rd_T36 l0 x24_2).f3)) := (blk_cell BK235.out 3).trans rfl; have hcz29_4 : w28.cell? ⟨gb235, 4, none⟩ = some (.string ((rd_T36 l0 x24_2).f4)) := (blk_cell BK235.out 4).trans rfl; have hcz29_5 : w28.cell? ⟨gb235, 5, none⟩ = some (.slice A234_5 ((rd_T36 l0 x24_2).f5).length c234_5) := (blk_cell BK235.out 5).trans rfl; have hfz29_0 := blk_frozen BK235.out 0; have hfz29_1 := blk_frozen BK235.out 1; have hfz29_2 := blk_frozen BK235.out 2; have hfz29_3 := blk_frozen BK235.out 3; have hfz29_4 := blk_frozen BK235.out 4; have hfz29_5 := blk_frozen BK235.out 5))
                      go_roundg k2
                      case measure => have := HJ2.out; have := HK2.out; omega
                      case rel => exact ⟨(x6_2), (wrap64 (x24_2 + 1)), (by first | rfl | (simp; done) | (simp [*]; done)), H', ⟨by have := HJ2.out; have := HK2.out; omega⟩, ⟨by (with_reducible repeat (first | apply Kd.R_alloc | apply Kd.R_drewN | apply Kd.R_drew)); exact HO_6.out⟩, ⟨by repeat (first | (with_reducible first | exact HB.out | apply below_alloc | apply pw_below_drewN | apply below_drew1 | refine below_set ?_ GE235.out) | exact HB.out)⟩⟩
                · rw [if_neg c11] at H
                  exact absurd H (by simp)
              · rw [if_neg c10] at H
                exact absurd H (by simp)
            · rw [if_neg c9] at H
              have c9b0 : decide (x24_2 < (l0.length : Int)) = false := decide_eq_false c9
              clear c9
              simp only [Option.some.injEq, Prod.mk.injEq] at H
              obtain ⟨rfl, rfl⟩ := H
              go_wp2
              go_ret2
              exact ⟨_, by first | rfl | (simp [errW_none, errW_some] <;> rfl) | (simp [*, errW_none, errW_some] <;> rfl), by (with_reducible repeat (first | apply Kd.R_alloc | apply Kd.R_drewN | apply Kd.R_drew)); exact HO_6.out, by repeat (first | (with_reducible first | exact HB.out | apply below_alloc | apply pw_below_drewN | apply below_drew1) | exact HB.out)⟩
end Go.Proofs.YtngmipfodjgmmaaDoor.P
