/- The walks and the plain laws of this claim, a part: what each function of the program computes. -/
import Derived.Test.YtngmipfodjgmmaaDoorSm23
import Derived.Test.YtngmipfodjgmmaaDoorSm25
namespace Go.Proofs.YtngmipfodjgmmaaDoor.P
open Go.RowKit Go.Proofs.YtngmipfodjgmmaaDoorW.PrintWords Go.Proofs.YtngmipfodjgmmaaDoorW.PrintLast Go.Proofs.YtngmipfodjgmmaaDoorW.PrintMore
attribute [local go_sem] max2_int min2_int max_two min_two max_three min_three max_four min_four   -- for this text's walks alone
set_option linter.unusedVariables false
set_option linter.unusedSimpArgs false
mutual
def cleatref19_Big.l0 : Nat → Int → List (S71) → List (S50) → Option (Bool)
  | 0, _, _, _ => none
  | k + 1, x3, x351000, x351001 => if x3 < (x351000.length : Int) then (cleatref19_Big.j1 k x3 (decide ((x351000.length : Int) ≤ 40)) x351000 x351001) else (cleatref19_Big.j1 k x3 false x351000 x351001)
def cleatref19_Big.j1 : Nat → Int → Bool → List (S71) → List (S50) → Option (Bool)
  | 0, _, _, _, _ => none
  | k + 1, x3, x15, x351000, x351001 => if x15 = true then (if 0 ≤ x3 then (if x3 < (x351000.length : Int) then ((cleatref16_Big.f ((rd_T71 x351000 x3).f0) ((rd_T71 x351000 x3).f1) ((rd_T71 x351000 x3).f2) ((rd_T71 x351000 x3).f3) ((rd_T71 x351000 x3).f4) ((rd_T71 x351000 x3).f5)).bind fun t352 => (if t352 = true then (some true) else (cleatref19_Big.l0 k (wrap64 (x3 + 1)) x351000 x351001))) else (none)) else (none)) else (cleatref19_Big.l1 k 0 x351000 x351001)
def cleatref19_Big.l1 : Nat → Int → List (S71) → List (S50) → Option (Bool)
  | 0, _, _, _ => none
  | k + 1, x4, x351000, x351001 => if x4 < (x351001.length : Int) then (cleatref19_Big.j3 k x4 (decide ((x351001.length : Int) ≤ 140)) x351000 x351001) else (cleatref19_Big.j3 k x4 false x351000 x351001)
def cleatref19_Big.j3 : Nat → Int → Bool → List (S71) → List (S50) → Option (Bool)
  | 0, _, _, _, _ => none
  | k + 1, x4, x34, x351000, x351001 => if x34 = true then (if 0 ≤ x4 then (if x4 < (x351001.length : Int) then (if (((rd_T50 x351001 x4).f0).size : Int) > 100 then (some true) else (cleatref19_Big.l1 k (wrap64 (x4 + 1)) x351000 x351001)) else (none)) else (none)) else (if (x351000.length : Int) > 40 then (some true) else (some (decide ((x351001.length : Int) > 140))))
end
def cleatref19_Big.f (k : Nat) (l0_0 : List (S71)) (l0_1 : List (S50)) : Option (Bool) := cleatref19_Big.l0 k 0 l0_0 l0_1
set_option maxHeartbeats 8000000 in
set_option maxRecDepth 100000 in
theorem cleatref19_Big.calls (k : Nat) (A0_0 : Option Addr) (c0_0 : Nat) (l0_0 : List (S71)) (A0_1 : Option Addr) (c0_1 : Nat) (l0_1 : List (S50)) (r : Bool) (w : World) (hr0_0 : Kd.C k71 w A0_0 l0_0.length l0_0) (hc0_0 : l0_0.length ≤ c0_0) (hr0_1 : Kd.C k50 w A0_1 l0_1.length l0_1) (hc0_1 : l0_1.length ≤ c0_1) (h : cleatref19_Big.f k l0_0 l0_1 = some r) :
    Calls Tryd.prog 39 #[.agg #[.slice A0_0 l0_0.length c0_0, .slice A0_1 l0_1.length c0_1]] w fun e w' => e = .returned (.bool r) ∧ Below w.heap.size w w' := by
  have hu48 := Tryd.underlying48
  have hu71 := Tryd.underlying71
  have HR0_0 := Aside0.mk hr0_0
  have HC0_0 := Aside0.mk hc0_0
  clear hr0_0 hc0_0
  have HR0_1 := Aside0.mk hr0_1
  have HC0_1 := Aside0.mk hc0_1
  clear hr0_1 hc0_1
  have HB := Aside0.mk (Below.refl w.heap.size w)
  have H : (cleatref19_Big.l0 k 0 l0_0 l0_1) = some r := h
  clear h
  have H' := Aside0.mk H
  clear H
  go_enter Tryd.func39, Tryd.ntmps39
  go_wp2_with (first | ((with_reducible refine gate_dst (N := 1) rfl ?_); (try (refine gate_guard (by rfl) ?_; dsimp only)); refine box_event ?hg (N := 1) ?hd (cs := #[.slice A0_0 l0_0.length c0_0, .slice A0_1 l0_1.length c0_1]) (t := 48) ?hr ?_; (case hd => rfl); (case hg => rfl); (case hr => first | (go_simp; done) | (go_simp; rfl)); intro gb350 hg w2 hbox hb; have n0_ := Aside0.mk (below_step (by repeat (first | (with_reducible first | exact HB.out | apply below_alloc | apply pw_below_drewN | apply below_drew1) | exact HB.out)) hb); have n1_ := Aside0.mk (hbox); have n2_ := Aside0.mk ((by rw [hg]; exact (below_size (by repeat (first | (with_reducible first | exact HB.out | apply below_alloc | apply pw_below_drewN | apply below_drew1) | exact HB.out))) : w.heap.size ≤ gb350)); have n3_ := Aside0.mk ((by rw [hg]; exact (below_size (by repeat (first | (with_reducible first | exact HB.out | apply below_alloc | apply pw_below_drewN | apply below_drew1) | exact HB.out))) : w.heap.size ≤ gb350)); clear HB; have HB := n0_; have BK350 := n1_; have GW350 := n2_; have GE350 := n3_; clear n0_ n1_ n2_ n3_; clear hb hbox hg))
  go_loopg [3] k (fun kq v3 w' => ∃ (x3_1 : Int), v3 = .int .i64 x3_1 ∧ Aside0 (cleatref19_Big.l0 kq x3_1 l0_0 l0_1 = some r) ∧ Aside0 (kq ≤ k) ∧ Aside0 (w'.heap[gb350]? = some (.cells #[(.slice A0_0 l0_0.length c0_0), (.slice A0_1 l0_1.length c0_1)] 48 (0, 0))) ∧ Aside0 (Below w.heap.size w w'))
  case atStart => exact ⟨(0), (by first | rfl | (simp; done) | (simp [*]; done)), H', ⟨Nat.le_refl _⟩, ⟨by (with_reducible repeat (first | refine blk_drewN ?_ _ | refine blk_drew ?_ | refine blk_alloc ?_ _)); exact BK350.out⟩, ⟨by repeat (first | (with_reducible first | exact HB.out | apply below_alloc | apply pw_below_drewN | apply below_drew1 | refine below_set ?_ GE350.out) | exact HB.out)⟩⟩
  case round =>
    clear H'
    try clear p2
    obtain ⟨x3_1, rfl, HA, HK1, BK350, HB⟩ := hrel
    cases gk with
    | zero => exact absurd HA.out (by simp [cleatref19_Big.l0])
    | succ k1 =>
      have H := HA.out
      clear HA
      simp only [cleatref19_Big.l0] at H
      have HC3 := Aside0.mk H
      clear H
      go_upto_region 2 with (fail)
      go_cut [15] (fun v15 wc => ∃ (kq : Nat) (x15_2 : Bool), v15 = .bool x15_2 ∧ Aside0 (cleatref19_Big.j1 kq x3_1 x15_2 l0_0 l0_1 = some r) ∧ Aside0 (kq ≤ k1) ∧ Aside0 (wc.heap[gb350]? = some (.cells #[(.slice A0_0 l0_0.length c0_0), (.slice A0_1 l0_1.length c0_1)] 48 (0, 0))) ∧ Aside0 (Below w.heap.size w wc))
      case first =>
        have H := HC3.out
        clear HC3
        by_cases c4 : x3_1 < (l0_0.length : Int)
        · rw [if_pos c4] at H
          have c4b0 : decide (x3_1 < (l0_0.length : Int)) = true := decide_eq_true c4
          clear c4
          (first | rw [c4b0] | (simp only [i64_w, i32_w]; rw [c4b0]) | skip)
          have H' := Aside0.mk H
          clear H
          have hcz5_0 : wr.cell? ⟨gb350, 0, none⟩ = some (.slice A0_0 l0_0.length c0_0) := (blk_cell BK350.out 0).trans rfl
          have hcz5_1 : wr.cell? ⟨gb350, 1, none⟩ = some (.slice A0_1 l0_1.length c0_1) := (blk_cell BK350.out 1).trans rfl
          have hfz5_0 := blk_frozen BK350.out 0
          have hfz5_1 := blk_frozen BK350.out 1
          go_wp2
          go_meet
          case rel => exact ⟨_, (decide ((l0_0.length : Int) ≤ 40)), (by first | rfl | (simp; done) | (simp [*]; done)), H', ⟨by have := HK1.out; first | omega | exact Nat.le_refl _⟩, ⟨by (with_reducible repeat (first | refine blk_drewN ?_ _ | refine blk_drew ?_ | refine blk_alloc ?_ _)); exact BK350.out⟩, ⟨by repeat (first | (with_reducible first | exact HB.out | apply below_alloc | apply pw_below_drewN | apply below_drew1 | refine below_set ?_ GE350.out) | exact HB.out)⟩⟩
        · rw [if_neg c4] at H
          have c4b0 : decide (x3_1 < (l0_0.length : Int)) = false := decide_eq_false c4
          clear c4
          (first | rw [c4b0] | (simp only [i64_w, i32_w]; rw [c4b0]) | skip)
          have H' := Aside0.mk H
          clear H
          have hcz6_0 : wr.cell? ⟨gb350, 0, none⟩ = some (.slice A0_0 l0_0.length c0_0) := (blk_cell BK350.out 0).trans rfl
          have hcz6_1 : wr.cell? ⟨gb350, 1, none⟩ = some (.slice A0_1 l0_1.length c0_1) := (blk_cell BK350.out 1).trans rfl
          have hfz6_0 := blk_frozen BK350.out 0
          have hfz6_1 := blk_frozen BK350.out 1
          go_wp2
          go_meet
          case rel => exact ⟨_, (false), (by first | rfl | (simp; done) | (simp [*]; done)), H', ⟨by have := HK1.out; first | omega | exact Nat.le_refl _⟩, ⟨by (with_reducible repeat (first | refine blk_drewN ?_ _ | refine blk_drew ?_ | refine blk_alloc ?_ _)); exact BK350.out⟩, ⟨by repeat (first | (with_reducible first | exact HB.out | apply below_alloc | apply pw_below_drewN | apply below_drew1 | refine below_set ?_ GE350.out) | exact HB.out)⟩⟩
      case rest =>
        clear HC3
        try clear p2
        try clear c3
        try clear c4
        try clear c4b0
        try clear hcz5_0
        try clear hcz5_1
        try clear hcz6_0
        try clear hcz6_1
        try clear hfz5_0
        try clear hfz5_1
        try clear hfz6_0
        try clear hfz6_1
        try clear p2
        obtain ⟨kq, x15_2, rfl, HA, HJ2, BK350, HB⟩ := hcut
        cases kq with
        | zero => exact absurd HA.out (by simp [cleatref19_Big.j1])
        | succ kj2 =>
          have H := HA.out
          clear HA
          simp only [cleatref19_Big.j1] at H
          by_cases c7 : x15_2 = true
          · subst c7
            have H1 : (if 0 ≤ x3_1 then (if x3_1 < (l0_0.length : Int) then ((cleatref16_Big.f ((rd_T71 l0_0 x3_1).f0) ((rd_T71 l0_0 x3_1).f1) ((rd_T71 l0_0 x3_1).f2) ((rd_T71 l0_0 x3_1).f3) ((rd_T71 l0_0 x3_1).f4) ((rd_T71 l0_0 x3_1).f5)).bind fun t352 => (if t352 = true then (some true) else (cleatref19_Big.l0 kj2 (wrap64 (x3_1 + 1)) l0_0 l0_1))) else (none)) else (none)) = some r := by rw [if_pos rfl] at H; exact H
            clear H
            have H := H1
            clear H1
            by_cases c8 : 0 ≤ x3_1
            · rw [if_pos c8] at H
              have c8b0 : decide (0 ≤ x3_1) = true := decide_eq_true c8
              clear c8
              by_cases c9 : x3_1 < (l0_0.length : Int)
              · rw [if_pos c9] at H
                have c9b0 : decide (x3_1 < (l0_0.length : Int)) = true := decide_eq_true c9
                clear c9
                replace H := Option.bind_eq_some_iff.mp H
                obtain ⟨t352, A100, H⟩ := H
                replace H : (if t352 = true then (some true) else (cleatref19_Big.l0 kj2 (wrap64 (x3_1 + 1)) l0_0 l0_1)) = some r := H
                have A10 := Aside0.mk A100
                clear A100
                by_cases c11 : t352 = true
                · subst c11
                  have H1 : (some true) = some r := by rw [if_pos rfl] at H; exact H
                  clear H
                  have H := H1
                  clear H1
                  obtain rfl := Option.some.inj H
                  have hcz12_0 : wc.cell? ⟨gb350, 0, none⟩ = some (.slice A0_0 l0_0.length c0_0) := (blk_cell BK350.out 0).trans rfl
                  have hcz12_1 : wc.cell? ⟨gb350, 1, none⟩ = some (.slice A0_1 l0_1.length c0_1) := (blk_cell BK350.out 1).trans rfl
                  have hfz12_0 := blk_frozen BK350.out 0
                  have hfz12_1 := blk_frozen BK350.out 1
                  have p351 : 0 ≤ (x3_1 : Int) := of_decide_eq_true (by first | (with_reducible assumption) | assumption)
                  have q351 : x3_1 < (l0_0.length : Int) := of_decide_eq_true (by first | (with_reducible assumption) | assumption)
                  obtain ⟨ad351, A351_5, c351_5, e351, hx351_0, hx351_1, hx351_2, hx351_3, hx351_4, hx351_5, hl351_5, hi351_5⟩ := at_T71 HR0_0.out x3_1 p351 q351
                  cases e351
                  replace hx351_0 := (HB.out.cell (World.block_lt_of_cell? w _ hx351_0)).trans hx351_0
                  replace hx351_1 := (HB.out.cell (World.block_lt_of_cell? w _ hx351_1)).trans hx351_1
                  replace hx351_2 := (HB.out.cell (World.block_lt_of_cell? w _ hx351_2)).trans hx351_2
                  replace hx351_3 := (HB.out.cell (World.block_lt_of_cell? w _ hx351_3)).trans hx351_3
                  replace hx351_4 := (HB.out.cell (World.block_lt_of_cell? w _ hx351_4)).trans hx351_4
                  replace hx351_5 := (HB.out.cell (World.block_lt_of_cell? w _ hx351_5)).trans hx351_5
                  have HR351_5 := Aside0.mk hi351_5
                  have HC351_5 := Aside0.mk hl351_5
                  clear hi351_5 hl351_5
                  replace p351 := eq_true p351
                  replace q351 := eq_true q351
                  go_wp2_with (first | ((with_reducible refine gate_callee (f := 29) rfl ?_); refine goesL_ (some 23) rfl rfl Tryd.func29 (by kernel_rfl) rfl #[.agg #[.string ((rd_T71 l0_0 x3_1).f0), .int .i64 ((rd_T71 l0_0 x3_1).f1), .bool ((rd_T71 l0_0 x3_1).f2), .int .i64 ((rd_T71 l0_0 x3_1).f3), .string ((rd_T71 l0_0 x3_1).f4), .slice A351_5 ((rd_T71 l0_0 x3_1).f5).length c351_5]] rfl (by (try simp only [List.map_toArray, List.map_cons, List.map_nil]); first | done | rfl | (simp only [List.length_drop, List.length_take]; rfl)) ?_; (with_reducible refine (cleatref16_Big.calls ((rd_T71 l0_0 x3_1).f0) ((rd_T71 l0_0 x3_1).f1) ((rd_T71 l0_0 x3_1).f2) ((rd_T71 l0_0 x3_1).f3) ((rd_T71 l0_0 x3_1).f4) _ _ ((rd_T71 l0_0 x3_1).f5) true _ ?side1 ?side2 A10.out).mono ?_); (case side1 => repeat (first | exact (Kd.C_below HR351_5.out HB.out) | (with_reducible refine Kd.C_alloc ?_ _) | (with_reducible refine Kd.C_drewN ?_ _) | (with_reducible refine Kd.C_drew ?_))); (case side2 => exact HC351_5.out); rintro e w13 ⟨rfl, hb⟩; refine ⟨_, rfl, ?_⟩; have n0_ := Aside0.mk (blk_below (g := gb350) (o := .cells #[.slice (some ad351) l0_0.length c0_0, .slice A0_1 l0_1.length c0_1] 48 (0, 0)) (by (with_reducible repeat (first | refine blk_drewN ?_ _ | refine blk_drew ?_ | refine blk_alloc ?_ _)); exact BK350.out) hb); have n1_ := Aside0.mk (below_step (by repeat (first | (with_reducible first | exact HB.out | apply below_alloc | apply pw_below_drewN | apply below_drew1 | refine below_set ?_ GE350.out) | exact HB.out)) hb); clear BK350; clear HB; have BK350 := n0_; have HB := n1_; clear n0_ n1_; (try clear hb); (try clear hb2); (try clear hk); (try clear hi)))
                  go_ret
                  exact ⟨by first | rfl | (simp [errW_none, errW_some] <;> rfl) | (simp [*, errW_none, errW_some] <;> rfl), by repeat (first | (with_reducible first | exact HB.out | apply below_alloc | apply pw_below_drewN | apply below_drew1 | refine below_set ?_ GE350.out) | exact HB.out)⟩
                · replace c11 := Bool.eq_false_iff.mpr c11
                  subst c11
                  have H1 : (cleatref19_Big.l0 kj2 (wrap64 (x3_1 + 1)) l0_0 l0_1) = some r := by rw [if_neg (show ¬ (false = true) by decide)] at H; exact H
                  clear H
                  have H := H1
                  clear H1
                  have H' := Aside0.mk H
                  clear H
                  have hcz14_0 : wc.cell? ⟨gb350, 0, none⟩ = some (.slice A0_0 l0_0.length c0_0) := (blk_cell BK350.out 0).trans rfl
                  have hcz14_1 : wc.cell? ⟨gb350, 1, none⟩ = some (.slice A0_1 l0_1.length c0_1) := (blk_cell BK350.out 1).trans rfl
                  have hfz14_0 := blk_frozen BK350.out 0
                  have hfz14_1 := blk_frozen BK350.out 1
                  have p351 : 0 ≤ (x3_1 : Int) := of_decide_eq_true (by first | (with_reducible assumption) | assumption)
                  have q351 : x3_1 < (l0_0.length : Int) := of_decide_eq_true (by first | (with_reducible assumption) | assumption)
                  obtain ⟨ad351, A351_5, c351_5, e351, hx351_0, hx351_1, hx351_2, hx351_3, hx351_4, hx351_5, hl351_5, hi351_5⟩ := at_T71 HR0_0.out x3_1 p351 q351
                  cases e351
                  replace hx351_0 := (HB.out.cell (World.block_lt_of_cell? w _ hx351_0)).trans hx351_0
                  replace hx351_1 := (HB.out.cell (World.block_lt_of_cell? w _ hx351_1)).trans hx351_1
                  replace hx351_2 := (HB.out.cell (World.block_lt_of_cell? w _ hx351_2)).trans hx351_2
                  replace hx351_3 := (HB.out.cell (World.block_lt_of_cell? w _ hx351_3)).trans hx351_3
                  replace hx351_4 := (HB.out.cell (World.block_lt_of_cell? w _ hx351_4)).trans hx351_4
                  replace hx351_5 := (HB.out.cell (World.block_lt_of_cell? w _ hx351_5)).trans hx351_5
                  have HR351_5 := Aside0.mk hi351_5
                  have HC351_5 := Aside0.mk hl351_5
                  clear hi351_5 hl351_5
                  replace p351 := eq_true p351
                  replace q351 := eq_true q351
                  go_wp2_with (first | ((with_reducible refine gate_callee (f := 29) rfl ?_); refine goesL_ (some 23) rfl rfl Tryd.func29 (by kernel_rfl) rfl #[.agg #[.string ((rd_T71 l0_0 x3_1).f0), .int .i64 ((rd_T71 l0_0 x3_1).f1), .bool ((rd_T71 l0_0 x3_1).f2), .int .i64 ((rd_T71 l0_0 x3_1).f3), .string ((rd_T71 l0_0 x3_1).f4), .slice A351_5 ((rd_T71 l0_0 x3_1).f5).length c351_5]] rfl (by (try simp only [List.map_toArray, List.map_cons, List.map_nil]); first | done | rfl | (simp only [List.length_drop, List.length_take]; rfl)) ?_; (with_reducible refine (cleatref16_Big.calls ((rd_T71 l0_0 x3_1).f0) ((rd_T71 l0_0 x3_1).f1) ((rd_T71 l0_0 x3_1).f2) ((rd_T71 l0_0 x3_1).f3) ((rd_T71 l0_0 x3_1).f4) _ _ ((rd_T71 l0_0 x3_1).f5) false _ ?side1 ?side2 A10.out).mono ?_); (case side1 => repeat (first | exact (Kd.C_below HR351_5.out HB.out) | (with_reducible refine Kd.C_alloc ?_ _) | (with_reducible refine Kd.C_drewN ?_ _) | (with_reducible refine Kd.C_drew ?_))); (case side2 => exact HC351_5.out); rintro e w15 ⟨rfl, hb⟩; refine ⟨_, rfl, ?_⟩; have n0_ := Aside0.mk (blk_below (g := gb350) (o := .cells #[.slice (some ad351) l0_0.length c0_0, .slice A0_1 l0_1.length c0_1] 48 (0, 0)) (by (with_reducible repeat (first | refine blk_drewN ?_ _ | refine blk_drew ?_ | refine blk_alloc ?_ _)); exact BK350.out) hb); have n1_ := Aside0.mk (below_step (by repeat (first | (with_reducible first | exact HB.out | apply below_alloc | apply pw_below_drewN | apply below_drew1 | refine below_set ?_ GE350.out) | exact HB.out)) hb); clear BK350; clear HB; have BK350 := n0_; have HB := n1_; clear n0_ n1_; (try clear hb); (try clear hb2); (try clear hk); (try clear hi)))
                  go_roundg kj2
                  case measure => have := HK1.out; have := HJ2.out; omega
                  case rel => exact ⟨(wrap64 (x3_1 + 1)), (by first | rfl | (simp; done) | (simp [*]; done)), H', ⟨by have := HK1.out; have := HJ2.out; omega⟩, ⟨by (with_reducible repeat (first | refine blk_drewN ?_ _ | refine blk_drew ?_ | refine blk_alloc ?_ _)); exact BK350.out⟩, ⟨by repeat (first | (with_reducible first | exact HB.out | apply below_alloc | apply pw_below_drewN | apply below_drew1 | refine below_set ?_ GE350.out) | exact HB.out)⟩⟩
              · rw [if_neg c9] at H
                exact absurd H (by simp)
            · rw [if_neg c8] at H
              exact absurd H (by simp)
          · replace c7 := Bool.eq_false_iff.mpr c7
            subst c7
            have H1 : (cleatref19_Big.l1 kj2 0 l0_0 l0_1) = some r := by rw [if_neg (show ¬ (false = true) by decide)] at H; exact H
            clear H
            have H := H1
            clear H1
            have H' := Aside0.mk H
            clear H
            go_wp2
            go_loopg [4] kj2 (fun kq v4 w' => ∃ (x4_3 : Int), v4 = .int .i64 x4_3 ∧ Aside0 (cleatref19_Big.l1 kq x4_3 l0_0 l0_1 = some r) ∧ Aside0 (kq ≤ kj2) ∧ Aside0 (w'.heap[gb350]? = some (.cells #[(.slice A0_0 l0_0.length c0_0), (.slice A0_1 l0_1.length c0_1)] 48 (0, 0))) ∧ Aside0 (Below w.heap.size w w'))
            case atStart => exact ⟨(0), (by first | rfl | (simp; done) | (simp [*]; done)), H', ⟨Nat.le_refl _⟩, ⟨by (with_reducible repeat (first | refine blk_drewN ?_ _ | refine blk_drew ?_ | refine blk_alloc ?_ _)); exact BK350.out⟩, ⟨by repeat (first | (with_reducible first | exact HB.out | apply below_alloc | apply pw_below_drewN | apply below_drew1 | refine below_set ?_ GE350.out) | exact HB.out)⟩⟩
            case round =>
              clear H'
              try clear c1
              try clear c2
              try clear p2
              try clear c3
              try clear p3
              try clear q3
              try clear hx3
              try clear c4
              try clear c4b0
              try clear p6
              try clear c7
              try clear c8
              try clear c8b0
              try clear c9
              try clear c9b0
              try clear c11
              try clear hcz12_0
              try clear hcz12_1
              try clear hcz14_0
              try clear hcz14_1
              try clear hcz5_0
              try clear hcz5_1
              try clear hcz6_0
              try clear hcz6_1
              try clear hfz12_0
              try clear hfz12_1
              try clear hfz14_0
              try clear hfz14_1
              try clear hfz5_0
              try clear hfz5_1
              try clear hfz6_0
              try clear hfz6_1
              try clear hx351_0
              try clear hx351_1
              try clear hx351_2
              try clear hx351_3
              try clear hx351_4
              try clear hx351_5
              try clear p2
              try clear p351
              try clear q351
              obtain ⟨x4_3, rfl, HA, HK3, BK350, HB⟩ := hrel
              cases gk with
              | zero => exact absurd HA.out (by simp [cleatref19_Big.l1])
              | succ k3 =>
                have H := HA.out
                clear HA
                simp only [cleatref19_Big.l1] at H
                have HC16 := Aside0.mk H
                clear H
                go_upto_region 7 with (fail)
                go_cut [34] (fun v34 wc => ∃ (kq : Nat) (x34_15 : Bool), v34 = .bool x34_15 ∧ Aside0 (cleatref19_Big.j3 kq x4_3 x34_15 l0_0 l0_1 = some r) ∧ Aside0 (kq ≤ k3) ∧ Aside0 (wc.heap[gb350]? = some (.cells #[(.slice A0_0 l0_0.length c0_0), (.slice A0_1 l0_1.length c0_1)] 48 (0, 0))) ∧ Aside0 (Below w.heap.size w wc))
                case first =>
                  have H := HC16.out
                  clear HC16
                  by_cases c17 : x4_3 < (l0_1.length : Int)
                  · rw [if_pos c17] at H
                    have c17b0 : decide (x4_3 < (l0_1.length : Int)) = true := decide_eq_true c17
                    clear c17
                    (first | rw [c17b0] | (simp only [i64_w, i32_w]; rw [c17b0]) | skip)
                    have H' := Aside0.mk H
                    clear H
                    have hcz18_0 : wr.cell? ⟨gb350, 0, none⟩ = some (.slice A0_0 l0_0.length c0_0) := (blk_cell BK350.out 0).trans rfl
                    have hcz18_1 : wr.cell? ⟨gb350, 1, none⟩ = some (.slice A0_1 l0_1.length c0_1) := (blk_cell BK350.out 1).trans rfl
                    have hfz18_0 := blk_frozen BK350.out 0
                    have hfz18_1 := blk_frozen BK350.out 1
                    go_wp2
                    go_meet
                    case rel => exact ⟨_, (decide ((l0_1.length : Int) ≤ 140)), (by first | rfl | (simp; done) | (simp [*]; done)), H', ⟨by have := HK1.out; have := HJ2.out; have := HK3.out; first | omega | exact Nat.le_refl _⟩, ⟨by (with_reducible repeat (first | refine blk_drewN ?_ _ | refine blk_drew ?_ | refine blk_alloc ?_ _)); exact BK350.out⟩, ⟨by repeat (first | (with_reducible first | exact HB.out | apply below_alloc | apply pw_below_drewN | apply below_drew1 | refine below_set ?_ GE350.out) | exact HB.out)⟩⟩
                  · rw [if_neg c17] at H
                    have c17b0 : decide (x4_3 < (l0_1.length : Int)) = false := decide_eq_false c17
                    clear c17
                    (first | rw [c17b0] | (simp only [i64_w, i32_w]; rw [c17b0]) | skip)
                    have H' := Aside0.mk H
                    clear H
                    have hcz19_0 : wr.cell? ⟨gb350, 0, none⟩ = some (.slice A0_0 l0_0.length c0_0) := (blk_cell BK350.out 0).trans rfl
                    have hcz19_1 : wr.cell? ⟨gb350, 1, none⟩ = some (.slice A0_1 l0_1.length c0_1) := (blk_cell BK350.out 1).trans rfl
                    have hfz19_0 := blk_frozen BK350.out 0
                    have hfz19_1 := blk_frozen BK350.out 1
                    go_wp2
                    go_meet
                    case rel => exact ⟨_, (false), (by first | rfl | (simp; done) | (simp [*]; done)), H', ⟨by have := HK1.out; have := HJ2.out; have := HK3.out; first | omega | exact Nat.le_refl _⟩, ⟨by (with_reducible repeat (first | refine blk_drewN ?_ _ | refine blk_drew ?_ | refine blk_alloc ?_ _)); exact BK350.out⟩, ⟨by repeat (first | (with_reducible first | exact HB.out | apply below_alloc | apply pw_below_drewN | apply below_drew1 | refine below_set ?_ GE350.out) | exact HB.out)⟩⟩
                case rest =>
                  clear HC16
                  try clear c1
                  try clear c2
                  try clear p2
                  try clear c3
                  try clear p3
                  try clear q3
                  try clear hx3
                  try clear c4
                  try clear c4b0
                  try clear p6
                  try clear c7
                  try clear c8
                  try clear c8b0
                  try clear c9
                  try clear c9b0
                  try clear c11
                  try clear c17
                  try clear c17b0
                  try clear hcz12_0
                  try clear hcz12_1
                  try clear hcz14_0
                  try clear hcz14_1
                  try clear hcz18_0
                  try clear hcz18_1
                  try clear hcz19_0
                  try clear hcz19_1
                  try clear hcz5_0
                  try clear hcz5_1
                  try clear hcz6_0
                  try clear hcz6_1
                  try clear hfz12_0
                  try clear hfz12_1
                  try clear hfz14_0
                  try clear hfz14_1
                  try clear hfz18_0
                  try clear hfz18_1
                  try clear hfz19_0
                  try clear hfz19_1
                  try clear hfz5_0
                  try clear hfz5_1
                  try clear hfz6_0
                  try clear hfz6_1
                  try clear hx351_0
                  try clear hx351_1
                  try clear hx351_2
                  try clear hx351_3
                  try clear hx351_4
                  try clear hx351_5
                  try clear p2
                  try clear p3
                  try clear p351
                  try clear p6
                  try clear q3
                  try clear q351
                  obtain ⟨kq, x34_15, rfl, HA, HJ15, BK350, HB⟩ := hcut
                  cases kq with
                  | zero => exact absurd HA.out (by simp [cleatref19_Big.j3])
                  | succ kj15 =>
                    have H := HA.out
                    clear HA
                    simp only [cleatref19_Big.j3] at H
                    by_cases c20 : x34_15 = true
                    · subst c20
                      have H1 : (if 0 ≤ x4_3 then (if x4_3 < (l0_1.length : Int) then (if (((rd_T50 l0_1 x4_3).f0).size : Int) > 100 then (some true) else (cleatref19_Big.l1 kj15 (wrap64 (x4_3 + 1)) l0_0 l0_1)) else (none)) else (none)) = some r := by rw [if_pos rfl] at H; exact H
                      clear H
                      have H := H1
                      clear H1
                      by_cases c21 : 0 ≤ x4_3
                      · rw [if_pos c21] at H
                        have c21b0 : decide (0 ≤ x4_3) = true := decide_eq_true c21
                        clear c21
                        by_cases c22 : x4_3 < (l0_1.length : Int)
                        · rw [if_pos c22] at H
                          have c22b0 : decide (x4_3 < (l0_1.length : Int)) = true := decide_eq_true c22
                          clear c22
                          by_cases c23 : (((rd_T50 l0_1 x4_3).f0).size : Int) > 100
                          · rw [if_pos c23] at H
                            have c23b0 : decide (100 < (((rd_T50 l0_1 x4_3).f0).size : Int)) = true := decide_eq_true c23
                            have c23b1 : decide (100 < ((rd_T50 l0_1 x4_3).f0).size) = true := decide_eq_true (by omega)
                            clear c23
                            obtain rfl := Option.some.inj H
                            have hcz24_0 : wc.cell? ⟨gb350, 0, none⟩ = some (.slice A0_0 l0_0.length c0_0) := (blk_cell BK350.out 0).trans rfl
                            have hcz24_1 : wc.cell? ⟨gb350, 1, none⟩ = some (.slice A0_1 l0_1.length c0_1) := (blk_cell BK350.out 1).trans rfl
                            have hfz24_0 := blk_frozen BK350.out 0
                            have hfz24_1 := blk_frozen BK350.out 1
                            have p353 : 0 ≤ (x4_3 : Int) := of_decide_eq_true (by first | (with_reducible assumption) | assumption)
                            have q353 : x4_3 < (l0_1.length : Int) := of_decide_eq_true (by first | (with_reducible assumption) | assumption)
                            obtain ⟨ad353, e353, hx353_0, hx353_1, hx353_2, hx353_3⟩ := at_T50 HR0_1.out x4_3 p353 q353
                            cases e353
                            replace hx353_0 := (HB.out.cell (World.block_lt_of_cell? w _ hx353_0)).trans hx353_0
                            replace hx353_1 := (HB.out.cell (World.block_lt_of_cell? w _ hx353_1)).trans hx353_1
                            replace hx353_2 := (HB.out.cell (World.block_lt_of_cell? w _ hx353_2)).trans hx353_2
                            replace hx353_3 := (HB.out.cell (World.block_lt_of_cell? w _ hx353_3)).trans hx353_3
                            replace p353 := eq_true p353
                            replace q353 := eq_true q353
                            go_wp2
                            go_ret
                            exact ⟨by first | rfl | (simp [errW_none, errW_some] <;> rfl) | (simp [*, errW_none, errW_some] <;> rfl), by repeat (first | (with_reducible first | exact HB.out | apply below_alloc | apply pw_below_drewN | apply below_drew1 | refine below_set ?_ GE350.out) | exact HB.out)⟩
                          · rw [if_neg c23] at H
                            have c23b0 : decide (100 < (((rd_T50 l0_1 x4_3).f0).size : Int)) = false := decide_eq_false c23
                            have c23b1 : decide (100 < ((rd_T50 l0_1 x4_3).f0).size) = false := decide_eq_false (by omega)
                            clear c23
                            have H' := Aside0.mk H
                            clear H
                            have hcz25_0 : wc.cell? ⟨gb350, 0, none⟩ = some (.slice A0_0 l0_0.length c0_0) := (blk_cell BK350.out 0).trans rfl
                            have hcz25_1 : wc.cell? ⟨gb350, 1, none⟩ = some (.slice A0_1 l0_1.length c0_1) := (blk_cell BK350.out 1).trans rfl
                            have hfz25_0 := blk_frozen BK350.out 0
                            have hfz25_1 := blk_frozen BK350.out 1
                            have p353 : 0 ≤ (x4_3 : Int) := of_decide_eq_true (by first | (with_reducible assumption) | assumption)
                            have q353 : x4_3 < (l0_1.length : Int) := of_decide_eq_true (by first | (with_reducible assumption) | assumption)
                            obtain ⟨ad353, e353, hx353_0, hx353_1, hx353_2, hx353_3⟩ := at_T50 HR0_1.out x4_3 p353 q353
                            cases e353
                            replace hx353_0 := (HB.out.cell (World.block_lt_of_cell? w _ hx353_0)).trans hx353_0
                            replace hx353_1 := (HB.out.cell (World.block_lt_of_cell? w _ hx353_1)).trans hx353_1
                            replace hx353_2 := (HB.out.cell (World.block_lt_of_cell? w _ hx353_2)).trans hx353_2
                            replace hx353_3 := (HB.out.cell (World.block_lt_of_cell? w _ hx353_3)).trans hx353_3
                            replace p353 := eq_true p353
                            replace q353 := eq_true q353
                            go_wp2
                            go_roundg kj15
                            case measure => have := HK1.out; have := HJ2.out; have := HK3.out; have := HJ15.out; omega
                            case rel => exact ⟨(wrap64 (x4_3 + 1)), (by first | rfl | (simp; done) | (simp [*]; done)), H', ⟨by have := HK1.out; have := HJ2.out; have := HK3.out; have := HJ15.out; omega⟩, ⟨by (with_reducible repeat (first | refine blk_drewN ?_ _ | refine blk_drew ?_ | refine blk_alloc ?_ _)); exact BK350.out⟩, ⟨by repeat (first | (with_reducible first | exact HB.out | apply below_alloc | apply pw_below_drewN | apply below_drew1 | refine below_set ?_ GE350.out) | exact HB.out)⟩⟩
                        · rw [if_neg c22] at H
                          exact absurd H (by simp)
                      · rw [if_neg c21] at H
                        exact absurd H (by simp)
                    · replace c20 := Bool.eq_false_iff.mpr c20
                      subst c20
                      have H1 : (if (l0_0.length : Int) > 40 then (some true) else (some (decide ((l0_1.length : Int) > 140)))) = some r := by rw [if_neg (show ¬ (false = true) by decide)] at H; exact H
                      clear H
                      have H := H1
                      clear H1
                      by_cases c26 : (l0_0.length : Int) > 40
                      · rw [if_pos c26] at H
                        have c26b0 : decide (40 < (l0_0.length : Int)) = true := decide_eq_true c26
                        have c26b1 : decide (40 < l0_0.length) = true := decide_eq_true (by omega)
                        clear c26
                        obtain rfl := Option.some.inj H
                        have hcz27_0 : wc.cell? ⟨gb350, 0, none⟩ = some (.slice A0_0 l0_0.length c0_0) := (blk_cell BK350.out 0).trans rfl
                        have hcz27_1 : wc.cell? ⟨gb350, 1, none⟩ = some (.slice A0_1 l0_1.length c0_1) := (blk_cell BK350.out 1).trans rfl
                        have hfz27_0 := blk_frozen BK350.out 0
                        have hfz27_1 := blk_frozen BK350.out 1
                        go_wp2
                        go_ret
                        exact ⟨by first | rfl | (simp [errW_none, errW_some] <;> rfl) | (simp [*, errW_none, errW_some] <;> rfl), by repeat (first | (with_reducible first | exact HB.out | apply below_alloc | apply pw_below_drewN | apply below_drew1 | refine below_set ?_ GE350.out) | exact HB.out)⟩
                      · rw [if_neg c26] at H
                        have c26b0 : decide (40 < (l0_0.length : Int)) = false := decide_eq_false c26
                        have c26b1 : decide (40 < l0_0.length) = false := decide_eq_false (by omega)
                        clear c26
                        obtain rfl := Option.some.inj H
                        have hcz28_0 : wc.cell? ⟨gb350, 0, none⟩ = some (.slice A0_0 l0_0.length c0_0) := (blk_cell BK350.out 0).trans rfl
                        have hcz28_1 : wc.cell? ⟨gb350, 1, none⟩ = some (.slice A0_1 l0_1.length c0_1) := (blk_cell BK350.out 1).trans rfl
                        have hfz28_0 := blk_frozen BK350.out 0
                        have hfz28_1 := blk_frozen BK350.out 1
                        go_wp2
                        go_ret
                        exact ⟨by first | rfl | (simp [errW_none, errW_some] <;> rfl) | (simp [*, errW_none, errW_some] <;> rfl), by repeat (first | (with_reducible first | exact HB.out | apply below_alloc | apply pw_below_drewN | apply below_drew1 | refine below_set ?_ GE350.out) | exact HB.out)⟩
end Go.Proofs.YtngmipfodjgmmaaDoor.P
