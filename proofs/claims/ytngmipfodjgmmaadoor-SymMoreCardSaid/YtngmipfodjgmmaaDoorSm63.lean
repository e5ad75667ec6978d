/- The walks and the plain laws of this claim, a part: what each function of the program computes. -/
import Derived.Test.YtngmipfodjgmmaaDoorSm23
import Derived.Test.YtngmipfodjgmmaaDoorSm62
import Derived.Test.YtngmipfodjgmmaaDoorSm26
namespace Go.Proofs.YtngmipfodjgmmaaDoor.P
open Go.RowKit Go.Proofs.YtngmipfodjgmmaaDoorW.PrintWords Go.Proofs.YtngmipfodjgmmaaDoorW.PrintLast Go.Proofs.YtngmipfodjgmmaaDoorW.PrintMore
attribute [local go_sem] max2_int min2_int max_two min_two max_three min_three max_four min_four   -- for this text's walks alone
set_option linter.unusedVariables false
set_option linter.unusedSimpArgs false
attribute [local go_sem high] eqA56
mutual
def cleatref20_Big.l0 : Nat → List (S48) → Int → Option (Bool)
  | 0, _, _ => none
  | k + 1, x0, x3 => if x3 < (x0.length : Int) then (cleatref20_Big.j1 k x0 x3 (decide ((x0.length : Int) ≤ 12))) else (cleatref20_Big.j1 k x0 x3 false)
def cleatref20_Big.j1 : Nat → List (S48) → Int → Bool → Option (Bool)
  | 0, _, _, _ => none
  | k + 1, x0, x3, x12 => if x12 = true then (if 0 ≤ x3 then (if x3 < (x0.length : Int) then ((cleatref19_Big.f k ((rd_T48 x0 x3).f0) ((rd_T48 x0 x3).f1)).bind fun t355 => (if t355 = true then (some true) else (cleatref20_Big.l0 k x0 (wrap64 (x3 + 1))))) else (none)) else (none)) else (some (decide ((x0.length : Int) > 12)))
end
def cleatref20_Big.f (k : Nat) (l0 : List (S48)) : Option (Bool) := cleatref20_Big.l0 k l0 0
set_option maxHeartbeats 8000000 in
set_option maxRecDepth 100000 in
theorem cleatref20_Big.calls (k : Nat) (A0 : Option Addr) (c0 : Nat) (l0 : List (S48)) (r : Bool) (w : World) (hr0 : Kd.C k48 w A0 l0.length l0) (hc0 : l0.length ≤ c0) (h : cleatref20_Big.f k l0 = some r) :
    Calls Tryd.prog 18 #[.slice A0 l0.length c0] w fun e w' => e = .returned (.bool r) ∧ Below w.heap.size w w' := by
  have hu48 := Tryd.underlying48
  have HR0 := Aside0.mk hr0
  have HC0 := Aside0.mk hc0
  clear hr0 hc0
  have HB := Aside0.mk (Below.refl w.heap.size w)
  have H : (cleatref20_Big.l0 k l0 0) = some r := h
  clear h
  have H' := Aside0.mk H
  clear H
  go_enter Tryd.func18, Tryd.ntmps18
  go_wp2
  go_loopg [3] k (fun kq v3 w' => ∃ (x3_1 : Int), v3 = .int .i64 x3_1 ∧ Aside0 (cleatref20_Big.l0 kq l0 x3_1 = some r) ∧ Aside0 (kq ≤ k) ∧ Aside0 (Below w.heap.size w w'))
  case atStart => exact ⟨(0), (by first | rfl | (simp; done) | (simp [*]; done)), H', ⟨Nat.le_refl _⟩, ⟨by repeat (first | (with_reducible first | exact HB.out | apply below_alloc | apply pw_below_drewN | apply below_drew1) | exact HB.out)⟩⟩
  case round =>
    clear H'
    try clear c1
    obtain ⟨x3_1, rfl, HA, HK1, HB⟩ := hrel
    cases gk with
    | zero => exact absurd HA.out (by simp [cleatref20_Big.l0])
    | succ k1 =>
      have H := HA.out
      clear HA
      simp only [cleatref20_Big.l0] at H
      have HC2 := Aside0.mk H
      clear H
      go_upto_region 2 with (fail)
      go_cut [12] (fun v12 wc => ∃ (kq : Nat) (x12_1 : Bool), v12 = .bool x12_1 ∧ Aside0 (cleatref20_Big.j1 kq l0 x3_1 x12_1 = some r) ∧ Aside0 (kq ≤ k1) ∧ Aside0 (Below w.heap.size w wc))
      case first =>
        have H := HC2.out
        clear HC2
        by_cases c3 : x3_1 < (l0.length : Int)
        · rw [if_pos c3] at H
          have c3b0 : decide (x3_1 < (l0.length : Int)) = true := decide_eq_true c3
          clear c3
          (first | rw [c3b0] | (simp only [i64_w, i32_w]; rw [c3b0]) | skip)
          have H' := Aside0.mk H
          clear H
          go_wp2
          go_meet
          case rel => exact ⟨_, (decide ((l0.length : Int) ≤ 12)), (by first | rfl | (simp; done) | (simp [*]; done)), H', ⟨by have := HK1.out; first | omega | exact Nat.le_refl _⟩, ⟨by repeat (first | (with_reducible first | exact HB.out | apply below_alloc | apply pw_below_drewN | apply below_drew1) | exact HB.out)⟩⟩
        · rw [if_neg c3] at H
          have c3b0 : decide (x3_1 < (l0.length : Int)) = false := decide_eq_false c3
          clear c3
          (first | rw [c3b0] | (simp only [i64_w, i32_w]; rw [c3b0]) | skip)
          have H' := Aside0.mk H
          clear H
          go_wp2
          go_meet
          case rel => exact ⟨_, (false), (by first | rfl | (simp; done) | (simp [*]; done)), H', ⟨by have := HK1.out; first | omega | exact Nat.le_refl _⟩, ⟨by repeat (first | (with_reducible first | exact HB.out | apply below_alloc | apply pw_below_drewN | apply below_drew1) | exact HB.out)⟩⟩
      case rest =>
        clear HC2
        try clear c1
        try clear p2
        try clear c3
        try clear c3b0
        obtain ⟨kq, x12_1, rfl, HA, HJ1, HB⟩ := hcut
        cases kq with
        | zero => exact absurd HA.out (by simp [cleatref20_Big.j1])
        | succ kj1 =>
          have H := HA.out
          clear HA
          simp only [cleatref20_Big.j1] at H
          by_cases c4 : x12_1 = true
          · subst c4
            have H1 : (if 0 ≤ x3_1 then (if x3_1 < (l0.length : Int) then ((cleatref19_Big.f kj1 ((rd_T48 l0 x3_1).f0) ((rd_T48 l0 x3_1).f1)).bind fun t355 => (if t355 = true then (some true) else (cleatref20_Big.l0 kj1 l0 (wrap64 (x3_1 + 1))))) else (none)) else (none)) = some r := by rw [if_pos rfl] at H; exact H
            clear H
            have H := H1
            clear H1
            by_cases c5 : 0 ≤ x3_1
            · rw [if_pos c5] at H
              have c5b0 : decide (0 ≤ x3_1) = true := decide_eq_true c5
              clear c5
              by_cases c6 : x3_1 < (l0.length : Int)
              · rw [if_pos c6] at H
                have c6b0 : decide (x3_1 < (l0.length : Int)) = true := decide_eq_true c6
                clear c6
                replace H := Option.bind_eq_some_iff.mp H
                obtain ⟨t355, A70, H⟩ := H
                replace H : (if t355 = true then (some true) else (cleatref20_Big.l0 kj1 l0 (wrap64 (x3_1 + 1)))) = some r := H
                have A7 := Aside0.mk A70
                clear A70
                by_cases c8 : t355 = true
                · subst c8
                  have H1 : (some true) = some r := by rw [if_pos rfl] at H; exact H
                  clear H
                  have H := H1
                  clear H1
                  obtain rfl := Option.some.inj H
                  have p354 : 0 ≤ (x3_1 : Int) := of_decide_eq_true (by first | (with_reducible assumption) | assumption)
                  have q354 : x3_1 < (l0.length : Int) := of_decide_eq_true (by first | (with_reducible assumption) | assumption)
                  obtain ⟨ad354, A354_0, c354_0, A354_1, c354_1, e354, hx354_0, hx354_1, hl354_0, hi354_0, hl354_1, hi354_1⟩ := at_T48 HR0.out x3_1 p354 q354
                  cases e354
                  replace hx354_0 := (HB.out.cell (World.block_lt_of_cell? w _ hx354_0)).trans hx354_0
                  replace hx354_1 := (HB.out.cell (World.block_lt_of_cell? w _ hx354_1)).trans hx354_1
                  have HR354_0 := Aside0.mk hi354_0
                  have HC354_0 := Aside0.mk hl354_0
                  clear hi354_0 hl354_0
                  have HR354_1 := Aside0.mk hi354_1
                  have HC354_1 := Aside0.mk hl354_1
                  clear hi354_1 hl354_1
                  replace p354 := eq_true p354
                  replace q354 := eq_true q354
                  go_wp2_with (first | ((with_reducible refine gate_callee (f := 39) rfl ?_); refine goesL_ (some 19) rfl rfl Tryd.func39 (by kernel_rfl) rfl #[.agg #[.slice A354_0 ((rd_T48 l0 x3_1).f0).length c354_0, .slice A354_1 ((rd_T48 l0 x3_1).f1).length c354_1]] rfl (by (try simp only [List.map_toArray, List.map_cons, List.map_nil]); first | done | rfl | (simp only [List.length_drop, List.length_take]; rfl)) ?_; (with_reducible refine (cleatref19_Big.calls kj1 _ _ ((rd_T48 l0 x3_1).f0) _ _ ((rd_T48 l0 x3_1).f1) true _ ?side1 ?side2 ?side3 ?side4 A7.out).mono ?_); (case side1 => repeat (first | exact (Kd.C_below HR354_0.out HB.out) | (with_reducible refine Kd.C_alloc ?_ _) | (with_reducible refine Kd.C_drewN ?_ _) | (with_reducible refine Kd.C_drew ?_))); (case side2 => exact HC354_0.out); (case side3 => repeat (first | exact (Kd.C_below HR354_1.out HB.out) | (with_reducible refine Kd.C_alloc ?_ _) | (with_reducible refine Kd.C_drewN ?_ _) | (with_reducible refine Kd.C_drew ?_))); (case side4 => exact HC354_1.out); rintro e w9 ⟨rfl, hb⟩; refine ⟨_, rfl, ?_⟩; have n0_ := Aside0.mk (below_step (by repeat (first | (with_reducible first | exact HB.out | apply below_alloc | apply pw_below_drewN | apply below_drew1) | exact HB.out)) hb); clear HB; have HB := n0_; clear n0_; (try clear hb); (try clear hb2); (try clear hk); (try clear hi)))
                  go_ret
                  exact ⟨by first | rfl | (simp [errW_none, errW_some] <;> rfl) | (simp [*, errW_none, errW_some] <;> rfl), by repeat (first | (with_reducible first | exact HB.out | apply below_alloc | apply pw_below_drewN | apply below_drew1) | exact HB.out)⟩
                · replace c8 := Bool.eq_false_iff.mpr c8
                  subst c8
                  have H1 : (cleatref20_Big.l0 kj1 l0 (wrap64 (x3_1 + 1))) = some r := by rw [if_neg (show ¬ (false = true) by decide)] at H; exact H
                  clear H
                  have H := H1
                  clear H1
                  have H' := Aside0.mk H
                  clear H
                  have p354 : 0 ≤ (x3_1 : Int) := of_decide_eq_true (by first | (with_reducible assumption) | assumption)
                  have q354 : x3_1 < (l0.length : Int) := of_decide_eq_true (by first | (with_reducible assumption) | assumption)
                  obtain ⟨ad354, A354_0, c354_0, A354_1, c354_1, e354, hx354_0, hx354_1, hl354_0, hi354_0, hl354_1, hi354_1⟩ := at_T48 HR0.out x3_1 p354 q354
                  cases e354
                  replace hx354_0 := (HB.out.cell (World.block_lt_of_cell? w _ hx354_0)).trans hx354_0
                  replace hx354_1 := (HB.out.cell (World.block_lt_of_cell? w _ hx354_1)).trans hx354_1
                  have HR354_0 := Aside0.mk hi354_0
                  have HC354_0 := Aside0.mk hl354_0
                  clear hi354_0 hl354_0
                  have HR354_1 := Aside0.mk hi354_1
                  have HC354_1 := Aside0.mk hl354_1
                  clear hi354_1 hl354_1
                  replace p354 := eq_true p354
                  replace q354 := eq_true q354
                  go_wp2_with (first | ((with_reducible refine gate_callee (f := 39) rfl ?_); refine goesL_ (some 19) rfl rfl Tryd.func39 (by kernel_rfl) rfl #[.agg #[.slice A354_0 ((rd_T48 l0 x3_1).f0).length c354_0, .slice A354_1 ((rd_T48 l0 x3_1).f1).length c354_1]] rfl (by (try simp only [List.map_toArray, List.map_cons, List.map_nil]); first | done | rfl | (simp only [List.length_drop, List.length_take]; rfl)) ?_; (with_reducible refine (cleatref19_Big.calls kj1 _ _ ((rd_T48 l0 x3_1).f0) _ _ ((rd_T48 l0 x3_1).f1) false _ ?side1 ?side2 ?side3 ?side4 A7.out).mono ?_); (case side1 => repeat (first | exact (Kd.C_below HR354_0.out HB.out) | (with_reducible refine Kd.C_alloc ?_ _) | (with_reducible refine Kd.C_drewN ?_ _) | (with_reducible refine Kd.C_drew ?_))); (case side2 => exact HC354_0.out); (case side3 => repeat (first | exact (Kd.C_below HR354_1.out HB.out) | (with_reducible refine Kd.C_alloc ?_ _) | (with_reducible refine Kd.C_drewN ?_ _) | (with_reducible refine Kd.C_drew ?_))); (case side4 => exact HC354_1.out); rintro e w10 ⟨rfl, hb⟩; refine ⟨_, rfl, ?_⟩; have n0_ := Aside0.mk (below_step (by repeat (first | (with_reducible first | exact HB.out | apply below_alloc | apply pw_below_drewN | apply below_drew1) | exact HB.out)) hb); clear HB; have HB := n0_; clear n0_; (try clear hb); (try clear hb2); (try clear hk); (try clear hi)))
                  go_roundg kj1
                  case measure => have := HK1.out; have := HJ1.out; omega
                  case rel => exact ⟨(wrap64 (x3_1 + 1)), (by first | rfl | (simp; done) | (simp [*]; done)), H', ⟨by have := HK1.out; have := HJ1.out; omega⟩, ⟨by repeat (first | (with_reducible first | exact HB.out | apply below_alloc | apply pw_below_drewN | apply below_drew1) | exact HB.out)⟩⟩
              · rw [if_neg c6] at H
                exact absurd H (by simp)
            · rw [if_neg c5] at H
              exact absurd H (by simp)
          · replace c4 := Bool.eq_false_iff.mpr c4
            subst c4
            have H1 : (some (decide ((l0.length : Int) > 12))) = some r := by rw [if_neg (show ¬ (false = true) by decide)] at H; exact H
            clear H
            have H := H1
            clear H1
            obtain rfl := Option.some.inj H
            go_wp2
            go_ret
            exact ⟨by first | rfl | (simp [errW_none, errW_some] <;> rfl) | (simp [*, errW_none, errW_some] <;> rfl), by repeat (first | (with_reducible first | exact HB.out | apply below_alloc | apply pw_below_drewN | apply below_drew1) | exact HB.out)⟩
mutual
def cleatref20_Same.l0 : Nat → List (List (S56)) → List (List (S56)) → Int → Option (Bool)
  | 0, _, _, _ => none
  | k + 1, x0, x1, x5 => if x5 < (x0.length : Int) then (if 0 ≤ x5 then (if x5 < (x1.length : Int) then (if ((rd_L18 x0 x5).length : Int) = ((rd_L18 x1 x5).length : Int) then (cleatref20_Same.l1 k x0 x1 x5 0) else (some false)) else (none)) else (none)) else (some true)
def cleatref20_Same.l1 : Nat → List (List (S56)) → List (List (S56)) → Int → Int → Option (Bool)
  | 0, _, _, _, _ => none
  | k + 1, x0, x1, x5, x6 => if 0 ≤ x5 then (if x5 < (x0.length : Int) then (if x6 < ((rd_L18 x0 x5).length : Int) then (if 0 ≤ x6 then (if x5 < (x1.length : Int) then (if x6 < ((rd_L18 x1 x5).length : Int) then (if (!(((rd_T56 (rd_L18 x0 x5) x6).f0) == ((rd_T56 (rd_L18 x1 x5) x6).f0)) || (!(((rd_T56 (rd_L18 x0 x5) x6).f1) == ((rd_T56 (rd_L18 x1 x5) x6).f1)) || (!(((rd_T56 (rd_L18 x0 x5) x6).f2) == ((rd_T56 (rd_L18 x1 x5) x6).f2))))) = true then (some false) else (cleatref20_Same.l1 k x0 x1 x5 (wrap64 (x6 + 1)))) else (none)) else (none)) else (none)) else (cleatref20_Same.l0 k x0 x1 (wrap64 (x5 + 1)))) else (none)) else (none)
end
def cleatref20_Same.f (k : Nat) (l0 : List (List (S56))) (l1 : List (List (S56))) : Option (Bool) := if (l0.length : Int) = (l1.length : Int) then (cleatref20_Same.l0 k l0 l1 0) else (some false)
set_option maxHeartbeats 8000000 in
set_option maxRecDepth 100000 in
theorem cleatref20_Same.calls (k : Nat) (A0 : Option Addr) (c0 : Nat) (l0 : List (List (S56))) (A1 : Option Addr) (c1 : Nat) (l1 : List (List (S56))) (r : Bool) (w : World) (hr0 : Kd.C (Kd.slice 56 k56) w A0 l0.length l0) (hc0 : l0.length ≤ c0) (hr1 : Kd.C (Kd.slice 56 k56) w A1 l1.length l1) (hc1 : l1.length ≤ c1) (h : cleatref20_Same.f k l0 l1 = some r) :
    Calls Tryd.prog 23 #[.slice A0 l0.length c0, .slice A1 l1.length c1] w fun e w' => e = .returned (.bool r) ∧ Drawn0 w w' := by
  have hu56 := Tryd.underlying56
  have HR0 := Aside0.mk hr0
  have HC0 := Aside0.mk hc0
  clear hr0 hc0
  have HR1 := Aside0.mk hr1
  have HC1 := Aside0.mk hc1
  clear hr1 hc1
  have H : (if (l0.length : Int) = (l1.length : Int) then (cleatref20_Same.l0 k l0 l1 0) else (some false)) = some r := h
  clear h
  by_cases c3 : (l0.length : Int) = (l1.length : Int)
  · rw [if_pos c3] at H
    have c3b0 : ((l0.length : Int) == (l1.length : Int)) = true := beq_iff_eq.mpr c3
    have c3b1 : ((l0.length : Int) != (l1.length : Int)) = false := bne_eq_false_iff_eq.mpr c3
    have c3b2 : (l0.length == l1.length) = true := by first | simpa using c3 | (simp at c3 ⊢; omega)
    clear c3
    have H' := Aside0.mk H
    clear H
    go_enter Tryd.func23, Tryd.ntmps23
    go_wp2
    repeat (go_quiet (fail); try go_wp2)
    go_loopg [5] k (fun kq v5 w' => ∃ (x5_1 : Int), v5 = .int .i64 x5_1 ∧ Aside0 (cleatref20_Same.l0 kq l0 l1 x5_1 = some r) ∧ Aside0 (kq ≤ k) ∧ Drawn0 w w')
    case atStart => exact ⟨(0), (by first | rfl | (simp; done) | (simp [*]; done)), H', ⟨Nat.le_refl _⟩, by repeat (first | exact Drawn0.refl _ | apply Drawn0.step)⟩
    case round =>
      clear H'
      try clear c1
      try clear c2
      try clear p2
      try clear c3
      try clear c3b0
      try clear c3b1
      try clear c3b2
      obtain ⟨x5_1, rfl, HA, HK1, ⟨m1, rfl⟩⟩ := hrel
      cases gk with
      | zero => exact absurd HA.out (by simp [cleatref20_Same.l0])
      | succ k1 =>
        have H := HA.out
        clear HA
        simp only [cleatref20_Same.l0] at H
        by_cases c4 : x5_1 < (l0.length : Int)
        · rw [if_pos c4] at H
          have c4b0 : decide (x5_1 < (l0.length : Int)) = true := decide_eq_true c4
          clear c4
          by_cases c5 : 0 ≤ x5_1
          · rw [if_pos c5] at H
            have c5b0 : decide (0 ≤ x5_1) = true := decide_eq_true c5
            clear c5
            by_cases c6 : x5_1 < (l1.length : Int)
            · rw [if_pos c6] at H
              have c6b0 : decide (x5_1 < (l1.length : Int)) = true := decide_eq_true c6
              clear c6
              by_cases c7 : ((rd_L18 l0 x5_1).length : Int) = ((rd_L18 l1 x5_1).length : Int)
              · rw [if_pos c7] at H
                have c7b0 : (((rd_L18 l0 x5_1).length : Int) == ((rd_L18 l1 x5_1).length : Int)) = true := beq_iff_eq.mpr c7
                have c7b1 : (((rd_L18 l0 x5_1).length : Int) != ((rd_L18 l1 x5_1).length : Int)) = false := bne_eq_false_iff_eq.mpr c7
                have c7b2 : ((rd_L18 l0 x5_1).length == (rd_L18 l1 x5_1).length) = true := by first | simpa using c7 | (simp at c7 ⊢; omega)
                clear c7
                have H' := Aside0.mk H
                clear H
                have p357 : 0 ≤ (x5_1 : Int) := of_decide_eq_true (by first | (with_reducible assumption) | assumption)
                have q357 : x5_1 < (l0.length : Int) := of_decide_eq_true (by first | (with_reducible assumption) | assumption)
                obtain ⟨ad357, A357_0, c357_0, e357, hx357_0, hl357_0, hi357_0⟩ := at_L18 HR0.out x5_1 p357 q357
                cases e357
                have HR357_0 := Aside0.mk hi357_0
                have HC357_0 := Aside0.mk hl357_0
                clear hi357_0 hl357_0
                replace p357 := eq_true p357
                replace q357 := eq_true q357
                have p358 : 0 ≤ (x5_1 : Int) := of_decide_eq_true (by first | (with_reducible assumption) | assumption)
                have q358 : x5_1 < (l1.length : Int) := of_decide_eq_true (by first | (with_reducible assumption) | assumption)
                obtain ⟨ad358, A358_0, c358_0, e358, hx358_0, hl358_0, hi358_0⟩ := at_L18 HR1.out x5_1 p358 q358
                cases e358
                have HR358_0 := Aside0.mk hi358_0
                have HC358_0 := Aside0.mk hl358_0
                clear hi358_0 hl358_0
                replace p358 := eq_true p358
                replace q358 := eq_true q358
                go_wp2
                repeat (go_quiet (fail); try go_wp2)
                go_loopg [6] k1 (fun kq v6 w' => ∃ (x6_2 : Int), v6 = .int .i64 x6_2 ∧ Aside0 (cleatref20_Same.l1 kq l0 l1 x5_1 x6_2 = some r) ∧ Aside0 (kq ≤ k1) ∧ Drawn0 w w')
                case atStart => exact ⟨(0), (by first | rfl | (simp; done) | (simp [*]; done)), H', ⟨Nat.le_refl _⟩, by repeat (first | exact Drawn0.refl _ | apply Drawn0.step)⟩
                case round =>
                  clear H'
                  try clear c1
                  try clear c2
                  try clear p2
                  try clear c3
                  try clear c3b0
                  try clear c3b1
                  try clear c3b2
                  try clear p3
                  try clear q3
                  try clear hx3
                  try clear c4
                  try clear c4b0
                  try clear c5
                  try clear c5b0
                  try clear c6
                  try clear c6b0
                  try clear c7
                  try clear c7b0
                  try clear c7b1
                  try clear c7b2
                  try clear hx357_0
                  try clear hx358_0
                  try clear p2
                  try clear p357
                  try clear p358
                  try clear q357
                  try clear q358
                  obtain ⟨x6_2, rfl, HA, HK2, ⟨m2, rfl⟩⟩ := hrel
                  cases gk with
                  | zero => exact absurd HA.out (by simp [cleatref20_Same.l1])
                  | succ k2 =>
                    have H := HA.out
                    clear HA
                    simp only [cleatref20_Same.l1] at H
                    by_cases c8 : 0 ≤ x5_1
                    · rw [if_pos c8] at H
                      have c8b0 : decide (0 ≤ x5_1) = true := decide_eq_true c8
                      clear c8
                      by_cases c9 : x5_1 < (l0.length : Int)
                      · rw [if_pos c9] at H
                        have c9b0 : decide (x5_1 < (l0.length : Int)) = true := decide_eq_true c9
                        clear c9
                        by_cases c10 : x6_2 < ((rd_L18 l0 x5_1).length : Int)
                        · rw [if_pos c10] at H
                          have c10b0 : decide (x6_2 < ((rd_L18 l0 x5_1).length : Int)) = true := decide_eq_true c10
                          clear c10
                          by_cases c11 : 0 ≤ x6_2
                          · rw [if_pos c11] at H
                            have c11b0 : decide (0 ≤ x6_2) = true := decide_eq_true c11
                            clear c11
                            by_cases c12 : x5_1 < (l1.length : Int)
                            · rw [if_pos c12] at H
                              have c12b0 : decide (x5_1 < (l1.length : Int)) = true := decide_eq_true c12
                              clear c12
                              by_cases c13 : x6_2 < ((rd_L18 l1 x5_1).length : Int)
                              · rw [if_pos c13] at H
                                have c13b0 : decide (x6_2 < ((rd_L18 l1 x5_1).length : Int)) = true := decide_eq_true c13
                                clear c13
                                by_cases c14 : (!(((rd_T56 (rd_L18 l0 x5_1) x6_2).f0) == ((rd_T56 (rd_L18 l1 x5_1) x6_2).f0)) || (!(((rd_T56 (rd_L18 l0 x5_1) x6_2).f1) == ((rd_T56 (rd_L18 l1 x5_1) x6_2).f1)) || (!(((rd_T56 (rd_L18 l0 x5_1) x6_2).f2) == ((rd_T56 (rd_L18 l1 x5_1) x6_2).f2))))) = true
                                · rw [if_pos c14] at H
                                  have c14b0 : (!(((rd_T56 (rd_L18 l0 x5_1) x6_2).f0) == ((rd_T56 (rd_L18 l1 x5_1) x6_2).f0)) || (!(((rd_T56 (rd_L18 l0 x5_1) x6_2).f1) == ((rd_T56 (rd_L18 l1 x5_1) x6_2).f1)) || (!(((rd_T56 (rd_L18 l0 x5_1) x6_2).f2) == ((rd_T56 (rd_L18 l1 x5_1) x6_2).f2))))) = true := c14
                                  clear c14
                                  obtain rfl := Option.some.inj H
                                  have p359 : 0 ≤ (x5_1 : Int) := of_decide_eq_true (by first | (with_reducible assumption) | assumption)
                                  have q359 : x5_1 < (l0.length : Int) := of_decide_eq_true (by first | (with_reducible assumption) | assumption)
                                  obtain ⟨ad359, A359_0, c359_0, e359, hx359_0, hl359_0, hi359_0⟩ := at_L18 HR0.out x5_1 p359 q359
                                  obtain rfl : ad357 = ad359 := (by injection e359)
                                  have HR359_0 := Aside0.mk hi359_0
                                  have HC359_0 := Aside0.mk hl359_0
                                  clear hi359_0 hl359_0
                                  replace p359 := eq_true p359
                                  replace q359 := eq_true q359
                                  have p360 : 0 ≤ (x5_1 : Int) := of_decide_eq_true (by first | (with_reducible assumption) | assumption)
                                  have q360 : x5_1 < (l0.length : Int) := of_decide_eq_true (by first | (with_reducible assumption) | assumption)
                                  obtain ⟨ad360, A360_0, c360_0, e360, hx360_0, hl360_0, hi360_0⟩ := at_L18 HR0.out x5_1 p360 q360
                                  obtain rfl : ad357 = ad360 := (by injection e360)
                                  have HR360_0 := Aside0.mk hi360_0
                                  have HC360_0 := Aside0.mk hl360_0
                                  clear hi360_0 hl360_0
                                  replace p360 := eq_true p360
                                  replace q360 := eq_true q360
                                  have ea_ := Option.some.inj (hx359_0.symm.trans hx360_0)
                                  injection ea_ with ea_ en_ ec_
                                  subst ea_
                                  subst ec_
                                  clear en_
                                  have p361 : 0 ≤ (x6_2 : Int) := of_decide_eq_true (by first | (with_reducible assumption) | assumption)
                                  have q361 : x6_2 < ((rd_L18 l0 x5_1).length : Int) := of_decide_eq_true (by first | (with_reducible assumption) | assumption)
                                  obtain ⟨ad361, e361, hx361_0, hx361_1, hx361_2⟩ := at_T56 HR360_0.out x6_2 p361 q361
                                  cases e361
                                  replace p361 := eq_true p361
                                  replace q361 := eq_true q361
                                  have p362 : 0 ≤ (x5_1 : Int) := of_decide_eq_true (by first | (with_reducible assumption) | assumption)
                                  have q362 : x5_1 < (l1.length : Int) := of_decide_eq_true (by first | (with_reducible assumption) | assumption)
                                  obtain ⟨ad362, A362_0, c362_0, e362, hx362_0, hl362_0, hi362_0⟩ := at_L18 HR1.out x5_1 p362 q362
                                  obtain rfl : ad358 = ad362 := (by injection e362)
                                  have HR362_0 := Aside0.mk hi362_0
                                  have HC362_0 := Aside0.mk hl362_0
                                  clear hi362_0 hl362_0
                                  replace p362 := eq_true p362
                                  replace q362 := eq_true q362
                                  have p363 : 0 ≤ (x6_2 : Int) := of_decide_eq_true (by first | (with_reducible assumption) | assumption)
                                  have q363 : x6_2 < ((rd_L18 l1 x5_1).length : Int) := of_decide_eq_true (by first | (with_reducible assumption) | assumption)
                                  obtain ⟨ad363, e363, hx363_0, hx363_1, hx363_2⟩ := at_T56 HR362_0.out x6_2 p363 q363
                                  cases e363
                                  replace p363 := eq_true p363
                                  replace q363 := eq_true q363
                                  go_wp2
                                  repeat (go_quiet (fail); try go_wp2)
                                  go_ret
                                  exact ⟨by first | rfl | (simp; done) | (simp [*]; done), by repeat (first | exact Drawn0.refl _ | apply Drawn0.step)⟩
                                · rw [if_neg c14] at H
                                  have c14b0 : (!(((rd_T56 (rd_L18 l0 x5_1) x6_2).f0) == ((rd_T56 (rd_L18 l1 x5_1) x6_2).f0)) || (!(((rd_T56 (rd_L18 l0 x5_1) x6_2).f1) == ((rd_T56 (rd_L18 l1 x5_1) x6_2).f1)) || (!(((rd_T56 (rd_L18 l0 x5_1) x6_2).f2) == ((rd_T56 (rd_L18 l1 x5_1) x6_2).f2))))) = false := by simpa using c14
                                  clear c14
                                  have H' := Aside0.mk H
                                  clear H
                                  have p359 : 0 ≤ (x5_1 : Int) := of_decide_eq_true (by first | (with_reducible assumption) | assumption)
                                  have q359 : x5_1 < (l0.length : Int) := of_decide_eq_true (by first | (with_reducible assumption) | assumption)
                                  obtain ⟨ad359, A359_0, c359_0, e359, hx359_0, hl359_0, hi359_0⟩ := at_L18 HR0.out x5_1 p359 q359
                                  obtain rfl : ad357 = ad359 := (by injection e359)
                                  have HR359_0 := Aside0.mk hi359_0
                                  have HC359_0 := Aside0.mk hl359_0
                                  clear hi359_0 hl359_0
                                  replace p359 := eq_true p359
                                  replace q359 := eq_true q359
                                  have p360 : 0 ≤ (x5_1 : Int) := of_decide_eq_true (by first | (with_reducible assumption) | assumption)
                                  have q360 : x5_1 < (l0.length : Int) := of_decide_eq_true (by first | (with_reducible assumption) | assumption)
                                  obtain ⟨ad360, A360_0, c360_0, e360, hx360_0, hl360_0, hi360_0⟩ := at_L18 HR0.out x5_1 p360 q360
                                  obtain rfl : ad357 = ad360 := (by injection e360)
                                  have HR360_0 := Aside0.mk hi360_0
                                  have HC360_0 := Aside0.mk hl360_0
                                  clear hi360_0 hl360_0
                                  replace p360 := eq_true p360
                                  replace q360 := eq_true q360
                                  have ea_ := Option.some.inj (hx359_0.symm.trans hx360_0)
                                  injection ea_ with ea_ en_ ec_
                                  subst ea_
                                  subst ec_
                                  clear en_
                                  have p361 : 0 ≤ (x6_2 : Int) := of_decide_eq_true (by first | (with_reducible assumption) | assumption)
                                  have q361 : x6_2 < ((rd_L18 l0 x5_1).length : Int) := of_decide_eq_true (by first | (with_reducible assumption) | assumption)
                                  obtain ⟨ad361, e361, hx361_0, hx361_1, hx361_2⟩ := at_T56 HR360_0.out x6_2 p361 q361
                                  cases e361
                                  replace p361 := eq_true p361
                                  replace q361 := eq_true q361
                                  have p362 : 0 ≤ (x5_1 : Int) := of_decide_eq_true (by first | (with_reducible assumption) | assumption)
                                  have q362 : x5_1 < (l1.length : Int) := of_decide_eq_true (by first | (with_reducible assumption) | assumption)
                                  obtain ⟨ad362, A362_0, c362_0, e362, hx362_0, hl362_0, hi362_0⟩ := at_L18 HR1.out x5_1 p362 q362
                                  obtain rfl : ad358 = ad362 := (by injection e362)
                                  have HR362_0 := Aside0.mk hi362_0
                                  have HC362_0 := Aside0.mk hl362_0
                                  clear hi362_0 hl362_0
                                  replace p362 := eq_true p362
                                  replace q362 := eq_true q362
                                  have p363 : 0 ≤ (x6_2 : Int) := of_decide_eq_true (by first | (with_reducible assumption) | assumption)
                                  have q363 : x6_2 < ((rd_L18 l1 x5_1).length : Int) := of_decide_eq_true (by first | (with_reducible assumption) | assumption)
                                  obtain ⟨ad363, e363, hx363_0, hx363_1, hx363_2⟩ := at_T56 HR362_0.out x6_2 p363 q363
                                  cases e363
                                  replace p363 := eq_true p363
                                  replace q363 := eq_true q363
                                  go_wp2
                                  repeat (go_quiet (fail); try go_wp2)
                                  go_roundg k2
                                  case measure => have := HK1.out; have := HK2.out; omega
                                  case rel => exact ⟨(wrap64 (x6_2 + 1)), (by first | rfl | (simp; done) | (simp [*]; done)), H', ⟨by have := HK1.out; have := HK2.out; omega⟩, by repeat (first | exact Drawn0.refl _ | apply Drawn0.step)⟩
                              · rw [if_neg c13] at H
                                exact absurd H (by simp)
                            · rw [if_neg c12] at H
                              exact absurd H (by simp)
                          · rw [if_neg c11] at H
                            exact absurd H (by simp)
                        · rw [if_neg c10] at H
                          have c10b0 : decide (x6_2 < ((rd_L18 l0 x5_1).length : Int)) = false := decide_eq_false c10
                          clear c10
                          have H' := Aside0.mk H
                          clear H
                          have p359 : 0 ≤ (x5_1 : Int) := of_decide_eq_true (by first | (with_reducible assumption) | assumption)
                          have q359 : x5_1 < (l0.length : Int) := of_decide_eq_true (by first | (with_reducible assumption) | assumption)
                          obtain ⟨ad359, A359_0, c359_0, e359, hx359_0, hl359_0, hi359_0⟩ := at_L18 HR0.out x5_1 p359 q359
                          obtain rfl : ad357 = ad359 := (by injection e359)
                          have HR359_0 := Aside0.mk hi359_0
                          have HC359_0 := Aside0.mk hl359_0
                          clear hi359_0 hl359_0
                          replace p359 := eq_true p359
                          replace q359 := eq_true q359
                          go_wp2
                          repeat (go_quiet (fail); try go_wp2)
                          go_roundg k2
                          case measure => have := HK1.out; have := HK2.out; omega
                          case rel => exact ⟨(wrap64 (x5_1 + 1)), (by first | rfl | (simp; done) | (simp [*]; done)), H', ⟨by have := HK1.out; have := HK2.out; omega⟩, by repeat (first | exact Drawn0.refl _ | apply Drawn0.step)⟩
                      · rw [if_neg c9] at H
                        exact absurd H (by simp)
                    · rw [if_neg c8] at H
                      exact absurd H (by simp)
              · rw [if_neg c7] at H
                have c7b0 : (((rd_L18 l0 x5_1).length : Int) == ((rd_L18 l1 x5_1).length : Int)) = false := beq_eq_false_iff_ne.mpr c7
                have c7b1 : (((rd_L18 l0 x5_1).length : Int) != ((rd_L18 l1 x5_1).length : Int)) = true := bne_iff_ne.mpr c7
                have c7b2 : ((rd_L18 l0 x5_1).length == (rd_L18 l1 x5_1).length) = false := by first | simpa using c7 | (simp at c7 ⊢; omega)
                obtain rfl := Option.some.inj H
                have p357 : 0 ≤ (x5_1 : Int) := of_decide_eq_true (by first | (with_reducible assumption) | assumption)
                have q357 : x5_1 < (l0.length : Int) := of_decide_eq_true (by first | (with_reducible assumption) | assumption)
                obtain ⟨ad357, A357_0, c357_0, e357, hx357_0, hl357_0, hi357_0⟩ := at_L18 HR0.out x5_1 p357 q357
                cases e357
                have HR357_0 := Aside0.mk hi357_0
                have HC357_0 := Aside0.mk hl357_0
                clear hi357_0 hl357_0
                replace p357 := eq_true p357
                replace q357 := eq_true q357
                have p358 : 0 ≤ (x5_1 : Int) := of_decide_eq_true (by first | (with_reducible assumption) | assumption)
                have q358 : x5_1 < (l1.length : Int) := of_decide_eq_true (by first | (with_reducible assumption) | assumption)
                obtain ⟨ad358, A358_0, c358_0, e358, hx358_0, hl358_0, hi358_0⟩ := at_L18 HR1.out x5_1 p358 q358
                cases e358
                have HR358_0 := Aside0.mk hi358_0
                have HC358_0 := Aside0.mk hl358_0
                clear hi358_0 hl358_0
                replace p358 := eq_true p358
                replace q358 := eq_true q358
                go_wp2
                repeat (go_quiet (fail); try go_wp2)
                go_ret
                exact ⟨by first | rfl | (simp; done) | (simp [*]; done), by repeat (first | exact Drawn0.refl _ | apply Drawn0.step)⟩
            · rw [if_neg c6] at H
              exact absurd H (by simp)
          · rw [if_neg c5] at H
            exact absurd H (by simp)
        · rw [if_neg c4] at H
          have c4b0 : decide (x5_1 < (l0.length : Int)) = false := decide_eq_false c4
          clear c4
          obtain rfl := Option.some.inj H
          go_wp2
          repeat (go_quiet (fail); try go_wp2)
          go_ret
          exact ⟨by first | rfl | (simp; done) | (simp [*]; done), by repeat (first | exact Drawn0.refl _ | apply Drawn0.step)⟩
  · rw [if_neg c3] at H
    have c3b0 : ((l0.length : Int) == (l1.length : Int)) = false := beq_eq_false_iff_ne.mpr c3
    have c3b1 : ((l0.length : Int) != (l1.length : Int)) = true := bne_iff_ne.mpr c3
    have c3b2 : (l0.length == l1.length) = false := by first | simpa using c3 | (simp at c3 ⊢; omega)
    obtain rfl := Option.some.inj H
    go_enter Tryd.func23, Tryd.ntmps23
    go_wp2
    repeat (go_quiet (fail); try go_wp2)
    go_ret
    exact ⟨by first | rfl | (simp; done) | (simp [*]; done), by repeat (first | exact Drawn0.refl _ | apply Drawn0.step)⟩
def cleatlaw20_weak.f (a0 : ByteArray) (a1 : Int) : Option ((List (S71)) × (List (S50))) := some ((([(⟨(⟨#[116]⟩ : ByteArray), 1, false, 0, (⟨#[]⟩ : ByteArray), ([] : List (S85))⟩ : S71)] : List (S71))), (([(⟨a0, a1, 0, 0⟩ : S50)] : List (S50))))
set_option maxHeartbeats 8000000 in
set_option maxRecDepth 100000 in
theorem cleatlaw20_weak.calls (a0 : ByteArray) (a1 : Int) (r1 : List (S71)) (r2 : List (S50)) (w : World) (h : cleatlaw20_weak.f a0 a1 = some (r1, r2)) :
    Calls Tryd.prog 44 #[.string a0, .int .i64 a1] w fun e w' => ∃ v0_ v1_ : Value, e = .returned (.agg #[v0_, v1_]) ∧ Kd.S k71 71 w' w.heap.size (fun _ => True) v0_ r1 ∧ Kd.R k50 50 w' w.heap.size (fun _ => True) v1_ r2 ∧ Below w.heap.size w w' := by
  have hu48 := Tryd.underlying48
  have hu71 := Tryd.underlying71
  have hu50 := Tryd.underlying50
  have HB := Aside0.mk (Below.refl w.heap.size w)
  have H : (some ((([(⟨(⟨#[116]⟩ : ByteArray), 1, false, 0, (⟨#[]⟩ : ByteArray), ([] : List (S85))⟩ : S71)] : List (S71))), (([(⟨a0, a1, 0, 0⟩ : S50)] : List (S50))))) = some (r1, r2) := h
  clear h
  obtain ⟨y365, hy365⟩ : ∃ y_ : List (S71), y_ = (([(⟨(⟨#[116]⟩ : ByteArray), 1, false, 0, (⟨#[]⟩ : ByteArray), ([] : List (S85))⟩ : S71)] : List (S71))) := ⟨_, rfl⟩
  replace H : (some (y365, (([(⟨a0, a1, 0, 0⟩ : S50)] : List (S50))))) = some (r1, r2) := by first | (rw [hy365]; with_reducible exact H) | (have H2_ := (Option.bind_some _ _).symm.trans H; rw [hy365]; with_reducible exact H2_) | (have H2_ := (Option.bind_some _ _).symm.trans H; with_reducible exact H2_) | with_reducible exact H | (rw [hy365]; exact H) | exact H
  have Ny365 := Aside0.mk hy365
  clear hy365
  obtain ⟨y368, hy368⟩ : ∃ y_ : List (S50), y_ = (([(⟨a0, a1, 0, 0⟩ : S50)] : List (S50))) := ⟨_, rfl⟩
  replace H : (some (y365, y368)) = some (r1, r2) := by first | (rw [hy368]; with_reducible exact H) | (have H2_ := (Option.bind_some _ _).symm.trans H; rw [hy368]; with_reducible exact H2_) | (have H2_ := (Option.bind_some _ _).symm.trans H; with_reducible exact H2_) | with_reducible exact H | (rw [hy368]; exact H) | exact H
  have Ny368 := Aside0.mk hy368
  clear hy368
  simp only [Option.some.injEq, Prod.mk.injEq] at H
  obtain ⟨rfl, rfl⟩ := H
  go_enter Tryd.func44, Tryd.ntmps44
  go_wp2_with (first | ((with_reducible refine gate_dst (N := 4) rfl ?_); refine box_event ?hg (N := 4) ?hd (cs := #[.slice none 0 0, .slice none 0 0]) (t := 48) ?hr ?_; (case hd => rfl); (case hg => rfl); (case hr => first | (go_simp; done) | (go_simp; rfl)); intro gb364 hg w3 hbox hb; have n0_ := Aside0.mk (below_step (by repeat (first | (with_reducible first | exact HB.out | apply below_alloc | apply pw_below_drewN | apply below_drew1) | exact HB.out)) hb); have n1_ := Aside0.mk (hbox); have n2_ := Aside0.mk ((by rw [hg]; exact (below_size (by repeat (first | (with_reducible first | exact HB.out | apply below_alloc | apply pw_below_drewN | apply below_drew1) | exact HB.out))) : w.heap.size ≤ gb364)); have n3_ := Aside0.mk ((by rw [hg]; exact (below_size (by repeat (first | (with_reducible first | exact HB.out | apply below_alloc | apply pw_below_drewN | apply below_drew1) | exact HB.out))) : w.heap.size ≤ gb364)); clear HB; have HB := n0_; have BK364 := n1_; have GW364 := n2_; have GE364 := n3_; clear n0_ n1_ n2_ n3_; clear hb hbox hg) | ((with_reducible refine gate_dst (N := 6) rfl ?_); refine Kd.S_lit k71 _ 71 ?hg (N := 6) ?hd (xs := ([(⟨(⟨#[116]⟩ : ByteArray), 1, false, 0, (⟨#[]⟩ : ByteArray), ([] : List (S85))⟩ : S71)] : List (S71))) (inner := [.string (⟨#[116]⟩ : ByteArray), .int .i64 1, .bool false, .int .i64 0, .string (⟨#[]⟩ : ByteArray), .slice none 0 0]) (ok := fun _ => True) (okp := fun _ => True) ?hr ?hp (fun _ hk => hk) trivial (Below.refl _ _) (Nat.le_refl _) (by simp) ?_; (case hd => rfl); (case hg => rfl); (case hr => first | (go_simp; done) | (go_simp; rfl)); (case hp => exact (Reps.c6 (show Kd.M k71 _ _ _ (⟨(⟨#[116]⟩ : ByteArray), 1, false, 0, (⟨#[]⟩ : ByteArray), ([] : List (S85))⟩ : S71) [.string (⟨#[116]⟩ : ByteArray), .int .i64 1, .bool false, .int .i64 0, .string (⟨#[]⟩ : ByteArray), .slice none 0 0] from (k71_mkM _ _ _ (⟨(⟨#[116]⟩ : ByteArray), 1, false, 0, (⟨#[]⟩ : ByteArray), ([] : List (S85))⟩ : S71) (Kd.R_nil _ _ _ _ _))) (Reps.none _ _))); intro v366 w4 ho5 hb hg_ hnew_; clear hg_ hnew_; (first | rw [← Ny365.out] at ho5 | (simp only [Int.reduceToNat] at ho5; rw [← Ny365.out] at ho5)); have n0_ := Aside0.mk (Kd.S_lower ho5 (below_size (by repeat (first | (with_reducible first | exact HB.out | apply below_alloc | apply pw_below_drewN | apply below_drew1 | refine below_set ?_ GE364.out) | exact HB.out)))); have n1_ := Aside0.mk (blk_below (g := gb364) (o := .cells #[.slice none 0 0, .slice none 0 0] 48 (0, 0)) (by (with_reducible repeat (first | refine blk_drewN ?_ _ | refine blk_drew ?_ | refine blk_alloc ?_ _)); exact BK364.out) hb); have n2_ := Aside0.mk (below_step (by repeat (first | (with_reducible first | exact HB.out | apply below_alloc | apply pw_below_drewN | apply below_drew1 | refine below_set ?_ GE364.out) | exact HB.out)) hb); clear BK364; clear HB; have HO367 := n0_; have BK364 := n1_; have HB := n2_; clear n0_ n1_ n2_; clear hb ho5) | ((with_reducible refine gate_dst (N := 10) rfl ?_); refine Kd.R_lit k50 _ 50 ?hg (N := 10) ?hd (xs := ([(⟨a0, a1, 0, 0⟩ : S50)] : List (S50))) (inner := [.string a0, .int .i64 a1, .int .i64 0, .int .i64 0]) (ok := fun _ => True) (okp := fun _ => True) ?hr ?hp (fun _ hk => hk) trivial (Below.refl _ _) (Nat.le_refl _) (by simp) ?_; (case hd => rfl); (case hg => rfl); (case hr => first | (go_simp; done) | (go_simp; rfl)); (case hp => exact (Reps.c4 (show Kd.M k50 _ _ _ (⟨a0, a1, 0, 0⟩ : S50) [.string a0, .int .i64 a1, .int .i64 0, .int .i64 0] from (k50_mkM _ _ _ (⟨a0, a1, 0, 0⟩ : S50) )) (Reps.none _ _))); intro v369 w6 ho7 hb hg_ hnew_; clear hg_ hnew_; (first | rw [← Ny368.out] at ho7 | (simp only [Int.reduceToNat] at ho7; rw [← Ny368.out] at ho7)); have n0_ := Aside0.mk (Kd.S_below (by (with_reducible repeat (first | apply Kd.S_alloc | apply Kd.S_drewN | apply Kd.S_drew)); exact HO367.out) hb); have n1_ := Aside0.mk (Kd.R_lower ho7 (below_size (by repeat (first | (with_reducible first | exact HB.out | apply below_alloc | apply pw_below_drewN | apply below_drew1 | refine below_set ?_ GE364.out) | exact HB.out)))); have n2_ := Aside0.mk (blk_below (g := gb364) (o := .cells #[.slice none 0 0, .slice none 0 0] 48 (0, 0)) (by (with_reducible repeat (first | refine blk_drewN ?_ _ | refine blk_drew ?_ | refine blk_alloc ?_ _)); exact BK364.out) hb); have n3_ := Aside0.mk (below_step (by repeat (first | (with_reducible first | exact HB.out | apply below_alloc | apply pw_below_drewN | apply below_drew1 | refine below_set ?_ GE364.out) | exact HB.out)) hb); clear HO367; clear BK364; clear HB; have HO367 := n0_; have HO370 := n1_; have BK364 := n2_; have HB := n3_; clear n0_ n1_ n2_ n3_; clear hb ho7; obtain ⟨Ao8, co8, eo8⟩ := Kd.R_slice HO370.out; subst eo8; obtain ⟨Ao9, co9, eo9⟩ := Kd.S_slice HO367.out; subst eo9; have hcz10_0 : w6.cell? ⟨gb364, 0, none⟩ = some (.slice none 0 0) := (blk_cell BK364.out 0).trans rfl; have hcz10_1 : w6.cell? ⟨gb364, 1, none⟩ = some (.slice none 0 0) := (blk_cell BK364.out 1).trans rfl; have hfz10_0 := blk_frozen BK364.out 0; have hfz10_1 := blk_frozen BK364.out 1))
  refine bodyPost_ret (results_cell_row rfl _ _ gb364 48 #[.slice Ao9 y365.length co9, .slice Ao8 y368.length co8] (0, 0) _ rfl (by (with_reducible repeat (first | refine blk_drewN ?_ _ | refine blk_drew ?_ | refine blk_alloc ?_ _)); refine blk_put (cs := #[.slice Ao9 y365.length co9, .slice none 0 0]) ?_ 1 _ rfl; (with_reducible repeat (first | refine blk_drewN ?_ _ | refine blk_drew ?_ | refine blk_alloc ?_ _)); refine blk_put (cs := #[.slice none 0 0, .slice none 0 0]) ?_ 0 _ rfl; (with_reducible repeat (first | refine blk_drewN ?_ _ | refine blk_drew ?_ | refine blk_alloc ?_ _)); exact BK364.out) Tryd.underlying48 rfl (by kernel_rfl)) rfl ?_
  exact ⟨_, _, by first | rfl | (simp [errW_none, errW_some] <;> rfl) | (simp [*, errW_none, errW_some] <;> rfl), by (with_reducible repeat (first | apply Kd.S_alloc | apply Kd.S_drewN | apply Kd.S_drew)); exact Kd.S_mono (Kd.S_far (p := ⟨gb364, 1, none⟩) (Kd.S_far (p := ⟨gb364, 0, none⟩) (Kd.S_types HO367.out BK364.out (by decide)) (fun _ hk => hk.2) (.slice Ao9 y365.length co9)) (fun _ hk => hk.2) (.slice Ao8 y368.length co8)) (fun _ hk => trivial), by (with_reducible repeat (first | apply Kd.R_alloc | apply Kd.R_drewN | apply Kd.R_drew)); exact Kd.R_mono (Kd.R_far (p := ⟨gb364, 1, none⟩) (Kd.R_far (p := ⟨gb364, 0, none⟩) (Kd.R_types HO370.out BK364.out (by decide)) (fun _ hk => hk.2) (.slice Ao9 y365.length co9)) (fun _ hk => hk.2) (.slice Ao8 y368.length co8)) (fun _ hk => trivial), by repeat (first | (with_reducible first | exact HB.out | apply below_alloc | apply pw_below_drewN | apply below_drew1 | refine below_set ?_ GE364.out) | exact HB.out)⟩
end Go.Proofs.YtngmipfodjgmmaaDoor.P
