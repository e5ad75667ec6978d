/- Walks and plain laws of this claim, a part. -/
import Derived.Test.YtngmipfodjgmmaaGreatDoorSw24
set_option maxRecDepth 100000
set_option maxHeartbeats 8000000
set_option linter.unusedVariables false
set_option linter.unusedSimpArgs false
namespace Go.Proofs.YtngmipfodjgmmaaGreatDoor.P
open Go.RowKit YtngmipfodjgmmaaGreatDoorW.PrintWords YtngmipfodjgmmaaGreatDoorW.PrintLast YtngmipfodjgmmaaGreatDoorW.PrintMore
attribute [local go_sem] max2_int min2_int max_two min_two max_three min_three max_four min_four   -- for this text's walks alone
def cleatref16_Big.f (a0_0 : ByteArray) (a0_1 : Int) (a0_2 : Bool) (a0_3 : Int) (a0_4 : ByteArray) (l0_5 : List (S98)) : Option (Bool) := if (a0_4.size : Int) > 5000 then (some true) else (if (l0_5.length : Int) > 80 then (some true) else (some (decide ((a0_0.size : Int) > 100))))
theorem cleatref16_Big.calls (a0_0 : ByteArray) (a0_1 : Int) (a0_2 : Bool) (a0_3 : Int) (a0_4 : ByteArray) (A0_5 : Option Addr) (c0_5 : Nat) (l0_5 : List (S98)) (r : Bool) (w : World) (hr0_5 : Kd.C k98 w A0_5 l0_5.length l0_5) (hc0_5 : l0_5.length ≤ c0_5) (h : cleatref16_Big.f a0_0 a0_1 a0_2 a0_3 a0_4 l0_5 = some r) :
 Calls Tryz.prog 38 #[.agg #[.string a0_0, .int .i64 a0_1, .bool a0_2, .int .i64 a0_3, .string a0_4, .slice A0_5 l0_5.length c0_5]] w fun e w' => e = .returned (.bool r) ∧ Below w.heap.size w w' := by
 have hu64 := Tryz.underlying64
 have HR0_5 := Azz.mk hr0_5
 have HC0_5 := Azz.mk hc0_5
 clear hr0_5 hc0_5
 have HB := Azz.mk (Below.refl w.heap.size w)
 have H : (if (a0_4.size : Int) > 5000 then (some true) else (if (l0_5.length : Int) > 80 then (some true) else (some (decide ((a0_0.size : Int) > 100))))) = some r := h
 clear h
 by_cases c2 : (a0_4.size : Int) > 5000
 ·rw [if_pos c2] at H
  have c2b0 := decide_eq_true c2
  have c2b1 : decide (5000 < a0_4.size) = true := decide_eq_true (by omega)
  clear c2
  obtain rfl := Option.some.inj H
  go_enter Tryz.func38, Tryz.ntmps38
  go_wp2_with (first | ((with_reducible refine gate_dst (N := 1) rfl ?_); (try (refine gate_guard (by rfl) ?_; dsimp only)); refine box_event ?hg (N := 1) ?hd (cs := #[.string a0_0, .int .i64 a0_1, .bool a0_2, .int .i64 a0_3, .string a0_4, .slice A0_5 l0_5.length c0_5]) (t := 64) ?hr ?_; (case hd => rfl); (case hg => rfl); (case hr => first | (go_simp; done) | (go_simp; rfl)); intro gb101 hg w3 hbox hb; have n0_ := Azz.mk (bTT (by with_reducible repeat first | exact HB.out | apply bAA | apply bNN | apply bDD) hb); have n1_ := Azz.mk (hbox); have n2_ := Azz.mk ((by rw [hg]; exact (bZZ (by with_reducible repeat first | exact HB.out | apply bAA | apply bNN | apply bDD)) : w.heap.size ≤ gb101)); have n3_ := Azz.mk ((by rw [hg]; exact (bZZ (by with_reducible repeat first | exact HB.out | apply bAA | apply bNN | apply bDD)) : w.heap.size ≤ gb101)); clear HB; have HB := n0_; have BK101 := n1_; have GW101 := n2_; have GE101 := n3_; clear n0_ n1_ n2_ n3_; clear hb hbox hg; obtain ⟨hcz4_0, hcz4_1, hcz4_2, hcz4_3, hcz4_4, hcz4_5, hfz4_0, hfz4_1, hfz4_2, hfz4_3, hfz4_4, hfz4_5⟩ := cel6 BK101.out))
  go_ret
  exact ⟨by first | rfl | (simp [eNN, eSS] <;> rfl) | (simp [*, eNN, eSS] <;> rfl), by repeat (first | (with_reducible first | exact HB.out | apply bAA | apply bNN | apply bDD | refine bSS ?_ GE101.out) | exact HB.out)⟩
 ·rw [if_neg c2] at H
  have c2b0 := decide_eq_false c2
  have c2b1 : decide (5000 < a0_4.size) = false := decide_eq_false (by omega)
  clear c2
  by_cases c5 : (l0_5.length : Int) > 80
  ·rw [if_pos c5] at H
   have c5b0 := decide_eq_true c5
   have c5b1 : decide (80 < l0_5.length) = true := decide_eq_true (by omega)
   clear c5
   obtain rfl := Option.some.inj H
   go_enter Tryz.func38, Tryz.ntmps38
   go_wp2_with (first | ((with_reducible refine gate_dst (N := 1) rfl ?_); (try (refine gate_guard (by rfl) ?_; dsimp only)); refine box_event ?hg (N := 1) ?hd (cs := #[.string a0_0, .int .i64 a0_1, .bool a0_2, .int .i64 a0_3, .string a0_4, .slice A0_5 l0_5.length c0_5]) (t := 64) ?hr ?_; (case hd => rfl); (case hg => rfl); (case hr => first | (go_simp; done) | (go_simp; rfl)); intro gb101 hg w6 hbox hb; have n0_ := Azz.mk (bTT (by with_reducible repeat first | exact HB.out | apply bAA | apply bNN | apply bDD) hb); have n1_ := Azz.mk (hbox); have n2_ := Azz.mk ((by rw [hg]; exact (bZZ (by with_reducible repeat first | exact HB.out | apply bAA | apply bNN | apply bDD)) : w.heap.size ≤ gb101)); have n3_ := Azz.mk ((by rw [hg]; exact (bZZ (by with_reducible repeat first | exact HB.out | apply bAA | apply bNN | apply bDD)) : w.heap.size ≤ gb101)); clear HB; have HB := n0_; have BK101 := n1_; have GW101 := n2_; have GE101 := n3_; clear n0_ n1_ n2_ n3_; clear hb hbox hg; obtain ⟨hcz7_0, hcz7_1, hcz7_2, hcz7_3, hcz7_4, hcz7_5, hfz7_0, hfz7_1, hfz7_2, hfz7_3, hfz7_4, hfz7_5⟩ := cel6 BK101.out))
   go_ret
   exact ⟨by first | rfl | (simp [eNN, eSS] <;> rfl) | (simp [*, eNN, eSS] <;> rfl), by repeat (first | (with_reducible first | exact HB.out | apply bAA | apply bNN | apply bDD | refine bSS ?_ GE101.out) | exact HB.out)⟩
  ·rw [if_neg c5] at H
   have c5b0 := decide_eq_false c5
   have c5b1 : decide (80 < l0_5.length) = false := decide_eq_false (by omega)
   clear c5
   obtain rfl := Option.some.inj H
   go_enter Tryz.func38, Tryz.ntmps38
   go_wp2_with (first | ((with_reducible refine gate_dst (N := 1) rfl ?_); (try (refine gate_guard (by rfl) ?_; dsimp only)); refine box_event ?hg (N := 1) ?hd (cs := #[.string a0_0, .int .i64 a0_1, .bool a0_2, .int .i64 a0_3, .string a0_4, .slice A0_5 l0_5.length c0_5]) (t := 64) ?hr ?_; (case hd => rfl); (case hg => rfl); (case hr => first | (go_simp; done) | (go_simp; rfl)); intro gb101 hg w8 hbox hb; have n0_ := Azz.mk (bTT (by with_reducible repeat first | exact HB.out | apply bAA | apply bNN | apply bDD) hb); have n1_ := Azz.mk (hbox); have n2_ := Azz.mk ((by rw [hg]; exact (bZZ (by with_reducible repeat first | exact HB.out | apply bAA | apply bNN | apply bDD)) : w.heap.size ≤ gb101)); have n3_ := Azz.mk ((by rw [hg]; exact (bZZ (by with_reducible repeat first | exact HB.out | apply bAA | apply bNN | apply bDD)) : w.heap.size ≤ gb101)); clear HB; have HB := n0_; have BK101 := n1_; have GW101 := n2_; have GE101 := n3_; clear n0_ n1_ n2_ n3_; clear hb hbox hg; obtain ⟨hcz9_0, hcz9_1, hcz9_2, hcz9_3, hcz9_4, hcz9_5, hfz9_0, hfz9_1, hfz9_2, hfz9_3, hfz9_4, hfz9_5⟩ := cel6 BK101.out))
   go_ret
   exact ⟨by first | rfl | (simp [eNN, eSS] <;> rfl) | (simp [*, eNN, eSS] <;> rfl), by repeat (first | (with_reducible first | exact HB.out | apply bAA | apply bNN | apply bDD | refine bSS ?_ GE101.out) | exact HB.out)⟩
mutual
def cleatref19_Big.l0 : Nat → Int → List (S64) → List (S85) → Option (Bool)
 | 0, _, _, _ => none
 | k + 1, x3, x103000, x103001 => if x3 < (x103000.length : Int) then (cleatref19_Big.j1 k x3 (decide ((x103000.length : Int) ≤ 40)) x103000 x103001) else (cleatref19_Big.j1 k x3 false x103000 x103001)
def cleatref19_Big.j1 : Nat → Int → Bool → List (S64) → List (S85) → Option (Bool)
 | 0, _, _, _, _ => none
 | k + 1, x3, x15, x103000, x103001 => if x15 = true then (if 0 ≤ x3 then (if x3 < (x103000.length : Int) then ((cleatref16_Big.f ((rd_T64 x103000 x3).f0) ((rd_T64 x103000 x3).f1) ((rd_T64 x103000 x3).f2) ((rd_T64 x103000 x3).f3) ((rd_T64 x103000 x3).f4) ((rd_T64 x103000 x3).f5)).bind fun t104 => (if t104 = true then (some true) else (cleatref19_Big.l0 k (wrap64 (x3 + 1)) x103000 x103001))) else (none)) else (none)) else (cleatref19_Big.l1 k 0 x103000 x103001)
def cleatref19_Big.l1 : Nat → Int → List (S64) → List (S85) → Option (Bool)
 | 0, _, _, _ => none
 | k + 1, x4, x103000, x103001 => if x4 < (x103001.length : Int) then (cleatref19_Big.j3 k x4 (decide ((x103001.length : Int) ≤ 140)) x103000 x103001) else (cleatref19_Big.j3 k x4 false x103000 x103001)
def cleatref19_Big.j3 : Nat → Int → Bool → List (S64) → List (S85) → Option (Bool)
 | 0, _, _, _, _ => none
 | k + 1, x4, x34, x103000, x103001 => if x34 = true then (if 0 ≤ x4 then (if x4 < (x103001.length : Int) then (if (((rd_T85 x103001 x4).f0).size : Int) > 100 then (some true) else (cleatref19_Big.l1 k (wrap64 (x4 + 1)) x103000 x103001)) else (none)) else (none)) else (if (x103000.length : Int) > 40 then (some true) else (some (decide ((x103001.length : Int) > 140))))
end
def cleatref19_Big.f (k : Nat) (l0_0 : List (S64)) (l0_1 : List (S85)) : Option (Bool) := cleatref19_Big.l0 k 0 l0_0 l0_1
theorem cleatref19_Big.calls (k : Nat) (A0_0 : Option Addr) (c0_0 : Nat) (l0_0 : List (S64)) (A0_1 : Option Addr) (c0_1 : Nat) (l0_1 : List (S85)) (r : Bool) (w : World) (hr0_0 : Kd.C k64 w A0_0 l0_0.length l0_0) (hc0_0 : l0_0.length ≤ c0_0) (hr0_1 : Kd.C k85 w A0_1 l0_1.length l0_1) (hc0_1 : l0_1.length ≤ c0_1) (h : cleatref19_Big.f k l0_0 l0_1 = some r) :
 Calls Tryz.prog 46 #[.agg #[.slice A0_0 l0_0.length c0_0, .slice A0_1 l0_1.length c0_1]] w fun e w' => e = .returned (.bool r) ∧ Below w.heap.size w w' := by
 have hu68 := Tryz.underlying68
 have hu64 := Tryz.underlying64
 have HR0_0 := Azz.mk hr0_0
 have HC0_0 := Azz.mk hc0_0
 clear hr0_0 hc0_0
 have HR0_1 := Azz.mk hr0_1
 have HC0_1 := Azz.mk hc0_1
 clear hr0_1 hc0_1
 have HB := Azz.mk (Below.refl w.heap.size w)
 have H : (cleatref19_Big.l0 k 0 l0_0 l0_1) = some r := h
 clear h
 have H' := Azz.mk H
 clear H
 go_enter Tryz.func46, Tryz.ntmps46
 go_wp2_with (first | ((with_reducible refine gate_dst (N := 1) rfl ?_); (try (refine gate_guard (by rfl) ?_; dsimp only)); refine box_event ?hg (N := 1) ?hd (cs := #[.slice A0_0 l0_0.length c0_0, .slice A0_1 l0_1.length c0_1]) (t := 68) ?hr ?_; (case hd => rfl); (case hg => rfl); (case hr => first | (go_simp; done) | (go_simp; rfl)); intro gb102 hg w2 hbox hb; have n0_ := Azz.mk (bTT (by with_reducible repeat first | exact HB.out | apply bAA | apply bNN | apply bDD) hb); have n1_ := Azz.mk (hbox); have n2_ := Azz.mk ((by rw [hg]; exact (bZZ (by with_reducible repeat first | exact HB.out | apply bAA | apply bNN | apply bDD)) : w.heap.size ≤ gb102)); have n3_ := Azz.mk ((by rw [hg]; exact (bZZ (by with_reducible repeat first | exact HB.out | apply bAA | apply bNN | apply bDD)) : w.heap.size ≤ gb102)); clear HB; have HB := n0_; have BK102 := n1_; have GW102 := n2_; have GE102 := n3_; clear n0_ n1_ n2_ n3_; clear hb hbox hg))
 go_loopg [3] k (fun kq v3 w' => ∃ (x3_1 : Int), v3 = .int .i64 x3_1 ∧ Azz (cleatref19_Big.l0 kq x3_1 l0_0 l0_1 = some r) ∧ Azz (kq ≤ k) ∧ Azz (w'.heap[gb102]? = some (.cells #[(.slice A0_0 l0_0.length c0_0), (.slice A0_1 l0_1.length c0_1)] 68 (0, 0))) ∧ Azz (Below w.heap.size w w'))
 case atStart => exact ⟨(0), eqS, H', ⟨Nat.le_refl _⟩, ⟨by (with_reducible repeat first | apply kNN | apply kDD | apply kAA); exact BK102.out⟩, ⟨by repeat (first | (with_reducible first | exact HB.out | apply bAA | apply bNN | apply bDD | refine bSS ?_ GE102.out) | exact HB.out)⟩⟩
 case round =>
  clear H'
  try clear p2
  obtain ⟨x3_1, rfl, HA, HK1, BK102, HB⟩ := hrel
  cases gk with
  | zero => exact absurd HA.out (by simp [cleatref19_Big.l0])
  | succ k1 =>
   have H := HA.out
   clear HA
   simp only [cleatref19_Big.l0] at H
   have HC3 := Azz.mk H
   clear H
   go_upto_region 2 with (fail)
   go_cut [15] (fun v15 wc => ∃ (kq : Nat) (x15_2 : Bool), v15 = .bool x15_2 ∧ Azz (cleatref19_Big.j1 kq x3_1 x15_2 l0_0 l0_1 = some r) ∧ Azz (kq ≤ k1) ∧ Azz (wc.heap[gb102]? = some (.cells #[(.slice A0_0 l0_0.length c0_0), (.slice A0_1 l0_1.length c0_1)] 68 (0, 0))) ∧ Azz (Below w.heap.size w wc))
   case first =>
    have H := HC3.out
    clear HC3
    by_cases c4 : x3_1 < (l0_0.length : Int)
    ·rw [if_pos c4] at H
     have c4b0 := decide_eq_true c4
     clear c4
     (first | rw [c4b0] | (simp only [i64_w, i32_w]; rw [c4b0]) | skip)
     have H' := Azz.mk H
     clear H
     obtain ⟨hcz5_0, hcz5_1, hfz5_0, hfz5_1⟩ := cel2 BK102.out
     go_wp2
     go_meet
     case rel => exact ⟨_, (decide ((l0_0.length : Int) ≤ 40)), eqS, H', ⟨by have := HK1.out; first | omega | exact Nat.le_refl _⟩, ⟨by (with_reducible repeat first | apply kNN | apply kDD | apply kAA); exact BK102.out⟩, ⟨by repeat (first | (with_reducible first | exact HB.out | apply bAA | apply bNN | apply bDD | refine bSS ?_ GE102.out) | exact HB.out)⟩⟩
    ·rw [if_neg c4] at H
     have c4b0 := decide_eq_false c4
     clear c4
     (first | rw [c4b0] | (simp only [i64_w, i32_w]; rw [c4b0]) | skip)
     have H' := Azz.mk H
     clear H
     obtain ⟨hcz6_0, hcz6_1, hfz6_0, hfz6_1⟩ := cel2 BK102.out
     go_wp2
     go_meet
     case rel => exact ⟨_, (false), eqS, H', ⟨by have := HK1.out; first | omega | exact Nat.le_refl _⟩, ⟨by (with_reducible repeat first | apply kNN | apply kDD | apply kAA); exact BK102.out⟩, ⟨by repeat (first | (with_reducible first | exact HB.out | apply bAA | apply bNN | apply bDD | refine bSS ?_ GE102.out) | exact HB.out)⟩⟩
   case rest =>
    clear HC3
    try clear p2
    try clear c4
    try clear c4b0
    try clear p2
    try clear hcz5_0 hcz5_1 hcz6_0 hcz6_1 hfz5_0 hfz5_1 hfz6_0 hfz6_1
    obtain ⟨kq, x15_2, rfl, HA, HJ2, BK102, HB⟩ := hcut
    cases kq with
    | zero => exact absurd HA.out (by simp [cleatref19_Big.j1])
    | succ kj2 =>
     have H := HA.out
     clear HA
     simp only [cleatref19_Big.j1] at H
     by_cases c7 : x15_2 = true
     ·subst c7
      rw [if_pos rfl] at H
      by_cases c8 : 0 ≤ x3_1
      ·rw [if_pos c8] at H
       have c8b0 := decide_eq_true c8
       clear c8
       by_cases c9 : x3_1 < (l0_0.length : Int)
       ·rw [if_pos c9] at H
        have c9b0 := decide_eq_true c9
        clear c9
        replace H := Option.bind_eq_some_iff.mp H
        obtain ⟨t104, A100, H⟩ := H
        (try dsimp only at H)
        have A10 := Azz.mk A100
        clear A100
        by_cases c11 : t104 = true
        ·subst c11
         rw [if_pos rfl] at H
         obtain rfl := Option.some.inj H
         obtain ⟨hcz12_0, hcz12_1, hfz12_0, hfz12_1⟩ := cel2 BK102.out
         have p103 : 0 ≤ (x3_1 : Int) := of_decide_eq_true (by first | (with_reducible assumption) | assumption)
         have q103 : x3_1 < (l0_0.length : Int) := of_decide_eq_true (by first | (with_reducible assumption) | assumption)
         obtain ⟨ad103, A103_5, c103_5, e103, hx103_0, hx103_1, hx103_2, hx103_3, hx103_4, hx103_5, hl103_5, hi103_5⟩ := at_T64 HR0_0.out x3_1 p103 q103
         cases e103
         replace hx103_0 := (HB.out.cell (World.block_lt_of_cell? w _ hx103_0)).trans hx103_0
         replace hx103_1 := (HB.out.cell (World.block_lt_of_cell? w _ hx103_1)).trans hx103_1
         replace hx103_2 := (HB.out.cell (World.block_lt_of_cell? w _ hx103_2)).trans hx103_2
         replace hx103_3 := (HB.out.cell (World.block_lt_of_cell? w _ hx103_3)).trans hx103_3
         replace hx103_4 := (HB.out.cell (World.block_lt_of_cell? w _ hx103_4)).trans hx103_4
         replace hx103_5 := (HB.out.cell (World.block_lt_of_cell? w _ hx103_5)).trans hx103_5
         have HR103_5 := Azz.mk hi103_5
         have HC103_5 := Azz.mk hl103_5
         clear hi103_5 hl103_5
         replace p103 := eq_true p103
         replace q103 := eq_true q103
         go_wp2_with (first | ((with_reducible refine gate_callee (f := 38) rfl ?_); refine gM (some 23) rfl rfl Tryz.func38 #[.agg #[.string ((rd_T64 l0_0 x3_1).f0), .int .i64 ((rd_T64 l0_0 x3_1).f1), .bool ((rd_T64 l0_0 x3_1).f2), .int .i64 ((rd_T64 l0_0 x3_1).f3), .string ((rd_T64 l0_0 x3_1).f4), .slice A103_5 ((rd_T64 l0_0 x3_1).f5).length c103_5]] rfl ?_; (with_reducible refine (cleatref16_Big.calls ((rd_T64 l0_0 x3_1).f0) ((rd_T64 l0_0 x3_1).f1) ((rd_T64 l0_0 x3_1).f2) ((rd_T64 l0_0 x3_1).f3) ((rd_T64 l0_0 x3_1).f4) _ _ ((rd_T64 l0_0 x3_1).f5) true _ ?side1 ?side2 A10.out).mono ?_); (case side1 => repeat (first | exact (Kd.C_below HR103_5.out HB.out) | (with_reducible refine Kd.C_alloc ?_ _) | (with_reducible refine Kd.C_drewN ?_ _) | (with_reducible refine Kd.C_drew ?_))); (case side2 => exact HC103_5.out); rintro e w13 ⟨rfl, hb⟩; refine ⟨_, rfl, ?_⟩; have n0_ := Azz.mk (blk_b hb BK102.out); have n1_ := Azz.mk (bTT (by with_reducible repeat first | exact HB.out | apply bAA | apply bNN | apply bDD | refine bSS ?_ GE102.out) hb); clear BK102; clear HB; have BK102 := n0_; have HB := n1_; clear n0_ n1_; (try clear hb); (try clear hb2); (try clear hk); (try clear hi)))
         go_ret
         exact ⟨by first | rfl | (simp [eNN, eSS] <;> rfl) | (simp [*, eNN, eSS] <;> rfl), by repeat (first | (with_reducible first | exact HB.out | apply bAA | apply bNN | apply bDD | refine bSS ?_ GE102.out) | exact HB.out)⟩
        ·replace c11 := Bool.eq_false_iff.mpr c11
         subst c11
         rw [if_neg (show ¬ (false = true) by decide)] at H
         have H' := Azz.mk H
         clear H
         obtain ⟨hcz14_0, hcz14_1, hfz14_0, hfz14_1⟩ := cel2 BK102.out
         have p103 : 0 ≤ (x3_1 : Int) := of_decide_eq_true (by first | (with_reducible assumption) | assumption)
         have q103 : x3_1 < (l0_0.length : Int) := of_decide_eq_true (by first | (with_reducible assumption) | assumption)
         obtain ⟨ad103, A103_5, c103_5, e103, hx103_0, hx103_1, hx103_2, hx103_3, hx103_4, hx103_5, hl103_5, hi103_5⟩ := at_T64 HR0_0.out x3_1 p103 q103
         cases e103
         replace hx103_0 := (HB.out.cell (World.block_lt_of_cell? w _ hx103_0)).trans hx103_0
         replace hx103_1 := (HB.out.cell (World.block_lt_of_cell? w _ hx103_1)).trans hx103_1
         replace hx103_2 := (HB.out.cell (World.block_lt_of_cell? w _ hx103_2)).trans hx103_2
         replace hx103_3 := (HB.out.cell (World.block_lt_of_cell? w _ hx103_3)).trans hx103_3
         replace hx103_4 := (HB.out.cell (World.block_lt_of_cell? w _ hx103_4)).trans hx103_4
         replace hx103_5 := (HB.out.cell (World.block_lt_of_cell? w _ hx103_5)).trans hx103_5
         have HR103_5 := Azz.mk hi103_5
         have HC103_5 := Azz.mk hl103_5
         clear hi103_5 hl103_5
         replace p103 := eq_true p103
         replace q103 := eq_true q103
         go_wp2_with (first | ((with_reducible refine gate_callee (f := 38) rfl ?_); refine gM (some 23) rfl rfl Tryz.func38 #[.agg #[.string ((rd_T64 l0_0 x3_1).f0), .int .i64 ((rd_T64 l0_0 x3_1).f1), .bool ((rd_T64 l0_0 x3_1).f2), .int .i64 ((rd_T64 l0_0 x3_1).f3), .string ((rd_T64 l0_0 x3_1).f4), .slice A103_5 ((rd_T64 l0_0 x3_1).f5).length c103_5]] rfl ?_; (with_reducible refine (cleatref16_Big.calls ((rd_T64 l0_0 x3_1).f0) ((rd_T64 l0_0 x3_1).f1) ((rd_T64 l0_0 x3_1).f2) ((rd_T64 l0_0 x3_1).f3) ((rd_T64 l0_0 x3_1).f4) _ _ ((rd_T64 l0_0 x3_1).f5) false _ ?side1 ?side2 A10.out).mono ?_); (case side1 => repeat (first | exact (Kd.C_below HR103_5.out HB.out) | (with_reducible refine Kd.C_alloc ?_ _) | (with_reducible refine Kd.C_drewN ?_ _) | (with_reducible refine Kd.C_drew ?_))); (case side2 => exact HC103_5.out); rintro e w15 ⟨rfl, hb⟩; refine ⟨_, rfl, ?_⟩; have n0_ := Azz.mk (blk_b hb BK102.out); have n1_ := Azz.mk (bTT (by with_reducible repeat first | exact HB.out | apply bAA | apply bNN | apply bDD | refine bSS ?_ GE102.out) hb); clear BK102; clear HB; have BK102 := n0_; have HB := n1_; clear n0_ n1_; (try clear hb); (try clear hb2); (try clear hk); (try clear hi)))
         go_roundg kj2
         case measure => have := HK1.out; have := HJ2.out; omega
         case rel => exact ⟨(wrap64 (x3_1 + 1)), eqS, H', ⟨by have := HK1.out; have := HJ2.out; omega⟩, ⟨by (with_reducible repeat first | apply kNN | apply kDD | apply kAA); exact BK102.out⟩, ⟨by repeat (first | (with_reducible first | exact HB.out | apply bAA | apply bNN | apply bDD | refine bSS ?_ GE102.out) | exact HB.out)⟩⟩
       ·rw [if_neg c9] at H
        exact absurd H (by simp)
      ·rw [if_neg c8] at H
       exact absurd H (by simp)
     ·replace c7 := Bool.eq_false_iff.mpr c7
      subst c7
      rw [if_neg (show ¬ (false = true) by decide)] at H
      have H' := Azz.mk H
      clear H
      go_wp2
      go_loopg [4] kj2 (fun kq v4 w' => ∃ (x4_3 : Int), v4 = .int .i64 x4_3 ∧ Azz (cleatref19_Big.l1 kq x4_3 l0_0 l0_1 = some r) ∧ Azz (kq ≤ kj2) ∧ Azz (w'.heap[gb102]? = some (.cells #[(.slice A0_0 l0_0.length c0_0), (.slice A0_1 l0_1.length c0_1)] 68 (0, 0))) ∧ Azz (Below w.heap.size w w'))
      case atStart => exact ⟨(0), eqS, H', ⟨Nat.le_refl _⟩, ⟨by (with_reducible repeat first | apply kNN | apply kDD | apply kAA); exact BK102.out⟩, ⟨by repeat (first | (with_reducible first | exact HB.out | apply bAA | apply bNN | apply bDD | refine bSS ?_ GE102.out) | exact HB.out)⟩⟩
      case round =>
       clear H'
       try clear c1
       try clear p1
       try clear q1
       try clear hx1
       try clear p2
       try clear c3
       try clear c4
       try clear c4b0
       try clear p6
       try clear c7
       try clear c8
       try clear c8b0
       try clear c9
       try clear c9b0
       try clear c10
       try clear p10
       try clear q10
       try clear hx10
       try clear c11
       try clear hx103_0
       try clear hx103_1
       try clear hx103_2
       try clear hx103_3
       try clear hx103_4
       try clear hx103_5
       try clear p103
       try clear p2
       try clear q103
       try clear hcz12_0 hcz12_1 hcz14_0 hcz14_1 hcz5_0 hcz5_1 hcz6_0 hcz6_1 hfz12_0 hfz12_1 hfz14_0 hfz14_1 hfz5_0 hfz5_1 hfz6_0 hfz6_1
       obtain ⟨x4_3, rfl, HA, HK3, BK102, HB⟩ := hrel
       cases gk with
       | zero => exact absurd HA.out (by simp [cleatref19_Big.l1])
       | succ k3 =>
        have H := HA.out
        clear HA
        simp only [cleatref19_Big.l1] at H
        have HC16 := Azz.mk H
        clear H
        go_upto_region 7 with (fail)
        go_cut [34] (fun v34 wc => ∃ (kq : Nat) (x34_15 : Bool), v34 = .bool x34_15 ∧ Azz (cleatref19_Big.j3 kq x4_3 x34_15 l0_0 l0_1 = some r) ∧ Azz (kq ≤ k3) ∧ Azz (wc.heap[gb102]? = some (.cells #[(.slice A0_0 l0_0.length c0_0), (.slice A0_1 l0_1.length c0_1)] 68 (0, 0))) ∧ Azz (Below w.heap.size w wc))
        case first =>
         have H := HC16.out
         clear HC16
         by_cases c17 : x4_3 < (l0_1.length : Int)
         ·rw [if_pos c17] at H
          have c17b0 := decide_eq_true c17
          clear c17
          (first | rw [c17b0] | (simp only [i64_w, i32_w]; rw [c17b0]) | skip)
          have H' := Azz.mk H
          clear H
          obtain ⟨hcz18_0, hcz18_1, hfz18_0, hfz18_1⟩ := cel2 BK102.out
          go_wp2
          go_meet
          case rel => exact ⟨_, (decide ((l0_1.length : Int) ≤ 140)), eqS, H', ⟨by have := HK1.out; have := HJ2.out; have := HK3.out; first | omega | exact Nat.le_refl _⟩, ⟨by (with_reducible repeat first | apply kNN | apply kDD | apply kAA); exact BK102.out⟩, ⟨by repeat (first | (with_reducible first | exact HB.out | apply bAA | apply bNN | apply bDD | refine bSS ?_ GE102.out) | exact HB.out)⟩⟩
         ·rw [if_neg c17] at H
          have c17b0 := decide_eq_false c17
          clear c17
          (first | rw [c17b0] | (simp only [i64_w, i32_w]; rw [c17b0]) | skip)
          have H' := Azz.mk H
          clear H
          obtain ⟨hcz19_0, hcz19_1, hfz19_0, hfz19_1⟩ := cel2 BK102.out
          go_wp2
          go_meet
          case rel => exact ⟨_, (false), eqS, H', ⟨by have := HK1.out; have := HJ2.out; have := HK3.out; first | omega | exact Nat.le_refl _⟩, ⟨by (with_reducible repeat first | apply kNN | apply kDD | apply kAA); exact BK102.out⟩, ⟨by repeat (first | (with_reducible first | exact HB.out | apply bAA | apply bNN | apply bDD | refine bSS ?_ GE102.out) | exact HB.out)⟩⟩
        case rest =>
         clear HC16
         try clear c1
         try clear p1
         try clear q1
         try clear hx1
         try clear p2
         try clear c3
         try clear c4
         try clear c4b0
         try clear p6
         try clear c7
         try clear c8
         try clear c8b0
         try clear c9
         try clear c9b0
         try clear c10
         try clear p10
         try clear q10
         try clear hx10
         try clear c11
         try clear c17
         try clear c17b0
         try clear hx103_0
         try clear hx103_1
         try clear hx103_2
         try clear hx103_3
         try clear hx103_4
         try clear hx103_5
         try clear p1
         try clear p10
         try clear p103
         try clear p2
         try clear p6
         try clear q1
         try clear q10
         try clear q103
         try clear hcz12_0 hcz12_1 hcz14_0 hcz14_1 hcz18_0 hcz18_1 hcz19_0 hcz19_1 hcz5_0 hcz5_1 hcz6_0 hcz6_1 hfz12_0 hfz12_1 hfz14_0 hfz14_1 hfz18_0 hfz18_1 hfz19_0 hfz19_1 hfz5_0 hfz5_1 hfz6_0 hfz6_1
         obtain ⟨kq, x34_15, rfl, HA, HJ15, BK102, HB⟩ := hcut
         cases kq with
         | zero => exact absurd HA.out (by simp [cleatref19_Big.j3])
         | succ kj15 =>
          have H := HA.out
          clear HA
          simp only [cleatref19_Big.j3] at H
          by_cases c20 : x34_15 = true
          ·subst c20
           rw [if_pos rfl] at H
           by_cases c21 : 0 ≤ x4_3
           ·rw [if_pos c21] at H
            have c21b0 := decide_eq_true c21
            clear c21
            by_cases c22 : x4_3 < (l0_1.length : Int)
            ·rw [if_pos c22] at H
             have c22b0 := decide_eq_true c22
             clear c22
             by_cases c23 : (((rd_T85 l0_1 x4_3).f0).size : Int) > 100
             ·rw [if_pos c23] at H
              have c23b0 := decide_eq_true c23
              have c23b1 : decide (100 < ((rd_T85 l0_1 x4_3).f0).size) = true := decide_eq_true (by omega)
              clear c23
              obtain rfl := Option.some.inj H
              obtain ⟨hcz24_0, hcz24_1, hfz24_0, hfz24_1⟩ := cel2 BK102.out
              have p105 : 0 ≤ (x4_3 : Int) := of_decide_eq_true (by first | (with_reducible assumption) | assumption)
              have q105 : x4_3 < (l0_1.length : Int) := of_decide_eq_true (by first | (with_reducible assumption) | assumption)
              obtain ⟨ad105, e105, hx105_0, hx105_1, hx105_2, hx105_3⟩ := at_T85 HR0_1.out x4_3 p105 q105
              cases e105
              replace hx105_0 := (HB.out.cell (World.block_lt_of_cell? w _ hx105_0)).trans hx105_0
              replace hx105_1 := (HB.out.cell (World.block_lt_of_cell? w _ hx105_1)).trans hx105_1
              replace hx105_2 := (HB.out.cell (World.block_lt_of_cell? w _ hx105_2)).trans hx105_2
              replace hx105_3 := (HB.out.cell (World.block_lt_of_cell? w _ hx105_3)).trans hx105_3
              replace p105 := eq_true p105
              replace q105 := eq_true q105
              go_wp2
              go_ret
              exact ⟨by first | rfl | (simp [eNN, eSS] <;> rfl) | (simp [*, eNN, eSS] <;> rfl), by repeat (first | (with_reducible first | exact HB.out | apply bAA | apply bNN | apply bDD | refine bSS ?_ GE102.out) | exact HB.out)⟩
             ·rw [if_neg c23] at H
              have c23b0 := decide_eq_false c23
              have c23b1 : decide (100 < ((rd_T85 l0_1 x4_3).f0).size) = false := decide_eq_false (by omega)
              clear c23
              have H' := Azz.mk H
              clear H
              obtain ⟨hcz25_0, hcz25_1, hfz25_0, hfz25_1⟩ := cel2 BK102.out
              have p105 : 0 ≤ (x4_3 : Int) := of_decide_eq_true (by first | (with_reducible assumption) | assumption)
              have q105 : x4_3 < (l0_1.length : Int) := of_decide_eq_true (by first | (with_reducible assumption) | assumption)
              obtain ⟨ad105, e105, hx105_0, hx105_1, hx105_2, hx105_3⟩ := at_T85 HR0_1.out x4_3 p105 q105
              cases e105
              replace hx105_0 := (HB.out.cell (World.block_lt_of_cell? w _ hx105_0)).trans hx105_0
              replace hx105_1 := (HB.out.cell (World.block_lt_of_cell? w _ hx105_1)).trans hx105_1
              replace hx105_2 := (HB.out.cell (World.block_lt_of_cell? w _ hx105_2)).trans hx105_2
              replace hx105_3 := (HB.out.cell (World.block_lt_of_cell? w _ hx105_3)).trans hx105_3
              replace p105 := eq_true p105
              replace q105 := eq_true q105
              go_wp2
              go_roundg kj15
              case measure => have := HK1.out; have := HJ2.out; have := HK3.out; have := HJ15.out; omega
              case rel => exact ⟨(wrap64 (x4_3 + 1)), eqS, H', ⟨by have := HK1.out; have := HJ2.out; have := HK3.out; have := HJ15.out; omega⟩, ⟨by (with_reducible repeat first | apply kNN | apply kDD | apply kAA); exact BK102.out⟩, ⟨by repeat (first | (with_reducible first | exact HB.out | apply bAA | apply bNN | apply bDD | refine bSS ?_ GE102.out) | exact HB.out)⟩⟩
            ·rw [if_neg c22] at H
             exact absurd H (by simp)
           ·rw [if_neg c21] at H
            exact absurd H (by simp)
          ·replace c20 := Bool.eq_false_iff.mpr c20
           subst c20
           rw [if_neg (show ¬ (false = true) by decide)] at H
           by_cases c26 : (l0_0.length : Int) > 40
           ·rw [if_pos c26] at H
            have c26b0 := decide_eq_true c26
            have c26b1 : decide (40 < l0_0.length) = true := decide_eq_true (by omega)
            clear c26
            obtain rfl := Option.some.inj H
            obtain ⟨hcz27_0, hcz27_1, hfz27_0, hfz27_1⟩ := cel2 BK102.out
            go_wp2
            go_ret
            exact ⟨by first | rfl | (simp [eNN, eSS] <;> rfl) | (simp [*, eNN, eSS] <;> rfl), by repeat (first | (with_reducible first | exact HB.out | apply bAA | apply bNN | apply bDD | refine bSS ?_ GE102.out) | exact HB.out)⟩
           ·rw [if_neg c26] at H
            have c26b0 := decide_eq_false c26
            have c26b1 : decide (40 < l0_0.length) = false := decide_eq_false (by omega)
            clear c26
            obtain rfl := Option.some.inj H
            obtain ⟨hcz28_0, hcz28_1, hfz28_0, hfz28_1⟩ := cel2 BK102.out
            go_wp2
            go_ret
            exact ⟨by first | rfl | (simp [eNN, eSS] <;> rfl) | (simp [*, eNN, eSS] <;> rfl), by repeat (first | (with_reducible first | exact HB.out | apply bAA | apply bNN | apply bDD | refine bSS ?_ GE102.out) | exact HB.out)⟩
end Go.Proofs.YtngmipfodjgmmaaGreatDoor.P
