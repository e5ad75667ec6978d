/- Walks and plain laws of this claim, a part. -/
import Derived.Test.YtngmipfodjgmmaaGreatDoorSw25
set_option maxRecDepth 100000
set_option maxHeartbeats 8000000
set_option linter.unusedVariables false
set_option linter.unusedSimpArgs false
section
namespace Go.Proofs.YtngmipfodjgmmaaGreatDoor.Opens
open Go Go.RowKit Go.Joins Go.ChangeShapes Go.WideShapes Go.Deep YtngmipfodjgmmaaGreatDoorW.PrintWords YtngmipfodjgmmaaGreatDoorW.PrintLast YtngmipfodjgmmaaGreatDoorW.PrintMore
theorem c_rel : Tryz.prog.cellsOf 98 = 4 := by kernel_rfl
theorem c_sec : Tryz.prog.cellsOf 64 = 6 := by kernel_rfl
theorem c_sym : Tryz.prog.cellsOf 85 = 4 := by kernel_rfl
theorem c_obj : Tryz.prog.cellsOf 68 = 2 := by kernel_rfl
theorem c_rels : Tryz.prog.cellsOf 62 = 1 := by kernel_rfl
theorem c_secs : Tryz.prog.cellsOf 65 = 1 := by kernel_rfl
theorem c_syms : Tryz.prog.cellsOf 66 = 1 := by kernel_rfl
section
variable {H : Type} {enc : TypeId × Value → H} {W : World} {b0 : Nat}
theorem open_rel (fuel : Nat) (cs : List Value) (x : DataW H × List MemPlace) (hl : cs.length = 4) (h : DataW.trod enc Tryz.prog W 0 (fun _ => true) true fuel 98 cs = some x) : ∃ z : P.S98, P.k98.K W z cs ∧ (Light Tryz.prog 98 x.1 → True) := by
 obtain ⟨ys, m, _, _, _, hyl, hg⟩ := DataW.trod_struct Tryz.underlying98 h
 match cs, hl with
 | [u0, u1, u2, u3], _ =>
  match ys, hyl with
  | [y0, y1, y2, y3], _ =>
   have g0 : DataW.trod enc Tryz.prog W 0 (fun _ => true) true m 3 [u0] = some y0 := by simpa [c_int] using hg 0 _ rfl
   have g1 : DataW.trod enc Tryz.prog W 0 (fun _ => true) true m 3 [u1] = some y1 := by simpa [c_int] using hg 1 _ rfl
   have g2 : DataW.trod enc Tryz.prog W 0 (fun _ => true) true m 3 [u2] = some y2 := by simpa [c_int] using hg 2 _ rfl
   have g3 : DataW.trod enc Tryz.prog W 0 (fun _ => true) true m 3 [u3] = some y3 := by simpa [c_int] using hg 3 _ rfl
   obtain ⟨z0, e0, _⟩ := DataW.trod_int Tryz.underlying3 g0
   obtain ⟨z1, e1, _⟩ := DataW.trod_int Tryz.underlying3 g1
   obtain ⟨z2, e2, _⟩ := DataW.trod_int Tryz.underlying3 g2
   obtain ⟨z3, e3, _⟩ := DataW.trod_int Tryz.underlying3 g3
   obtain rfl := (List.cons.inj e0).1
   obtain rfl := (List.cons.inj e1).1
   obtain rfl := (List.cons.inj e2).1
   obtain rfl := (List.cons.inj e3).1
   exact ⟨⟨z0, z1, z2, z3⟩, P.k98_mk W ⟨z0, z1, z2, z3⟩, fun _ => trivial⟩
theorem open_sec2 (fuel : Nat) (cs : List Value) (x : DataW H × List MemPlace) (hl : cs.length = 6) (h : DataW.trod enc Tryz.prog W 0 (fun _ => true) true fuel 64 cs = some x) : ∃ z : P.S64, P.k64.K W z cs ∧ (Light Tryz.prog 64 x.1 → True) := by
 obtain ⟨ys, m, _, _, _, hyl, hg⟩ := DataW.trod_struct Tryz.underlying64 h
 match cs, hl with
 | [u0, u1, u2, u3, u4, u5], _ =>
  match ys, hyl with
  | [y0, y1, y2, y3, y4, y5], _ =>
   have g0 : DataW.trod enc Tryz.prog W 0 (fun _ => true) true m 9 [u0] = some y0 := by simpa [c_str] using hg 0 _ rfl
   have g1 : DataW.trod enc Tryz.prog W 0 (fun _ => true) true m 3 [u1] = some y1 := by simpa [c_int] using hg 1 _ rfl
   have g2 : DataW.trod enc Tryz.prog W 0 (fun _ => true) true m 4 [u2] = some y2 := by simpa [c_bool] using hg 2 _ rfl
   have g3 : DataW.trod enc Tryz.prog W 0 (fun _ => true) true m 3 [u3] = some y3 := by simpa [c_int] using hg 3 _ rfl
   have g4 : DataW.trod enc Tryz.prog W 0 (fun _ => true) true m 9 [u4] = some y4 := by simpa [c_str] using hg 4 _ rfl
   have g5 : DataW.trod enc Tryz.prog W 0 (fun _ => true) true m 62 [u5] = some y5 := by simpa [c_rels] using hg 5 _ rfl
   obtain ⟨z0, e0, _⟩ := DataW.trod_string Tryz.underlying9 g0
   obtain ⟨z1, e1, _⟩ := DataW.trod_int Tryz.underlying3 g1
   obtain ⟨z2, e2, _⟩ := DataW.trod_bool Tryz.underlying4 g2
   obtain ⟨z3, e3, _⟩ := DataW.trod_int Tryz.underlying3 g3
   obtain ⟨z4, e4, _⟩ := DataW.trod_string Tryz.underlying9 g4
   obtain ⟨A5, q5, xs5, e5, hC5, hc5, _⟩ := open_rows2 (d := P.k98) (WF := fun _ => True) P.z98 Tryz.underlying62 c_rel open_rel g5
   obtain rfl := (List.cons.inj e0).1
   obtain rfl := (List.cons.inj e1).1
   obtain rfl := (List.cons.inj e2).1
   obtain rfl := (List.cons.inj e3).1
   obtain rfl := (List.cons.inj e4).1
   subst e5
   exact ⟨⟨z0, z1, z2, z3, z4, xs5⟩, P.k64_mk W ⟨z0, z1, z2, z3, z4, xs5⟩ hc5 hC5, fun _ => trivial⟩
theorem open_sym (fuel : Nat) (cs : List Value) (x : DataW H × List MemPlace) (hl : cs.length = 4) (h : DataW.trod enc Tryz.prog W 0 (fun _ => true) true fuel 85 cs = some x) : ∃ z : P.S85, P.k85.K W z cs ∧ (Light Tryz.prog 85 x.1 → True) := by
 obtain ⟨ys, m, _, _, _, hyl, hg⟩ := DataW.trod_struct Tryz.underlying85 h
 match cs, hl with
 | [u0, u1, u2, u3], _ =>
  match ys, hyl with
  | [y0, y1, y2, y3], _ =>
   have g0 : DataW.trod enc Tryz.prog W 0 (fun _ => true) true m 9 [u0] = some y0 := by simpa [c_str] using hg 0 _ rfl
   have g1 : DataW.trod enc Tryz.prog W 0 (fun _ => true) true m 3 [u1] = some y1 := by simpa [c_int] using hg 1 _ rfl
   have g2 : DataW.trod enc Tryz.prog W 0 (fun _ => true) true m 3 [u2] = some y2 := by simpa [c_int] using hg 2 _ rfl
   have g3 : DataW.trod enc Tryz.prog W 0 (fun _ => true) true m 3 [u3] = some y3 := by simpa [c_int] using hg 3 _ rfl
   obtain ⟨z0, e0, _⟩ := DataW.trod_string Tryz.underlying9 g0
   obtain ⟨z1, e1, _⟩ := DataW.trod_int Tryz.underlying3 g1
   obtain ⟨z2, e2, _⟩ := DataW.trod_int Tryz.underlying3 g2
   obtain ⟨z3, e3, _⟩ := DataW.trod_int Tryz.underlying3 g3
   obtain rfl := (List.cons.inj e0).1
   obtain rfl := (List.cons.inj e1).1
   obtain rfl := (List.cons.inj e2).1
   obtain rfl := (List.cons.inj e3).1
   exact ⟨⟨z0, z1, z2, z3⟩, P.k85_mk W ⟨z0, z1, z2, z3⟩, fun _ => trivial⟩
theorem open_obj2 (fuel : Nat) (cs : List Value) (x : DataW H × List MemPlace) (hl : cs.length = 2) (h : DataW.trod enc Tryz.prog W 0 (fun _ => true) true fuel 68 cs = some x) : ∃ z : P.S68, P.k68.K W z cs ∧ (Light Tryz.prog 68 x.1 → True) := by
 obtain ⟨ys, m, _, _, _, hyl, hg⟩ := DataW.trod_struct Tryz.underlying68 h
 match cs, hl with
 | [u0, u1], _ =>
  match ys, hyl with
  | [y0, y1], _ =>
   have g0 : DataW.trod enc Tryz.prog W 0 (fun _ => true) true m 65 [u0] = some y0 := by simpa [c_secs] using hg 0 _ rfl
   have g1 : DataW.trod enc Tryz.prog W 0 (fun _ => true) true m 66 [u1] = some y1 := by simpa [c_syms] using hg 1 _ rfl
   obtain ⟨A0, q0, xs0, e0, hC0, hc0, _⟩ := open_rows2 (d := P.k64) (WF := fun _ => True) P.z64 Tryz.underlying65 c_sec open_sec2 g0
   obtain ⟨A1, q1, xs1, e1, hC1, hc1, _⟩ := open_rows2 (d := P.k85) (WF := fun _ => True) P.z85 Tryz.underlying66 c_sym open_sym g1
   subst e0
   subst e1
   exact ⟨⟨xs0, xs1⟩, P.k68_mk W ⟨xs0, xs1⟩ hc0 hC0 hc1 hC1, fun _ => trivial⟩
theorem open_objs {v : Value} {d : DataW H} {p : List MemPlace} (hv : Value.okWide Tryz.prog W .any b0 41 v) (h : DataW.Trod enc Tryz.prog W 0 (fun _ => true) true 41 v d p) :
 ∃ (A : Option Addr) (c : Nat) (xs : List P.S68), v = .slice A xs.length c ∧ Kd.C P.k68 W A xs.length xs ∧ xs.length ≤ c ∧ (Light Tryz.prog 41 d → True) := by
 obtain ⟨a, len, cap, rfl⟩ := okWide_slice Tryz.underlying41 hv
 obtain ⟨fuel, hf⟩ := h
 obtain ⟨A, c, xs, h1, h2, h3, h4⟩ := open_rows2 (d := P.k68) (WF := fun z => True) P.z68 Tryz.underlying41 c_obj open_obj2 hf
 exact ⟨A, c, xs, h1, h2, h3, fun _ => trivial⟩
end
end Go.Proofs.YtngmipfodjgmmaaGreatDoor.Opens
end
section
namespace Go.Proofs.YtngmipfodjgmmaaGreatDoor.P
open Go.RowKit YtngmipfodjgmmaaGreatDoorW.PrintWords YtngmipfodjgmmaaGreatDoorW.PrintLast YtngmipfodjgmmaaGreatDoorW.PrintMore
attribute [local go_sem] max2_int min2_int max_two min_two max_three min_three max_four min_four   -- for this text's walks alone
mutual
def cleatref20_Big.l0 : Nat → List (S68) → Int → Option (Bool)
 | 0, _, _ => none
 | k + 1, x0, x3 => if x3 < (x0.length : Int) then (cleatref20_Big.j1 k x0 x3 (decide ((x0.length : Int) ≤ 12))) else (cleatref20_Big.j1 k x0 x3 false)
def cleatref20_Big.j1 : Nat → List (S68) → Int → Bool → Option (Bool)
 | 0, _, _, _ => none
 | k + 1, x0, x3, x12 => if x12 = true then (if 0 ≤ x3 then (if x3 < (x0.length : Int) then ((cleatref19_Big.f k ((rd_T68 x0 x3).f0) ((rd_T68 x0 x3).f1)).bind fun t107 => (if t107 = true then (some true) else (cleatref20_Big.l0 k x0 (wrap64 (x3 + 1))))) else (none)) else (none)) else (some (decide ((x0.length : Int) > 12)))
end
def cleatref20_Big.f (k : Nat) (l0 : List (S68)) : Option (Bool) := cleatref20_Big.l0 k l0 0
theorem cleatref20_Big.calls (k : Nat) (A0 : Option Addr) (c0 : Nat) (l0 : List (S68)) (r : Bool) (w : World) (hr0 : Kd.C k68 w A0 l0.length l0) (hc0 : l0.length ≤ c0) (h : cleatref20_Big.f k l0 = some r) :
 Calls Tryz.prog 19 #[.slice A0 l0.length c0] w fun e w' => e = .returned (.bool r) ∧ Below w.heap.size w w' := by
 have hu68 := Tryz.underlying68
 have HR0 := Azz.mk hr0
 have HC0 := Azz.mk hc0
 clear hr0 hc0
 have HB := Azz.mk (Below.refl w.heap.size w)
 have H : (cleatref20_Big.l0 k l0 0) = some r := h
 clear h
 have H' := Azz.mk H
 clear H
 go_enter Tryz.func19, Tryz.ntmps19
 go_wp2
 go_loopg [3] k (fun kq v3 w' => ∃ (x3_1 : Int), v3 = .int .i64 x3_1 ∧ Azz (cleatref20_Big.l0 kq l0 x3_1 = some r) ∧ Azz (kq ≤ k) ∧ Azz (Below w.heap.size w w'))
 case atStart => exact ⟨(0), eqS, H', ⟨Nat.le_refl _⟩, ⟨by repeat (first | (with_reducible first | exact HB.out | apply bAA | apply bNN | apply bDD) | exact HB.out)⟩⟩
 case round =>
  clear H'
  try clear c1
  obtain ⟨x3_1, rfl, HA, HK1, HB⟩ := hrel
  cases gk with
  | zero => exact absurd HA.out (by simp [cleatref20_Big.l0])
  | succ k1 =>
   have H := HA.out
   clear HA
   simp only [cleatref20_Big.l0] at H
   have HC2 := Azz.mk H
   clear H
   go_upto_region 2 with (fail)
   go_cut [12] (fun v12 wc => ∃ (kq : Nat) (x12_1 : Bool), v12 = .bool x12_1 ∧ Azz (cleatref20_Big.j1 kq l0 x3_1 x12_1 = some r) ∧ Azz (kq ≤ k1) ∧ Azz (Below w.heap.size w wc))
   case first =>
    have H := HC2.out
    clear HC2
    by_cases c3 : x3_1 < (l0.length : Int)
    ·rw [if_pos c3] at H
     have c3b0 := decide_eq_true c3
     clear c3
     (first | rw [c3b0] | (simp only [i64_w, i32_w]; rw [c3b0]) | skip)
     have H' := Azz.mk H
     clear H
     go_wp2
     go_meet
     case rel => exact ⟨_, (decide ((l0.length : Int) ≤ 12)), eqS, H', ⟨by have := HK1.out; first | omega | exact Nat.le_refl _⟩, ⟨by repeat (first | (with_reducible first | exact HB.out | apply bAA | apply bNN | apply bDD) | exact HB.out)⟩⟩
    ·rw [if_neg c3] at H
     have c3b0 := decide_eq_false c3
     clear c3
     (first | rw [c3b0] | (simp only [i64_w, i32_w]; rw [c3b0]) | skip)
     have H' := Azz.mk H
     clear H
     go_wp2
     go_meet
     case rel => exact ⟨_, (false), eqS, H', ⟨by have := HK1.out; first | omega | exact Nat.le_refl _⟩, ⟨by repeat (first | (with_reducible first | exact HB.out | apply bAA | apply bNN | apply bDD) | exact HB.out)⟩⟩
   case rest =>
    clear HC2
    try clear c1
    try clear p2
    try clear c3
    try clear c3b0
    obtain ⟨kq, x12_1, rfl, HA, HJ1, HB⟩ := hcut
    cases kq with
    | zero => exact absurd HA.out (by simp [cleatref20_Big.j1])
    | succ kj1 =>
     have H := HA.out
     clear HA
     simp only [cleatref20_Big.j1] at H
     by_cases c4 : x12_1 = true
     ·subst c4
      rw [if_pos rfl] at H
      by_cases c5 : 0 ≤ x3_1
      ·rw [if_pos c5] at H
       have c5b0 := decide_eq_true c5
       clear c5
       by_cases c6 : x3_1 < (l0.length : Int)
       ·rw [if_pos c6] at H
        have c6b0 := decide_eq_true c6
        clear c6
        replace H := Option.bind_eq_some_iff.mp H
        obtain ⟨t107, A70, H⟩ := H
        (try dsimp only at H)
        have A7 := Azz.mk A70
        clear A70
        by_cases c8 : t107 = true
        ·subst c8
         rw [if_pos rfl] at H
         obtain rfl := Option.some.inj H
         have p106 : 0 ≤ (x3_1 : Int) := of_decide_eq_true (by first | (with_reducible assumption) | assumption)
         have q106 : x3_1 < (l0.length : Int) := of_decide_eq_true (by first | (with_reducible assumption) | assumption)
         obtain ⟨ad106, A106_0, c106_0, A106_1, c106_1, e106, hx106_0, hx106_1, hl106_0, hi106_0, hl106_1, hi106_1⟩ := at_T68 HR0.out x3_1 p106 q106
         cases e106
         replace hx106_0 := (HB.out.cell (World.block_lt_of_cell? w _ hx106_0)).trans hx106_0
         replace hx106_1 := (HB.out.cell (World.block_lt_of_cell? w _ hx106_1)).trans hx106_1
         have HR106_0 := Azz.mk hi106_0
         have HC106_0 := Azz.mk hl106_0
         clear hi106_0 hl106_0
         have HR106_1 := Azz.mk hi106_1
         have HC106_1 := Azz.mk hl106_1
         clear hi106_1 hl106_1
         replace p106 := eq_true p106
         replace q106 := eq_true q106
         go_wp2_with (first | ((with_reducible refine gate_callee (f := 46) rfl ?_); refine gM (some 19) rfl rfl Tryz.func46 #[.agg #[.slice A106_0 ((rd_T68 l0 x3_1).f0).length c106_0, .slice A106_1 ((rd_T68 l0 x3_1).f1).length c106_1]] rfl ?_; (with_reducible refine (cleatref19_Big.calls kj1 _ _ ((rd_T68 l0 x3_1).f0) _ _ ((rd_T68 l0 x3_1).f1) true _ ?side1 ?side2 ?side3 ?side4 A7.out).mono ?_); (case side1 => repeat (first | exact (Kd.C_below HR106_0.out HB.out) | (with_reducible refine Kd.C_alloc ?_ _) | (with_reducible refine Kd.C_drewN ?_ _) | (with_reducible refine Kd.C_drew ?_))); (case side2 => exact HC106_0.out); (case side3 => repeat (first | exact (Kd.C_below HR106_1.out HB.out) | (with_reducible refine Kd.C_alloc ?_ _) | (with_reducible refine Kd.C_drewN ?_ _) | (with_reducible refine Kd.C_drew ?_))); (case side4 => exact HC106_1.out); rintro e w9 ⟨rfl, hb⟩; refine ⟨_, rfl, ?_⟩; have n0_ := Azz.mk (bTT (by with_reducible repeat first | exact HB.out | apply bAA | apply bNN | apply bDD) hb); clear HB; have HB := n0_; clear n0_; (try clear hb); (try clear hb2); (try clear hk); (try clear hi)))
         go_ret
         exact ⟨by first | rfl | (simp [eNN, eSS] <;> rfl) | (simp [*, eNN, eSS] <;> rfl), by repeat (first | (with_reducible first | exact HB.out | apply bAA | apply bNN | apply bDD) | exact HB.out)⟩
        ·replace c8 := Bool.eq_false_iff.mpr c8
         subst c8
         rw [if_neg (show ¬ (false = true) by decide)] at H
         have H' := Azz.mk H
         clear H
         have p106 : 0 ≤ (x3_1 : Int) := of_decide_eq_true (by first | (with_reducible assumption) | assumption)
         have q106 : x3_1 < (l0.length : Int) := of_decide_eq_true (by first | (with_reducible assumption) | assumption)
         obtain ⟨ad106, A106_0, c106_0, A106_1, c106_1, e106, hx106_0, hx106_1, hl106_0, hi106_0, hl106_1, hi106_1⟩ := at_T68 HR0.out x3_1 p106 q106
         cases e106
         replace hx106_0 := (HB.out.cell (World.block_lt_of_cell? w _ hx106_0)).trans hx106_0
         replace hx106_1 := (HB.out.cell (World.block_lt_of_cell? w _ hx106_1)).trans hx106_1
         have HR106_0 := Azz.mk hi106_0
         have HC106_0 := Azz.mk hl106_0
         clear hi106_0 hl106_0
         have HR106_1 := Azz.mk hi106_1
         have HC106_1 := Azz.mk hl106_1
         clear hi106_1 hl106_1
         replace p106 := eq_true p106
         replace q106 := eq_true q106
         go_wp2_with (first | ((with_reducible refine gate_callee (f := 46) rfl ?_); refine gM (some 19) rfl rfl Tryz.func46 #[.agg #[.slice A106_0 ((rd_T68 l0 x3_1).f0).length c106_0, .slice A106_1 ((rd_T68 l0 x3_1).f1).length c106_1]] rfl ?_; (with_reducible refine (cleatref19_Big.calls kj1 _ _ ((rd_T68 l0 x3_1).f0) _ _ ((rd_T68 l0 x3_1).f1) false _ ?side1 ?side2 ?side3 ?side4 A7.out).mono ?_); (case side1 => repeat (first | exact (Kd.C_below HR106_0.out HB.out) | (with_reducible refine Kd.C_alloc ?_ _) | (with_reducible refine Kd.C_drewN ?_ _) | (with_reducible refine Kd.C_drew ?_))); (case side2 => exact HC106_0.out); (case side3 => repeat (first | exact (Kd.C_below HR106_1.out HB.out) | (with_reducible refine Kd.C_alloc ?_ _) | (with_reducible refine Kd.C_drewN ?_ _) | (with_reducible refine Kd.C_drew ?_))); (case side4 => exact HC106_1.out); rintro e w10 ⟨rfl, hb⟩; refine ⟨_, rfl, ?_⟩; have n0_ := Azz.mk (bTT (by with_reducible repeat first | exact HB.out | apply bAA | apply bNN | apply bDD) hb); clear HB; have HB := n0_; clear n0_; (try clear hb); (try clear hb2); (try clear hk); (try clear hi)))
         go_roundg kj1
         case measure => have := HK1.out; have := HJ1.out; omega
         case rel => exact ⟨(wrap64 (x3_1 + 1)), eqS, H', ⟨by have := HK1.out; have := HJ1.out; omega⟩, ⟨by repeat (first | (with_reducible first | exact HB.out | apply bAA | apply bNN | apply bDD) | exact HB.out)⟩⟩
       ·rw [if_neg c6] at H
        exact absurd H (by simp)
      ·rw [if_neg c5] at H
       exact absurd H (by simp)
     ·replace c4 := Bool.eq_false_iff.mpr c4
      subst c4
      rw [if_neg (show ¬ (false = true) by decide)] at H
      obtain rfl := Option.some.inj H
      go_wp2
      go_ret
      exact ⟨by first | rfl | (simp [eNN, eSS] <;> rfl) | (simp [*, eNN, eSS] <;> rfl), by repeat (first | (with_reducible first | exact HB.out | apply bAA | apply bNN | apply bDD) | exact HB.out)⟩
mutual
def num_digit.j0 : Nat → Int → Int → Bool → Option (Int × Bool)
 | 0, _, _, _ => none
 | k + 1, x0, x1, x7 => if x7 = true then (some (IntKind.u64.wrap (wrap32 (x0 - 48)), decide ((IntKind.u64.wrap (wrap32 (x0 - 48))) < x1))) else (if x0 ≥ 97 then (num_digit.j1 k x0 x1 (decide (x0 ≤ 102))) else (num_digit.j1 k x0 x1 false))
def num_digit.j1 : Nat → Int → Int → Bool → Option (Int × Bool)
 | 0, _, _, _ => none
 | k + 1, x0, x1, x17 => if x17 = true then (some (IntKind.u64.wrap ((IntKind.u64.wrap (wrap32 (x0 - 97))) + 10), decide ((IntKind.u64.wrap ((IntKind.u64.wrap (wrap32 (x0 - 97))) + 10)) < x1))) else (if x0 ≥ 65 then (if x0 ≤ 70 then (some (IntKind.u64.wrap ((IntKind.u64.wrap (wrap32 (x0 - 65))) + 10), decide ((IntKind.u64.wrap ((IntKind.u64.wrap (wrap32 (x0 - 65))) + 10)) < x1))) else (some (0, false))) else (some (0, false)))
end
def num_digit.f (k : Nat) (a0 : Int) (a1 : Int) : Option (Int × Bool) := if a0 ≥ 48 then (num_digit.j0 k a0 a1 (decide (a0 ≤ 57))) else (num_digit.j0 k a0 a1 false)
theorem num_digit.mono_l : ∀ k, (∀ y0 y1 y2, LeO (num_digit.j0 k y0 y1 y2) (num_digit.j0 (k + 1) y0 y1 y2)) ∧ (∀ y0 y1 y2, LeO (num_digit.j1 k y0 y1 y2) (num_digit.j1 (k + 1) y0 y1 y2))
 | 0 => ⟨fun _ _ _ r h => by simp [num_digit.j0] at h, fun _ _ _ r h => by simp [num_digit.j1] at h⟩
 | k + 1 => by
  obtain ⟨ih0, ih1⟩ := num_digit.mono_l k
  refine ⟨?_, ?_⟩
  ·intro y0 y1 y2
   unfold num_digit.j0
   repeat' first
   | (with_reducible exact ih0 _ _ _)
   | (with_reducible exact ih1 _ _ _)
   | (with_reducible exact LeO.refl _)
   | (with_reducible exact LeO.none _)
   | (with_reducible refine LeO.ite ?_ ?_)
   | (with_reducible refine LeO.bind ?_ (fun _ => ?_))
  ·intro y0 y1 y2
   unfold num_digit.j1
   repeat' first
   | (with_reducible exact ih0 _ _ _)
   | (with_reducible exact ih1 _ _ _)
   | (with_reducible exact LeO.refl _)
   | (with_reducible exact LeO.none _)
   | (with_reducible refine LeO.ite ?_ ?_)
   | (with_reducible refine LeO.bind ?_ (fun _ => ?_))
theorem num_digit.mono : ∀ a0 a1 k, LeO (num_digit.f k a0 a1) (num_digit.f (k + 1) a0 a1) := by
 intro a0 a1 k
 obtain ⟨ih0, ih1⟩ := num_digit.mono_l k
 unfold num_digit.f
 repeat' first
  | (with_reducible exact ih0 _ _ _)
  | (with_reducible exact ih1 _ _ _)
  | (with_reducible exact LeO.refl _)
  | (with_reducible exact LeO.none _)
  | (with_reducible refine LeO.ite ?_ ?_)
  | (with_reducible refine LeO.bind ?_ (fun _ => ?_))
theorem num_digit.calls (k : Nat) (a0 : Int) (a1 : Int) (r1 : Int) (r2 : Bool) (w : World) (h : num_digit.f k a0 a1 = some (r1, r2)) :
 Calls Tryz.prog 93 #[.int .i32 a0, .int .u64 a1] w fun e w' => e = .returned (.tuple #[.int .u64 r1, .bool r2]) ∧ Drawn0 w w' := by
 have H : (if a0 ≥ 48 then (num_digit.j0 k a0 a1 (decide (a0 ≤ 57))) else (num_digit.j0 k a0 a1 false)) = some (r1, r2) := h
 clear h
 have HC3 := Azz.mk H
 clear H
 go_enter Tryz.func93, Tryz.ntmps93
 go_upto_region 3 with (fail)
 go_cut [7] (fun v7 wc => ∃ (kq : Nat) (x7_2 : Bool), v7 = .bool x7_2 ∧ Azz (num_digit.j0 kq a0 a1 x7_2 = some (r1, r2)) ∧ Azz (kq ≤ k) ∧ Drawn0 w wc)
 case first =>
  have H := HC3.out
  clear HC3
  by_cases c4 : a0 ≥ 48
  ·rw [if_pos c4] at H
   have c4b0 := decide_eq_true c4
   clear c4
   (first | rw [c4b0] | (simp only [i64_w, i32_w]; rw [c4b0]) | skip)
   have H' := Azz.mk H
   clear H
   go_wp2
   go_meet
   case rel => exact ⟨_, (decide (a0 ≤ 57)), eqS, H', ⟨by first | omega | exact Nat.le_refl _⟩, by repeat (first | exact Drawn0.refl _ | apply Drawn0.step)⟩
  ·rw [if_neg c4] at H
   have c4b0 := decide_eq_false c4
   clear c4
   (first | rw [c4b0] | (simp only [i64_w, i32_w]; rw [c4b0]) | skip)
   have H' := Azz.mk H
   clear H
   go_wp2
   go_meet
   case rel => exact ⟨_, (false), eqS, H', ⟨by first | omega | exact Nat.le_refl _⟩, by repeat (first | exact Drawn0.refl _ | apply Drawn0.step)⟩
 case rest =>
  clear HC3
  try clear p2
  try clear c4
  try clear c4b0
  obtain ⟨kq, x7_2, rfl, HA, HJ2, ⟨mc2, rfl⟩⟩ := hcut
  cases kq with
  | zero => exact absurd HA.out (by simp [num_digit.j0])
  | succ kj2 =>
   have H := HA.out
   clear HA
   simp only [num_digit.j0] at H
   by_cases c5 : x7_2 = true
   ·subst c5
    rw [if_pos rfl] at H
    simp only [Option.some.injEq, Prod.mk.injEq] at H
    obtain ⟨rfl, rfl⟩ := H
    go_wp2
    go_ret2
    exact fin_
   ·replace c5 := Bool.eq_false_iff.mpr c5
    subst c5
    rw [if_neg (show ¬ (false = true) by decide)] at H
    have HC6 := Azz.mk H
    clear H
    go_upto_region 5 with (fail)
    go_cut [17] (fun v17 wc => ∃ (kq : Nat) (x17_5 : Bool), v17 = .bool x17_5 ∧ Azz (num_digit.j1 kq a0 a1 x17_5 = some (r1, r2)) ∧ Azz (kq ≤ kj2) ∧ Drawn0 w wc)
    case first =>
     have H := HC6.out
     clear HC6
     by_cases c7 : a0 ≥ 97
     ·rw [if_pos c7] at H
      have c7b0 := decide_eq_true c7
      clear c7
      (first | rw [c7b0] | (simp only [i64_w, i32_w]; rw [c7b0]) | skip)
      have H' := Azz.mk H
      clear H
      go_wp2
      go_meet
      case rel => exact ⟨_, (decide (a0 ≤ 102)), eqS, H', ⟨by have := HJ2.out; first | omega | exact Nat.le_refl _⟩, by repeat (first | exact Drawn0.refl _ | apply Drawn0.step)⟩
     ·rw [if_neg c7] at H
      have c7b0 := decide_eq_false c7
      clear c7
      (first | rw [c7b0] | (simp only [i64_w, i32_w]; rw [c7b0]) | skip)
      have H' := Azz.mk H
      clear H
      go_wp2
      go_meet
      case rel => exact ⟨_, (false), eqS, H', ⟨by have := HJ2.out; first | omega | exact Nat.le_refl _⟩, by repeat (first | exact Drawn0.refl _ | apply Drawn0.step)⟩
    case rest =>
     clear HC6
     try clear c2
     try clear p2
     try clear p3
     try clear c4
     try clear c4b0
     try clear c5
     try clear c7
     try clear c7b0
     try clear p2
     obtain ⟨kq, x17_5, rfl, HA, HJ5, ⟨mc5, rfl⟩⟩ := hcut
     cases kq with
     | zero => exact absurd HA.out (by simp [num_digit.j1])
     | succ kj5 =>
      have H := HA.out
      clear HA
      simp only [num_digit.j1] at H
      by_cases c8 : x17_5 = true
      ·subst c8
       rw [if_pos rfl] at H
       simp only [Option.some.injEq, Prod.mk.injEq] at H
       obtain ⟨rfl, rfl⟩ := H
       go_wp2
       go_ret2
       exact fin_
      ·replace c8 := Bool.eq_false_iff.mpr c8
       subst c8
       rw [if_neg (show ¬ (false = true) by decide)] at H
       by_cases c9 : a0 ≥ 65
       ·rw [if_pos c9] at H
        have c9b0 := decide_eq_true c9
        clear c9
        by_cases c10 : a0 ≤ 70
        ·rw [if_pos c10] at H
         have c10b0 := decide_eq_true c10
         clear c10
         simp only [Option.some.injEq, Prod.mk.injEq] at H
         obtain ⟨rfl, rfl⟩ := H
         go_wp2
         go_ret2
         exact fin_
        ·rw [if_neg c10] at H
         have c10b0 := decide_eq_false c10
         clear c10
         simp only [Option.some.injEq, Prod.mk.injEq] at H
         obtain ⟨rfl, rfl⟩ := H
         go_wp2
         go_ret2
         exact fin_
       ·rw [if_neg c9] at H
        have c9b0 := decide_eq_false c9
        clear c9
        simp only [Option.some.injEq, Prod.mk.injEq] at H
        obtain ⟨rfl, rfl⟩ := H
        go_wp2
        go_ret2
        exact fin_
def num_digits.l0 : Nat → ByteArray → Int → Nat → Option Bool
 | 0, _, _, _ => none
 | k + 1, s, b, i => if i < s.size then (if bt s (i : Int) < 128 then ((num_digit.f k (bt s (i : Int)) b).bind fun t => if t.2 = true then num_digits.l0 k s b (i + 1) else some false) else some false) else some true
def num_digits.f (k : Nat) (a0 : ByteArray) (a1 : Int) : Option Bool := if a0.size = 0 then some false else num_digits.l0 k a0 a1 0
theorem num_digits.mono_l : ∀ k s b i, LeO (num_digits.l0 k s b i) (num_digits.l0 (k + 1) s b i)
 | 0, s, b, i => fun r h => by simp [num_digits.l0] at h
 | k + 1, s, b, i => by
  have ih := num_digits.mono_l k
  rw [num_digits.l0, num_digits.l0.eq_2 s b i (k + 1)]
  exact LeO.ite (LeO.ite (LeO.bind (num_digit.mono _ _ k) fun t => LeO.ite (ih _ _ _) (LeO.refl _)) (LeO.refl _)) (LeO.refl _)
theorem num_digits.mono : ∀ a0 a1 k, LeO (num_digits.f k a0 a1) (num_digits.f (k + 1) a0 a1) := by
 intro a0 a1 k
 unfold num_digits.f
 exact LeO.ite (LeO.refl _) (num_digits.mono_l k _ _ _)
theorem num_digit.high (r b : Int) (h : 128 ≤ r) : num_digit.f 9 r b = some (0, false) := by
 unfold num_digit.f
 rw [if_pos (by omega), decide_eq_false (by omega : ¬ r ≤ 57), num_digit.j0, if_neg (by decide), if_pos (by omega), decide_eq_false (by omega : ¬ r ≤ 102), num_digit.j1, if_neg (by decide), if_pos (by omega), if_neg (by omega)]
theorem num_digits.iter_drewN (w : World) (s : ByteArray) (p m n : Nat) : ((w.drewN m).iter s p).drewN n = (w.drewN (m + n)).iter s p := by
 rw [← World.drewN_drewN]
 rfl
theorem num_digits.iter_below (w : World) (s : ByteArray) (p m : Nat) : Below w.heap.size w ((w.drewN m).iter s p) := by
 unfold World.iter
 repeat (first | exact Below.refl _ _ | apply bAA | apply bNN | apply bDD)
theorem num_digits.bt_at (s : ByteArray) (p : Nat) (h : p < s.size) : bt s (p : Int) = ((s[p]'h).toNat : Int) := by
 unfold bt
 rw [dif_pos (by rw [Int.toNat_natCast]; exact h)]
 rfl
theorem num_digits.not_empty (s : ByteArray) (h0 : ¬ s.size = 0) : (s.toList == ([] : List UInt8)) = false := by
 rw [Go.Lib.toList_data]
 have : s.data.toList.length = s.size := by rw [Array.length_toList]; rfl
 cases hd : s.data.toList with
 | nil => rw [hd] at this; exact absurd this.symm h0
 | cons x l => rfl
theorem num_digits.is_empty (s : ByteArray) (h0 : s.size = 0) : s = ⟨#[]⟩ := by
 cases s
 rename_i d
 have : d = #[] := Array.eq_empty_of_size_eq_zero h0
 rw [this]
theorem num_digits.calls (k : Nat) (a0 : ByteArray) (a1 : Int) (r : Bool) (w : World) (h : num_digits.f k a0 a1 = some r) :
 Calls Tryz.prog 92 #[.string a0, .int .u64 a1] w fun e w' => e = .returned (.bool r) ∧ Below w.heap.size w w' := by
 unfold num_digits.f at h
 by_cases h0 : a0.size = 0
 ·rw [if_pos h0] at h
  obtain rfl := Option.some.inj h
  obtain rfl := num_digits.is_empty a0 h0
  have hnx : ∀ ty, (Instr.next (.pointer (some ⟨w.heap.size, 0, none⟩)) true ty).run Tryz.prog (w.iter ⟨#[]⟩ 0) = .ok (.tuple #[.bool false]) (w.iter ⟨#[]⟩ 0) := fun ty => run_next_end (P := Tryz.prog) w ⟨#[]⟩ 0 ty (by decide)
  clear h
  go_enter Tryz.func92, Tryz.ntmps92
  go_wp2
  go_loopg [6] 1 (fun kq v6 w' => w' = w.iter ⟨#[]⟩ 0)
  case atStart => rfl
  case round =>
   subst hrel
   go_wp2
   go_ret
   exact ⟨rfl, num_digits.iter_below w ⟨#[]⟩ 0 0⟩
 ·rw [if_neg h0] at h
  have n0 := num_digits.not_empty a0 h0
  have H' := Azz.mk h
  clear h h0
  go_enter Tryz.func92, Tryz.ntmps92
  go_wp2
  go_loopg [6] k (fun kq v6 w' => ∃ (m pos : Nat), Azz (num_digits.l0 kq a0 a1 pos = some r) ∧ Azz (kq ≤ k) ∧ w' = (w.drewN m).iter a0 pos)
  case atStart => exact ⟨0, 0, H', ⟨Nat.le_refl _⟩, rfl⟩
  case round =>
   clear H'
   obtain ⟨m, pos, HA, HK, rfl⟩ := hrel
   cases gk with
   | zero => exact absurd HA.out (by simp [num_digits.l0])
   | succ k1 =>
    have H := HA.out
    clear HA
    rw [num_digits.l0] at H
    by_cases hp : pos < a0.size
    ·rw [if_pos hp] at H
     have ebt := num_digits.bt_at a0 pos hp
     by_cases ha : bt a0 (pos : Int) < 128
     ·rw [if_pos ha] at H
      have ha2 : (a0[pos]'hp).toNat < 128 := by rw [ebt] at ha; omega
      have hnx : ∀ ty, (Instr.next (.pointer (some ⟨w.heap.size, 0, none⟩)) true ty).run Tryz.prog ((w.drewN m).iter a0 pos) = .ok (.tuple #[.bool true, .int .i64 pos, .int .i32 (bt a0 (pos : Int))]) ((w.drewN m).iter a0 (pos + 1)) := by
       intro ty
       rw [ebt]
       exact run_next_ascii (P := Tryz.prog) (w.drewN m) a0 pos ty hp ha2
      generalize bt a0 (pos : Int) = c at ha hnx H
      clear ebt ha2 n0
      cases ht : num_digit.f k1 c a1 with
      | none => rw [ht] at H; exact absurd H (by simp)
      | some t =>
       obtain ⟨t1, t2⟩ := t
       rw [ht, Option.bind_some] at H
       have arm := Azz.mk (fun W => num_digit.calls k1 c a1 t1 t2 W ht)
       clear ht
       cases t2 with
       | true =>
        rw [if_pos rfl] at H
        have H' := Azz.mk H
        clear H
        go_wp2_with (first | (go_at_call 93; (with_reducible refine (arm.out _).mono ?_); rintro e w' ⟨rfl, ⟨nd, rfl⟩⟩))
        go_roundg k1
        case measure => have := HK.out; omega
        case rel => exact ⟨_, pos + 1, H', ⟨by have := HK.out; omega⟩, num_digits.iter_drewN ..⟩
       | false =>
        rw [if_neg (by simp)] at H
        obtain rfl := Option.some.inj H
        go_wp2_with (first | (go_at_call 93; (with_reducible refine (arm.out _).mono ?_); rintro e w' ⟨rfl, ⟨nd, rfl⟩⟩))
        go_ret
        exact ⟨rfl, by rw [num_digits.iter_drewN]; exact num_digits.iter_below ..⟩
     ·rw [if_neg ha] at H
      obtain rfl := Option.some.inj H
      obtain ⟨hd, _⟩ := decode_high a0 pos hp (by rw [ebt] at ha; omega)
      have hnx := fun ty => run_next_any (P := Tryz.prog) (w.drewN m) a0 pos ty hp
      generalize (Utf8.decode a0 pos).2 = q at hnx
      generalize (Utf8.decode a0 pos).1 = c at hd hnx
      replace hnx : ∀ ty, (Instr.next (.pointer (some ⟨w.heap.size, 0, none⟩)) true ty).run Tryz.prog ((w.drewN m).iter a0 pos) = .ok (.tuple #[.bool true, .int .i64 pos, .int .i32 ((c : Nat) : Int)]) ((w.drewN m).iter a0 (pos + q)) := hnx
      have arm := Azz.mk (fun W => num_digit.calls 9 ((c : Nat) : Int) a1 0 false W (num_digit.high _ _ (by omega)))
      clear ebt ha n0
      go_wp2_with (first | (go_at_call 93; (with_reducible refine (arm.out _).mono ?_); rintro e w' ⟨rfl, ⟨nd, rfl⟩⟩))
      go_ret
      exact ⟨rfl, by rw [num_digits.iter_drewN]; exact num_digits.iter_below ..⟩
    ·rw [if_neg hp] at H
     obtain rfl := Option.some.inj H
     have hnx : ∀ ty, (Instr.next (.pointer (some ⟨w.heap.size, 0, none⟩)) true ty).run Tryz.prog ((w.drewN m).iter a0 pos) = .ok (.tuple #[.bool false]) ((w.drewN m).iter a0 pos) := fun ty => run_next_end (P := Tryz.prog) (w.drewN m) a0 pos ty hp
     clear hp
     go_wp2
     go_ret
     exact ⟨rfl, num_digits.iter_below ..⟩
end Go.Proofs.YtngmipfodjgmmaaGreatDoor.P
end
