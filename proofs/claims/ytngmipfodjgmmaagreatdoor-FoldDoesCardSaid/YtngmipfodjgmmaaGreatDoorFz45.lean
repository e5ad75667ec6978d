/- Walks and plain laws of this claim, a part. -/
import Derived.Test.YtngmipfodjgmmaaGreatDoorFz44
set_option maxRecDepth 100000
set_option maxHeartbeats 8000000
set_option linter.unusedVariables false
set_option linter.unusedSimpArgs false
namespace Go.Proofs.YtngmipfodjgmmaaGreatDoor.P
open Go.RowKit Wa Wb Wc
attribute [local go_sem] max2_int min2_int max_two min_two max_three min_three max_four min_four
def cleatref09_IsWord.f (k : Nat) (a0 : ByteArray) : Option (Bool) := if (a0.size : Int) ≥ 1 then (if (a0.size : Int) ≤ 31 then (if 0 < (a0.size : Int) then ((cleatref09_letter.f (bt a0 0)).bind fun t200 => (if t200 = true then ((cleatref09_run.f k a0 0).bind fun t201 => (some (t201 == (a0.size : Int)))) else (some false))) else (none)) else (some false)) else (some false)
theorem cleatref09_IsWord.calls (k : Nat) (a0 : ByteArray) (r : Bool) (w : World) (h : cleatref09_IsWord.f k a0 = some r) :
 Calls Tryz.prog 103 #[.string a0] w fun e w' => e = .returned (.bool r) ∧ Drawn0 w w' := by
 have H : (if (a0.size : Int) ≥ 1 then (if (a0.size : Int) ≤ 31 then (if 0 < (a0.size : Int) then ((cleatref09_letter.f (bt a0 0)).bind fun t200 => (if t200 = true then ((cleatref09_run.f k a0 0).bind fun t201 => (some (t201 == (a0.size : Int)))) else (some false))) else (none)) else (some false)) else (some false)) = some r := h
 clear h
 by_cases c2 : (a0.size : Int) ≥ 1
 rotate_left
 ·rw [if_neg c2] at H
  have c2b0 := dF_ c2
  have c2b1 : decide (1 ≤ a0.size) = false := dF_ (by omega)
  clear c2
  obtain rfl := sI H
  go_enter Tryz.func103, Tryz.ntmps103
  go_wp2
  go_ret
  exact ⟨by first | rfl | (simp; done) | (simp [*]; done), d0S⟩
 rw [if_pos c2] at H
 have c2b0 := dT_ c2
 have c2b1 : decide (1 ≤ a0.size) = true := dT_ (by omega)
 clear c2
 by_cases c3 : (a0.size : Int) ≤ 31
 rotate_left
 ·rw [if_neg c3] at H
  have c3b0 := dF_ c3
  have c3b1 : decide (a0.size ≤ 31) = false := dF_ (by omega)
  clear c3
  obtain rfl := sI H
  go_enter Tryz.func103, Tryz.ntmps103
  go_wp2
  go_ret
  exact ⟨by first | rfl | (simp; done) | (simp [*]; done), d0S⟩
 rw [if_pos c3] at H
 have c3b0 := dT_ c3
 have c3b1 : decide (a0.size ≤ 31) = true := dT_ (by omega)
 clear c3
 by_cases c4 : 0 < (a0.size : Int)
 rotate_left
 ·rw [if_neg c4] at H
  exact absurd H (by simp)
 rw [if_pos c4] at H
 have c4b0 := dT_ c4
 have c4b1 : decide (0 < a0.size) = true := dT_ (by omega)
 clear c4
 obtain ⟨t200, A6, H⟩ := bnd H
 (try dsimp only at H)
 by_cases c7 : t200 = true
 ·subst c7
  rw [if_pos rfl] at H
  obtain ⟨t201, A8, H⟩ := bnd H
  (try dsimp only at H)
  obtain rfl := sI H
  have p5 : 0 ≤ (0 : Int) := (by omega)
  have q5 : 0 < a0.size := (by have : (0 : Int) < (a0.size : Int) := of_decide_eq_true (by first | (with_reducible assumption) | assumption); omega)
  have hx5 : ∀ h : 0 < a0.size, ((a0[0]'h).toNat : Int) = bt a0 0 := bt_at a0 0
  clear p5
  have qi5 : (0 < (a0.size : Int)) = True := eq_true (of_decide_eq_true (by first | (with_reducible assumption) | assumption))
  replace q5 := eq_true q5
  go_enter Tryz.func103, Tryz.ntmps103
  go_wp2_with (first | (go_at_call 129; (with_reducible refine (cleatref09_letter.calls (bt a0 0) true _ A6.out).mono ?_); rintro e w' ⟨rfl, ⟨nd, rfl⟩⟩) | (go_at_call 130; (with_reducible refine (cleatref09_run.calls k a0 0 t201 _ A8.out).mono ?_); rintro e w' ⟨rfl, ⟨nd, rfl⟩⟩))
  go_ret
  exact ⟨by first | rfl | (simp; done) | (simp [*]; done), d0S⟩
 replace c7 := Bool.eq_false_iff.mpr c7
 subst c7
 rw [if_neg nFT] at H
 obtain rfl := sI H
 have p5 : 0 ≤ (0 : Int) := (by omega)
 have q5 : 0 < a0.size := (by have : (0 : Int) < (a0.size : Int) := of_decide_eq_true (by first | (with_reducible assumption) | assumption); omega)
 have hx5 : ∀ h : 0 < a0.size, ((a0[0]'h).toNat : Int) = bt a0 0 := bt_at a0 0
 clear p5
 have qi5 : (0 < (a0.size : Int)) = True := eq_true (of_decide_eq_true (by first | (with_reducible assumption) | assumption))
 replace q5 := eq_true q5
 go_enter Tryz.func103, Tryz.ntmps103
 go_wp2_with (first | (go_at_call 129; (with_reducible refine (cleatref09_letter.calls (bt a0 0) false _ A6.out).mono ?_); rintro e w' ⟨rfl, ⟨nd, rfl⟩⟩))
 go_ret
 exact ⟨by first | rfl | (simp; done) | (simp [*]; done), d0S⟩
def cleatref11_shift.l0 : Nat → ByteArray → List ByteArray → Int → Option (Int)
 | 0, _, _, _ => none
 | k + 1, x0, x3, x4 => if x4 < 4 then (if 0 ≤ x4 then (if x4 < (x3.length : Int) then (if (rdOf ByteArray.empty x3 x4).toList = x0.toList then (some x4) else (cleatref11_shift.l0 k x0 x3 (wrap64 (x4 + 1)))) else (none)) else (none)) else (some (-1))
def cleatref11_shift.f (k : Nat) (a0 : ByteArray) : Option (Int) := cleatref11_shift.l0 k a0 (([(⟨#[108, 115, 108]⟩ : ByteArray), (⟨#[108, 115, 114]⟩ : ByteArray), (⟨#[97, 115, 114]⟩ : ByteArray), (⟨#[114, 111, 114]⟩ : ByteArray)] : List ByteArray)) 0
theorem cleatref11_shift.calls (k : Nat) (a0 : ByteArray) (r : Int) (w : World) (h : cleatref11_shift.f k a0 = some r) :
 Calls Tryz.prog 104 #[.string a0] w fun e w' => e = .returned (.int .i64 r) ∧ Below w.heap.size w w' := by
 have HB := Azz.mk (Below.refl w.heap.size w)
 have H : (cleatref11_shift.l0 k a0 (([(⟨#[108, 115, 108]⟩ : ByteArray), (⟨#[108, 115, 114]⟩ : ByteArray), (⟨#[97, 115, 114]⟩ : ByteArray), (⟨#[114, 111, 114]⟩ : ByteArray)] : List ByteArray)) 0) = some r := h
 clear h
 obtain ⟨y202, hy202⟩ : ∃ y_ : List ByteArray, y_ = (([(⟨#[108, 115, 108]⟩ : ByteArray), (⟨#[108, 115, 114]⟩ : ByteArray), (⟨#[97, 115, 114]⟩ : ByteArray), (⟨#[114, 111, 114]⟩ : ByteArray)] : List ByteArray)) := ⟨_, rfl⟩
 replace H : (cleatref11_shift.l0 k a0 y202 0) = some r := by first | (rw [hy202]; with_reducible exact H) | (have H2_ := (Option.bind_some _ _).symm.trans H; rw [hy202]; with_reducible exact H2_) | (have H2_ := (Option.bind_some _ _).symm.trans H; with_reducible exact H2_) | with_reducible exact H | (rw [hy202]; exact H) | exact H
 have Ny202 := Azz.mk hy202
 clear hy202
 have H' := Azz.mk H
 clear H
 go_enter Tryz.func104, Tryz.ntmps104
 go_wp2_with (first | ((with_reducible refine gate_dst (N := 5) rfl ?_); refine Kd.R_lit Kd.string _ 9 ?hg (N := 5) ?hd (xs := ([(⟨#[108, 115, 108]⟩ : ByteArray), (⟨#[108, 115, 114]⟩ : ByteArray), (⟨#[97, 115, 114]⟩ : ByteArray), (⟨#[114, 111, 114]⟩ : ByteArray)] : List ByteArray)) (inner := [.string (⟨#[108, 115, 108]⟩ : ByteArray), .string (⟨#[108, 115, 114]⟩ : ByteArray), .string (⟨#[97, 115, 114]⟩ : ByteArray), .string (⟨#[114, 111, 114]⟩ : ByteArray)]) (ok := fun _ => True) (okp := fun _ => True) ?hr ?hp (fun _ hk => hk) trivial (Below.refl _ _) (Nat.le_refl _) (by simp) ?_; (case hd => rfl); (case hg => rfl); (case hr => first | (go_simp; done) | (go_simp; rfl)); (case hp => exact (Reps.one (show Kd.M Kd.string _ _ _ (⟨#[108, 115, 108]⟩ : ByteArray) [.string (⟨#[108, 115, 108]⟩ : ByteArray)] from rfl) (Reps.one (show Kd.M Kd.string _ _ _ (⟨#[108, 115, 114]⟩ : ByteArray) [.string (⟨#[108, 115, 114]⟩ : ByteArray)] from rfl) (Reps.one (show Kd.M Kd.string _ _ _ (⟨#[97, 115, 114]⟩ : ByteArray) [.string (⟨#[97, 115, 114]⟩ : ByteArray)] from rfl) (Reps.one (show Kd.M Kd.string _ _ _ (⟨#[114, 111, 114]⟩ : ByteArray) [.string (⟨#[114, 111, 114]⟩ : ByteArray)] from rfl) (Reps.none _ _)))))); intro v203 w2 ho3 hb hg_ hnew_; clear hg_ hnew_; (first | rw [← Ny202.out] at ho3 | (simp only [Int.reduceToNat] at ho3; rw [← Ny202.out] at ho3)); have n0_ := Azz.mk (Kd.R_lower ho3 (bZZ (by with_reducible repeat first | exact HB.out | apply bAA | apply bNN | apply bDD))); have n1_ := Azz.mk (bTT (by with_reducible repeat first | exact HB.out | apply bAA | apply bNN | apply bDD) hb); clear HB; have HO204 := n0_; have HB := n1_; clear n0_ n1_; clear hb ho3))
 go_loopg [4] k (fun kq v4 w' => ∃ (x4_1 : Int), v4 = .int .i64 x4_1 ∧ Azz (cleatref11_shift.l0 kq a0 y202 x4_1 = some r) ∧ Azz (kq ≤ k) ∧ Azz (Kd.R Kd.string 9 w' w.heap.size (fun _ => True) v203 y202) ∧ Azz (Below w.heap.size w w'))
 case atStart => exact ⟨(0), eqS, H', ⟨Nat.le_refl _⟩, ⟨by (with_reducible repeat (first | apply Kd.R_alloc | apply Kd.R_drewN | apply Kd.R_drew)); exact HO204.out⟩, ⟨by repeat (first | (with_reducible first | exact HB.out | apply bAA | apply bNN | apply bDD) | exact HB.out)⟩⟩
 case round =>
  clear H'
  try clear c1
  try clear p2
  obtain ⟨x4_1, rfl, HA, HK1, HO_3, HB⟩ := hrel
  cases gk with
  | zero => exact absurd HA.out (by simp [cleatref11_shift.l0])
  | succ k1 =>
   have H := HA.out
   clear HA
   simp only [cleatref11_shift.l0] at H
   by_cases c4 : x4_1 < 4
   rotate_left
   ·rw [if_neg c4] at H
    have c4b0 := dF_ c4
    clear c4
    obtain rfl := sI H
    go_wp2
    go_ret
    exact ⟨eqB, by repeat (first | (with_reducible first | exact HB.out | apply bAA | apply bNN | apply bDD) | exact HB.out)⟩
   rw [if_pos c4] at H
   have c4b0 := dT_ c4
   clear c4
   by_cases c5 : 0 ≤ x4_1
   rotate_left
   ·rw [if_neg c5] at H
    exact absurd H (by simp)
   rw [if_pos c5] at H
   have c5b0 := dT_ c5
   clear c5
   by_cases c6 : x4_1 < (y202.length : Int)
   rotate_left
   ·rw [if_neg c6] at H
    exact absurd H (by simp)
   rw [if_pos c6] at H
   have c6b0 := dT_ c6
   clear c6
   by_cases c7 : (rdOf ByteArray.empty y202 x4_1).toList = a0.toList
   ·rw [if_pos c7] at H
    obtain ⟨c7b0, c7b1⟩ := be_ c7
    clear c7
    obtain rfl := sI H
    obtain ⟨Ao8, co8, eo8⟩ := Kd.R_slice HO_3.out
    subst eo8
    have p205 : 0 ≤ (x4_1 : Int) := of_decide_eq_true (by first | (with_reducible assumption) | assumption)
    have q205 : x4_1 < (y202.length : Int) := of_decide_eq_true (by first | (with_reducible assumption) | assumption)
    obtain ⟨ad205, e205, hx205_0⟩ := Kd.at_string (Kd.R_reads' HO_3.out).2.2 x4_1 p205 q205
    cases e205
    replace p205 := eq_true p205
    replace q205 := eq_true q205
    go_wp2
    go_ret
    exact ⟨eqB, by repeat (first | (with_reducible first | exact HB.out | apply bAA | apply bNN | apply bDD) | exact HB.out)⟩
   rw [if_neg c7] at H
   obtain ⟨c7b0, c7b1⟩ := bn_ c7
   have H' := Azz.mk H
   clear H
   obtain ⟨Ao9, co9, eo9⟩ := Kd.R_slice HO_3.out
   subst eo9
   have p205 : 0 ≤ (x4_1 : Int) := of_decide_eq_true (by first | (with_reducible assumption) | assumption)
   have q205 : x4_1 < (y202.length : Int) := of_decide_eq_true (by first | (with_reducible assumption) | assumption)
   obtain ⟨ad205, e205, hx205_0⟩ := Kd.at_string (Kd.R_reads' HO_3.out).2.2 x4_1 p205 q205
   cases e205
   replace p205 := eq_true p205
   replace q205 := eq_true q205
   go_wp2
   go_roundg k1
   case measure => have := HK1.out; omega
   case rel => exact ⟨(wrap64 (x4_1 + 1)), eqS, H', ⟨by have := HK1.out; omega⟩, ⟨by (with_reducible repeat (first | apply Kd.R_alloc | apply Kd.R_drewN | apply Kd.R_drew)); exact HO_3.out⟩, ⟨by repeat (first | (with_reducible first | exact HB.out | apply bAA | apply bNN | apply bDD) | exact HB.out)⟩⟩
def cleatref11_named.f (k : Nat) (a0_0 : Int) (a0_1 : ByteArray) (a0_2 : Int) : Option (Bool) := (cleatref11_Label.f k a0_1).bind fun bt207 => ((cleatref11_Reg.f k a0_1).bind fun bt210 => (if a0_0 = 2 then (if bt207.2.2 = true then (some true) else (if a0_0 = 1 then ((cleatref09_IsWord.f k a0_1).bind fun t213 => (if t213 = true then (if bt210.2.2 = 0 then (some false) else ((cleatref11_shift.f k a0_1).bind fun t214 => (some (decide (t214 < 0))))) else (some false))) else (some false))) else (if a0_0 = 1 then ((cleatref09_IsWord.f k a0_1).bind fun t215 => (if t215 = true then (if bt210.2.2 = 0 then (some false) else ((cleatref11_shift.f k a0_1).bind fun t216 => (some (decide (t216 < 0))))) else (some false))) else (some false))))
theorem cleatref11_named.calls (k : Nat) (a0_0 : Int) (a0_1 : ByteArray) (a0_2 : Int) (r : Bool) (w : World) (h : cleatref11_named.f k a0_0 a0_1 a0_2 = some r) :
 Calls Tryz.prog 89 #[.agg #[.int .i64 a0_0, .string a0_1, .int .u64 a0_2]] w fun e w' => e = .returned (.bool r) ∧ Below w.heap.size w w' := by
 have hu142 := Tryz.underlying142
 have HB := Azz.mk (Below.refl w.heap.size w)
 have H : ((cleatref11_Label.f k a0_1).bind fun bt207 => ((cleatref11_Reg.f k a0_1).bind fun bt210 => (if a0_0 = 2 then (if bt207.2.2 = true then (some true) else (if a0_0 = 1 then ((cleatref09_IsWord.f k a0_1).bind fun t213 => (if t213 = true then (if bt210.2.2 = 0 then (some false) else ((cleatref11_shift.f k a0_1).bind fun t214 => (some (decide (t214 < 0))))) else (some false))) else (some false))) else (if a0_0 = 1 then ((cleatref09_IsWord.f k a0_1).bind fun t215 => (if t215 = true then (if bt210.2.2 = 0 then (some false) else ((cleatref11_shift.f k a0_1).bind fun t216 => (some (decide (t216 < 0))))) else (some false))) else (some false))))) = some r := h
 clear h
 obtain ⟨⟨t207, t208, t209⟩, A2, H⟩ := bnd H
 (try dsimp only at H)
 obtain ⟨⟨t210, t211, t212⟩, A3, H⟩ := bnd H
 (try dsimp only at H)
 by_cases c4 : a0_0 = 2
 ·rw [if_pos c4] at H
  obtain ⟨c4b0, c4b1⟩ := be_ c4
  clear c4
  by_cases c5 : t209 = true
  ·subst c5
   rw [if_pos rfl] at H
   obtain rfl := sI H
   go_enter Tryz.func89, Tryz.ntmps89
   go_wp2_with (first | ((with_reducible refine gate_dst (N := 1) rfl ?_); refine bxE (N := 1) (by with_reducible repeat first | exact HB.out | apply bAA | apply bNN | apply bDD) (cs := #[.int .i64 a0_0, .string a0_1, .int .u64 a0_2]) (t := 142) ?_; intro gb206 w6 n0_ BK206 GE206; clear HB; have HB := n0_; have GW206 := GE206; clear n0_; obtain ⟨hcz7_0, hcz7_1, hcz7_2, hfz7_0, hfz7_1, hfz7_2⟩ := cel3 BK206.out) | ((with_reducible refine g_c (f := 101) rfl ?_); refine gM (some 12) rfl rfl Tryz.func101 #[.string a0_1] rfl ?_; (with_reducible refine (cleatref11_Label.calls k a0_1 t207 t208 true _ A2.out).mono ?_); rintro e w' ⟨rfl, ⟨nd, rfl⟩⟩; refine ⟨_, rfl, ?_⟩) | ((with_reducible refine g_c (f := 102) rfl ?_); refine gM (some 19) rfl rfl Tryz.func102 #[.string a0_1] rfl ?_; (with_reducible refine (cleatref11_Reg.calls k a0_1 t210 t211 t212 _ A3.out).mono ?_); rintro e w' ⟨rfl, ⟨nd, rfl⟩⟩; refine ⟨_, rfl, ?_⟩))
   go_ret
   exact ⟨eqB, by repeat (first | (with_reducible first | exact HB.out | apply bAA | apply bNN | apply bDD | refine bSS ?_ GE206.out) | exact HB.out)⟩
  replace c5 := Bool.eq_false_iff.mpr c5
  subst c5
  rw [if_neg nFT] at H
  by_cases c8 : a0_0 = 1
  rotate_left
  ·rw [if_neg c8] at H
   obtain ⟨c8b0, c8b1⟩ := bn_ c8
   obtain rfl := sI H
   go_enter Tryz.func89, Tryz.ntmps89
   go_wp2_with (first | ((with_reducible refine gate_dst (N := 1) rfl ?_); refine bxE (N := 1) (by with_reducible repeat first | exact HB.out | apply bAA | apply bNN | apply bDD) (cs := #[.int .i64 a0_0, .string a0_1, .int .u64 a0_2]) (t := 142) ?_; intro gb206 w20 n0_ BK206 GE206; clear HB; have HB := n0_; have GW206 := GE206; clear n0_; obtain ⟨hcz21_0, hcz21_1, hcz21_2, hfz21_0, hfz21_1, hfz21_2⟩ := cel3 BK206.out) | ((with_reducible refine g_c (f := 101) rfl ?_); refine gM (some 12) rfl rfl Tryz.func101 #[.string a0_1] rfl ?_; (with_reducible refine (cleatref11_Label.calls k a0_1 t207 t208 false _ A2.out).mono ?_); rintro e w' ⟨rfl, ⟨nd, rfl⟩⟩; refine ⟨_, rfl, ?_⟩) | ((with_reducible refine g_c (f := 102) rfl ?_); refine gM (some 19) rfl rfl Tryz.func102 #[.string a0_1] rfl ?_; (with_reducible refine (cleatref11_Reg.calls k a0_1 t210 t211 t212 _ A3.out).mono ?_); rintro e w' ⟨rfl, ⟨nd, rfl⟩⟩; refine ⟨_, rfl, ?_⟩))
   go_ret
   exact ⟨eqB, by repeat (first | (with_reducible first | exact HB.out | apply bAA | apply bNN | apply bDD | refine bSS ?_ GE206.out) | exact HB.out)⟩
  rw [if_pos c8] at H
  obtain ⟨c8b0, c8b1⟩ := be_ c8
  clear c8
  obtain ⟨t213, A9, H⟩ := bnd H
  (try dsimp only at H)
  by_cases c10 : t213 = true
  ·subst c10
   rw [if_pos rfl] at H
   by_cases c11 : t212 = 0
   ·rw [if_pos c11] at H
    obtain ⟨c11b0, c11b1⟩ := be_ c11
    clear c11
    obtain rfl := sI H
    go_enter Tryz.func89, Tryz.ntmps89
    go_wp2_with (first | ((with_reducible refine gate_dst (N := 1) rfl ?_); refine bxE (N := 1) (by with_reducible repeat first | exact HB.out | apply bAA | apply bNN | apply bDD) (cs := #[.int .i64 a0_0, .string a0_1, .int .u64 a0_2]) (t := 142) ?_; intro gb206 w12 n0_ BK206 GE206; clear HB; have HB := n0_; have GW206 := GE206; clear n0_; obtain ⟨hcz13_0, hcz13_1, hcz13_2, hfz13_0, hfz13_1, hfz13_2⟩ := cel3 BK206.out) | ((with_reducible refine g_c (f := 101) rfl ?_); refine gM (some 12) rfl rfl Tryz.func101 #[.string a0_1] rfl ?_; (with_reducible refine (cleatref11_Label.calls k a0_1 t207 t208 false _ A2.out).mono ?_); rintro e w' ⟨rfl, ⟨nd, rfl⟩⟩; refine ⟨_, rfl, ?_⟩) | ((with_reducible refine g_c (f := 102) rfl ?_); refine gM (some 19) rfl rfl Tryz.func102 #[.string a0_1] rfl ?_; (with_reducible refine (cleatref11_Reg.calls k a0_1 t210 t211 t212 _ A3.out).mono ?_); rintro e w' ⟨rfl, ⟨nd, rfl⟩⟩; refine ⟨_, rfl, ?_⟩) | (go_at_call 103; (with_reducible refine (cleatref09_IsWord.calls k a0_1 true _ A9.out).mono ?_); rintro e w' ⟨rfl, ⟨nd, rfl⟩⟩))
    go_ret
    exact ⟨eqB, by repeat (first | (with_reducible first | exact HB.out | apply bAA | apply bNN | apply bDD | refine bSS ?_ GE206.out) | exact HB.out)⟩
   rw [if_neg c11] at H
   obtain ⟨c11b0, c11b1⟩ := bn_ c11
   obtain ⟨t214, A14, H⟩ := bnd H
   (try dsimp only at H)
   obtain rfl := sI H
   go_enter Tryz.func89, Tryz.ntmps89
   go_wp2_with (first | ((with_reducible refine gate_dst (N := 1) rfl ?_); refine bxE (N := 1) (by with_reducible repeat first | exact HB.out | apply bAA | apply bNN | apply bDD) (cs := #[.int .i64 a0_0, .string a0_1, .int .u64 a0_2]) (t := 142) ?_; intro gb206 w15 n0_ BK206 GE206; clear HB; have HB := n0_; have GW206 := GE206; clear n0_; obtain ⟨hcz16_0, hcz16_1, hcz16_2, hfz16_0, hfz16_1, hfz16_2⟩ := cel3 BK206.out) | ((with_reducible refine g_c (f := 101) rfl ?_); refine gM (some 12) rfl rfl Tryz.func101 #[.string a0_1] rfl ?_; (with_reducible refine (cleatref11_Label.calls k a0_1 t207 t208 false _ A2.out).mono ?_); rintro e w' ⟨rfl, ⟨nd, rfl⟩⟩; refine ⟨_, rfl, ?_⟩) | ((with_reducible refine g_c (f := 102) rfl ?_); refine gM (some 19) rfl rfl Tryz.func102 #[.string a0_1] rfl ?_; (with_reducible refine (cleatref11_Reg.calls k a0_1 t210 t211 t212 _ A3.out).mono ?_); rintro e w' ⟨rfl, ⟨nd, rfl⟩⟩; refine ⟨_, rfl, ?_⟩) | (go_at_call 103; (with_reducible refine (cleatref09_IsWord.calls k a0_1 true _ A9.out).mono ?_); rintro e w' ⟨rfl, ⟨nd, rfl⟩⟩) | (go_at_call 104; (with_reducible refine (cleatref11_shift.calls k a0_1 t214 _ A14.out).mono ?_); rintro e w17 ⟨rfl, hb⟩; have n0_ := Azz.mk (blk_b hb BK206.out); have n1_ := Azz.mk (bTT (by with_reducible repeat first | exact HB.out | apply bAA | apply bNN | apply bDD | refine bSS ?_ GE206.out) hb); clear BK206; clear HB; have BK206 := n0_; have HB := n1_; clear n0_ n1_; (try clear hb); (try clear hb2); (try clear hk); (try clear hi)))
   go_ret
   exact ⟨eqB, by repeat (first | (with_reducible first | exact HB.out | apply bAA | apply bNN | apply bDD | refine bSS ?_ GE206.out) | exact HB.out)⟩
  replace c10 := Bool.eq_false_iff.mpr c10
  subst c10
  rw [if_neg nFT] at H
  obtain rfl := sI H
  go_enter Tryz.func89, Tryz.ntmps89
  go_wp2_with (first | ((with_reducible refine gate_dst (N := 1) rfl ?_); refine bxE (N := 1) (by with_reducible repeat first | exact HB.out | apply bAA | apply bNN | apply bDD) (cs := #[.int .i64 a0_0, .string a0_1, .int .u64 a0_2]) (t := 142) ?_; intro gb206 w18 n0_ BK206 GE206; clear HB; have HB := n0_; have GW206 := GE206; clear n0_; obtain ⟨hcz19_0, hcz19_1, hcz19_2, hfz19_0, hfz19_1, hfz19_2⟩ := cel3 BK206.out) | ((with_reducible refine g_c (f := 101) rfl ?_); refine gM (some 12) rfl rfl Tryz.func101 #[.string a0_1] rfl ?_; (with_reducible refine (cleatref11_Label.calls k a0_1 t207 t208 false _ A2.out).mono ?_); rintro e w' ⟨rfl, ⟨nd, rfl⟩⟩; refine ⟨_, rfl, ?_⟩) | ((with_reducible refine g_c (f := 102) rfl ?_); refine gM (some 19) rfl rfl Tryz.func102 #[.string a0_1] rfl ?_; (with_reducible refine (cleatref11_Reg.calls k a0_1 t210 t211 t212 _ A3.out).mono ?_); rintro e w' ⟨rfl, ⟨nd, rfl⟩⟩; refine ⟨_, rfl, ?_⟩) | (go_at_call 103; (with_reducible refine (cleatref09_IsWord.calls k a0_1 false _ A9.out).mono ?_); rintro e w' ⟨rfl, ⟨nd, rfl⟩⟩))
  go_ret
  exact ⟨eqB, by repeat (first | (with_reducible first | exact HB.out | apply bAA | apply bNN | apply bDD | refine bSS ?_ GE206.out) | exact HB.out)⟩
 rw [if_neg c4] at H
 obtain ⟨c4b0, c4b1⟩ := bn_ c4
 by_cases c22 : a0_0 = 1
 rotate_left
 ·rw [if_neg c22] at H
  obtain ⟨c22b0, c22b1⟩ := bn_ c22
  obtain rfl := sI H
  go_enter Tryz.func89, Tryz.ntmps89
  go_wp2_with (first | ((with_reducible refine gate_dst (N := 1) rfl ?_); refine bxE (N := 1) (by with_reducible repeat first | exact HB.out | apply bAA | apply bNN | apply bDD) (cs := #[.int .i64 a0_0, .string a0_1, .int .u64 a0_2]) (t := 142) ?_; intro gb206 w34 n0_ BK206 GE206; clear HB; have HB := n0_; have GW206 := GE206; clear n0_; obtain ⟨hcz35_0, hcz35_1, hcz35_2, hfz35_0, hfz35_1, hfz35_2⟩ := cel3 BK206.out) | ((with_reducible refine g_c (f := 101) rfl ?_); refine gM (some 12) rfl rfl Tryz.func101 #[.string a0_1] rfl ?_; (with_reducible refine (cleatref11_Label.calls k a0_1 t207 t208 t209 _ A2.out).mono ?_); rintro e w' ⟨rfl, ⟨nd, rfl⟩⟩; refine ⟨_, rfl, ?_⟩) | ((with_reducible refine g_c (f := 102) rfl ?_); refine gM (some 19) rfl rfl Tryz.func102 #[.string a0_1] rfl ?_; (with_reducible refine (cleatref11_Reg.calls k a0_1 t210 t211 t212 _ A3.out).mono ?_); rintro e w' ⟨rfl, ⟨nd, rfl⟩⟩; refine ⟨_, rfl, ?_⟩))
  go_ret
  exact ⟨eqB, by repeat (first | (with_reducible first | exact HB.out | apply bAA | apply bNN | apply bDD | refine bSS ?_ GE206.out) | exact HB.out)⟩
 rw [if_pos c22] at H
 obtain ⟨c22b0, c22b1⟩ := be_ c22
 clear c22
 obtain ⟨t215, A23, H⟩ := bnd H
 (try dsimp only at H)
 by_cases c24 : t215 = true
 ·subst c24
  rw [if_pos rfl] at H
  by_cases c25 : t212 = 0
  ·rw [if_pos c25] at H
   obtain ⟨c25b0, c25b1⟩ := be_ c25
   clear c25
   obtain rfl := sI H
   go_enter Tryz.func89, Tryz.ntmps89
   go_wp2_with (first | ((with_reducible refine gate_dst (N := 1) rfl ?_); refine bxE (N := 1) (by with_reducible repeat first | exact HB.out | apply bAA | apply bNN | apply bDD) (cs := #[.int .i64 a0_0, .string a0_1, .int .u64 a0_2]) (t := 142) ?_; intro gb206 w26 n0_ BK206 GE206; clear HB; have HB := n0_; have GW206 := GE206; clear n0_; obtain ⟨hcz27_0, hcz27_1, hcz27_2, hfz27_0, hfz27_1, hfz27_2⟩ := cel3 BK206.out) | ((with_reducible refine g_c (f := 101) rfl ?_); refine gM (some 12) rfl rfl Tryz.func101 #[.string a0_1] rfl ?_; (with_reducible refine (cleatref11_Label.calls k a0_1 t207 t208 t209 _ A2.out).mono ?_); rintro e w' ⟨rfl, ⟨nd, rfl⟩⟩; refine ⟨_, rfl, ?_⟩) | ((with_reducible refine g_c (f := 102) rfl ?_); refine gM (some 19) rfl rfl Tryz.func102 #[.string a0_1] rfl ?_; (with_reducible refine (cleatref11_Reg.calls k a0_1 t210 t211 t212 _ A3.out).mono ?_); rintro e w' ⟨rfl, ⟨nd, rfl⟩⟩; refine ⟨_, rfl, ?_⟩) | (go_at_call 103; (with_reducible refine (cleatref09_IsWord.calls k a0_1 true _ A23.out).mono ?_); rintro e w' ⟨rfl, ⟨nd, rfl⟩⟩))
   go_ret
   exact ⟨eqB, by repeat (first | (with_reducible first | exact HB.out | apply bAA | apply bNN | apply bDD | refine bSS ?_ GE206.out) | exact HB.out)⟩
  rw [if_neg c25] at H
  obtain ⟨c25b0, c25b1⟩ := bn_ c25
  obtain ⟨t216, A28, H⟩ := bnd H
  (try dsimp only at H)
  obtain rfl := sI H
  go_enter Tryz.func89, Tryz.ntmps89
  go_wp2_with (first | ((with_reducible refine gate_dst (N := 1) rfl ?_); refine bxE (N := 1) (by with_reducible repeat first | exact HB.out | apply bAA | apply bNN | apply bDD) (cs := #[.int .i64 a0_0, .string a0_1, .int .u64 a0_2]) (t := 142) ?_; intro gb206 w29 n0_ BK206 GE206; clear HB; have HB := n0_; have GW206 := GE206; clear n0_; obtain ⟨hcz30_0, hcz30_1, hcz30_2, hfz30_0, hfz30_1, hfz30_2⟩ := cel3 BK206.out) | ((with_reducible refine g_c (f := 101) rfl ?_); refine gM (some 12) rfl rfl Tryz.func101 #[.string a0_1] rfl ?_; (with_reducible refine (cleatref11_Label.calls k a0_1 t207 t208 t209 _ A2.out).mono ?_); rintro e w' ⟨rfl, ⟨nd, rfl⟩⟩; refine ⟨_, rfl, ?_⟩) | ((with_reducible refine g_c (f := 102) rfl ?_); refine gM (some 19) rfl rfl Tryz.func102 #[.string a0_1] rfl ?_; (with_reducible refine (cleatref11_Reg.calls k a0_1 t210 t211 t212 _ A3.out).mono ?_); rintro e w' ⟨rfl, ⟨nd, rfl⟩⟩; refine ⟨_, rfl, ?_⟩) | (go_at_call 103; (with_reducible refine (cleatref09_IsWord.calls k a0_1 true _ A23.out).mono ?_); rintro e w' ⟨rfl, ⟨nd, rfl⟩⟩) | (go_at_call 104; (with_reducible refine (cleatref11_shift.calls k a0_1 t216 _ A28.out).mono ?_); rintro e w31 ⟨rfl, hb⟩; have n0_ := Azz.mk (blk_b hb BK206.out); have n1_ := Azz.mk (bTT (by with_reducible repeat first | exact HB.out | apply bAA | apply bNN | apply bDD | refine bSS ?_ GE206.out) hb); clear BK206; clear HB; have BK206 := n0_; have HB := n1_; clear n0_ n1_; (try clear hb); (try clear hb2); (try clear hk); (try clear hi)))
  go_ret
  exact ⟨eqB, by repeat (first | (with_reducible first | exact HB.out | apply bAA | apply bNN | apply bDD | refine bSS ?_ GE206.out) | exact HB.out)⟩
 replace c24 := Bool.eq_false_iff.mpr c24
 subst c24
 rw [if_neg nFT] at H
 obtain rfl := sI H
 go_enter Tryz.func89, Tryz.ntmps89
 go_wp2_with (first | ((with_reducible refine gate_dst (N := 1) rfl ?_); refine bxE (N := 1) (by with_reducible repeat first | exact HB.out | apply bAA | apply bNN | apply bDD) (cs := #[.int .i64 a0_0, .string a0_1, .int .u64 a0_2]) (t := 142) ?_; intro gb206 w32 n0_ BK206 GE206; clear HB; have HB := n0_; have GW206 := GE206; clear n0_; obtain ⟨hcz33_0, hcz33_1, hcz33_2, hfz33_0, hfz33_1, hfz33_2⟩ := cel3 BK206.out) | ((with_reducible refine g_c (f := 101) rfl ?_); refine gM (some 12) rfl rfl Tryz.func101 #[.string a0_1] rfl ?_; (with_reducible refine (cleatref11_Label.calls k a0_1 t207 t208 t209 _ A2.out).mono ?_); rintro e w' ⟨rfl, ⟨nd, rfl⟩⟩; refine ⟨_, rfl, ?_⟩) | ((with_reducible refine g_c (f := 102) rfl ?_); refine gM (some 19) rfl rfl Tryz.func102 #[.string a0_1] rfl ?_; (with_reducible refine (cleatref11_Reg.calls k a0_1 t210 t211 t212 _ A3.out).mono ?_); rintro e w' ⟨rfl, ⟨nd, rfl⟩⟩; refine ⟨_, rfl, ?_⟩) | (go_at_call 103; (with_reducible refine (cleatref09_IsWord.calls k a0_1 false _ A23.out).mono ?_); rintro e w' ⟨rfl, ⟨nd, rfl⟩⟩))
 go_ret
 exact ⟨eqB, by repeat (first | (with_reducible first | exact HB.out | apply bAA | apply bNN | apply bDD | refine bSS ?_ GE206.out) | exact HB.out)⟩
def cleatref11_Name.f (k : Nat) (a0 : ByteArray) : Option (Bool) := (cleatref11_named.f k 1 a0 0).bind fun t217 => (some t217)
theorem cleatref11_Name.calls (k : Nat) (a0 : ByteArray) (r : Bool) (w : World) (h : cleatref11_Name.f k a0 = some r) :
 Calls Tryz.prog 78 #[.string a0] w fun e w' => e = .returned (.bool r) ∧ Below w.heap.size w w' := by
 have hu142 := Tryz.underlying142
 have HB := Azz.mk (Below.refl w.heap.size w)
 have H : ((cleatref11_named.f k 1 a0 0).bind fun t217 => (some t217)) = some r := h
 clear h
 obtain ⟨t217, A2, H⟩ := bnd H
 (try dsimp only at H)
 obtain rfl := sI H
 go_enter Tryz.func78, Tryz.ntmps78
 go_wp2_with (first | ((with_reducible refine g_c (f := 89) rfl ?_); refine gM (some 5) rfl rfl Tryz.func89 #[.agg #[.int .i64 1, .string a0, .int .u64 0]] rfl ?_; (with_reducible refine (cleatref11_named.calls k 1 a0 0 t217 _ A2.out).mono ?_); rintro e w3 ⟨rfl, hb⟩; refine ⟨_, rfl, ?_⟩; have n0_ := Azz.mk (bTT (by with_reducible repeat first | exact HB.out | apply bAA | apply bNN | apply bDD) hb); clear HB; have HB := n0_; clear n0_; (try clear hb); (try clear hb2); (try clear hk); (try clear hi)))
 go_ret
 exact ⟨eqB, by repeat (first | (with_reducible first | exact HB.out | apply bAA | apply bNN | apply bDD) | exact HB.out)⟩
def cleatref14_IsName.f (k : Nat) (a0 : ByteArray) : Option (Bool) := (cleatref11_Name.f k a0).bind fun t218 => (some t218)
theorem cleatref14_IsName.calls (k : Nat) (a0 : ByteArray) (r : Bool) (w : World) (h : cleatref14_IsName.f k a0 = some r) :
 Calls Tryz.prog 71 #[.string a0] w fun e w' => e = .returned (.bool r) ∧ Below w.heap.size w w' := by
 have HB := Azz.mk (Below.refl w.heap.size w)
 have H : ((cleatref11_Name.f k a0).bind fun t218 => (some t218)) = some r := h
 clear h
 obtain ⟨t218, A2, H⟩ := bnd H
 (try dsimp only at H)
 obtain rfl := sI H
 go_enter Tryz.func71, Tryz.ntmps71
 go_wp2_with (first | ((with_reducible refine g_c (f := 78) rfl ?_); refine gM (some 4) rfl rfl Tryz.func78 #[.string a0] rfl ?_; (with_reducible refine (cleatref11_Name.calls k a0 t218 _ A2.out).mono ?_); rintro e w3 ⟨rfl, hb⟩; refine ⟨_, rfl, ?_⟩; have n0_ := Azz.mk (bTT (by with_reducible repeat first | exact HB.out | apply bAA | apply bNN | apply bDD) hb); clear HB; have HB := n0_; clear n0_; (try clear hb); (try clear hb2); (try clear hk); (try clear hi)))
 go_ret
 exact ⟨eqB, by repeat (first | (with_reducible first | exact HB.out | apply bAA | apply bNN | apply bDD) | exact HB.out)⟩
def cleatref16_size.f (a0 : Int) : Option (Int) := if a0 = 1 then (some 8) else (some 4)
theorem cleatref16_size.calls (a0 : Int) (r : Int) (w : World) (h : cleatref16_size.f a0 = some r) :
 Calls Tryz.prog 73 #[.int .i64 a0] w fun e w' => e = .returned (.int .i64 r) ∧ Drawn0 w w' := by
 have H : (if a0 = 1 then (some 8) else (some 4)) = some r := h
 clear h
 by_cases c2 : a0 = 1
 ·rw [if_pos c2] at H
  obtain ⟨c2b0, c2b1⟩ := be_ c2
  clear c2
  obtain rfl := sI H
  go_enter Tryz.func73, Tryz.ntmps73
  go_wp2
  go_ret
  exact ⟨by first | rfl | (simp; done) | (simp [*]; done), d0S⟩
 rw [if_neg c2] at H
 obtain ⟨c2b0, c2b1⟩ := bn_ c2
 obtain rfl := sI H
 go_enter Tryz.func73, Tryz.ntmps73
 go_wp2
 go_ret
 exact ⟨by first | rfl | (simp; done) | (simp [*]; done), d0S⟩
def cleatref01_Power.l0 : Nat → Int → Int → Int → Option (Int)
 | 0, _, _, _ => none
 | k + 1, x0, x3, x4 => if x4 < x0 then (cleatref01_Power.l0 k x0 (IntKind.u64.wrap (2 * x3)) (wrap64 (x4 + 1))) else (some x3)
def cleatref01_Power.f (k : Nat) (a0 : Int) : Option (Int) := cleatref01_Power.l0 k a0 1 0
theorem cleatref01_Power.calls (k : Nat) (a0 : Int) (r : Int) (w : World) (h : cleatref01_Power.f k a0 = some r) :
 Calls Tryz.prog 90 #[.int .i64 a0] w fun e w' => e = .returned (.int .u64 r) ∧ Drawn0 w w' := by
 have H : (cleatref01_Power.l0 k a0 1 0) = some r := h
 clear h
 have H' := Azz.mk H
 clear H
 go_enter Tryz.func90, Tryz.ntmps90
 go_wp2
 go_loopg [3, 4] k (fun kq v3 v4 w' => ∃ (x3_1 : Int) (x4_1 : Int), v3 = .int .u64 x3_1 ∧ v4 = .int .i64 x4_1 ∧ Azz (cleatref01_Power.l0 kq a0 x3_1 x4_1 = some r) ∧ Azz (kq ≤ k) ∧ Drawn0 w w')
 case atStart => exact ⟨(1), (0), eqS, eqS, H', ⟨Nat.le_refl _⟩, d0S⟩
 case round =>
  clear H'
  obtain ⟨x3_1, x4_1, rfl, rfl, HA, HK1, ⟨m1, rfl⟩⟩ := hrel
  cases gk with
  | zero => exact absurd HA.out (by simp [cleatref01_Power.l0])
  | succ k1 =>
   have H := HA.out
   clear HA
   simp only [cleatref01_Power.l0] at H
   by_cases c2 : x4_1 < a0
   ·rw [if_pos c2] at H
    have c2b0 := dT_ c2
    clear c2
    have H' := Azz.mk H
    clear H
    go_wp2
    go_roundg k1
    case measure => have := HK1.out; omega
    case rel => exact ⟨(IntKind.u64.wrap (2 * x3_1)), (wrap64 (x4_1 + 1)), eqS, eqS, H', ⟨by have := HK1.out; omega⟩, d0S⟩
   rw [if_neg c2] at H
   have c2b0 := dF_ c2
   clear c2
   obtain rfl := sI H
   go_wp2
   go_ret
   exact ⟨by first | rfl | (simp; done) | (simp [*]; done), d0S⟩
def cleatref07_Number.l0 : Nat → ByteArray → Int → Int → Option (Int)
 | 0, _, _, _ => none
 | k + 1, x0, x3, x4 => if x4 < (x0.size : Int) then (if x4 < 8 then (if 0 ≤ x4 then ((cleatref01_Power.f k (wrap64 (8 * x4))).bind fun t219 => (cleatref07_Number.l0 k x0 (IntKind.u64.wrap (x3 + (IntKind.u64.wrap ((IntKind.u64.wrap (bt x0 x4)) * t219)))) (wrap64 (x4 + 1)))) else (none)) else (some x3)) else (some x3)
def cleatref07_Number.f (k : Nat) (a0 : ByteArray) : Option (Int) := cleatref07_Number.l0 k a0 0 0
theorem cleatref07_Number.calls (k : Nat) (a0 : ByteArray) (r : Int) (w : World) (h : cleatref07_Number.f k a0 = some r) :
 Calls Tryz.prog 79 #[.string a0] w fun e w' => e = .returned (.int .u64 r) ∧ Drawn0 w w' := by
 have H : (cleatref07_Number.l0 k a0 0 0) = some r := h
 clear h
 have H' := Azz.mk H
 clear H
 go_enter Tryz.func79, Tryz.ntmps79
 go_wp2
 repeat (go_quiet (fail); try go_wp2)
 go_loopg [3, 4] k (fun kq v3 v4 w' => ∃ (x3_1 : Int) (x4_1 : Int), v3 = .int .u64 x3_1 ∧ v4 = .int .i64 x4_1 ∧ Azz (cleatref07_Number.l0 kq a0 x3_1 x4_1 = some r) ∧ Azz (kq ≤ k) ∧ Drawn0 w w')
 case atStart => exact ⟨(0), (0), eqS, eqS, H', ⟨Nat.le_refl _⟩, d0S⟩
 case round =>
  clear H'
  obtain ⟨x3_1, x4_1, rfl, rfl, HA, HK1, ⟨m1, rfl⟩⟩ := hrel
  cases gk with
  | zero => exact absurd HA.out (by simp [cleatref07_Number.l0])
  | succ k1 =>
   have H := HA.out
   clear HA
   simp only [cleatref07_Number.l0] at H
   by_cases c2 : x4_1 < (a0.size : Int)
   rotate_left
   ·rw [if_neg c2] at H
    have c2b0 := dF_ c2
    clear c2
    obtain rfl := sI H
    go_wp2
    repeat (go_quiet (fail); try go_wp2)
    go_ret
    exact ⟨by first | rfl | (simp; done) | (simp [*]; done), d0S⟩
   rw [if_pos c2] at H
   have c2b0 := dT_ c2
   clear c2
   by_cases c3 : x4_1 < 8
   ·rw [if_pos c3] at H
    have c3b0 := dT_ c3
    clear c3
    by_cases c4 : 0 ≤ x4_1
    ·rw [if_pos c4] at H
     have c4b0 := dT_ c4
     clear c4
     obtain ⟨t219, A6, H⟩ := bnd H
     (try dsimp only at H)
     have H' := Azz.mk H
     clear H
     have p5 : 0 ≤ (x4_1 : Int) := of_decide_eq_true (by first | (with_reducible assumption) | assumption)
     have q5 : x4_1 < (a0.size : Int) := of_decide_eq_true (by first | (with_reducible assumption) | assumption)
     have hx5 := bt_at a0 x4_1
     replace p5 := eq_true p5
     replace q5 := eq_true q5
     go_wp2_with (first | (go_at_call 90; (with_reducible refine (cleatref01_Power.calls k1 (wrap64 (8 * x4_1)) t219 _ A6.out).mono ?_); rintro e w' ⟨rfl, ⟨nd, rfl⟩⟩; (try first | exact ⟨rfl, _, dd2⟩ | exact ⟨rfl, _, dd3⟩)))
     repeat (go_quiet (first | (go_at_call 90; (with_reducible refine (cleatref01_Power.calls k1 (wrap64 (8 * x4_1)) t219 _ A6.out).mono ?_); rintro e w' ⟨rfl, ⟨nd, rfl⟩⟩; (try first | exact ⟨rfl, _, dd2⟩ | exact ⟨rfl, _, dd3⟩))); try go_wp2_with (first | (go_at_call 90; (with_reducible refine (cleatref01_Power.calls k1 (wrap64 (8 * x4_1)) t219 _ A6.out).mono ?_); rintro e w' ⟨rfl, ⟨nd, rfl⟩⟩; (try first | exact ⟨rfl, _, dd2⟩ | exact ⟨rfl, _, dd3⟩))))
     go_roundg k1
     case measure => have := HK1.out; omega
     case rel => exact ⟨(IntKind.u64.wrap (x3_1 + (IntKind.u64.wrap ((IntKind.u64.wrap (bt a0 x4_1)) * t219)))), (wrap64 (x4_1 + 1)), eqS, eqS, H', ⟨by have := HK1.out; omega⟩, d0S⟩
    rw [if_neg c4] at H
    exact absurd H (by simp)
   rw [if_neg c3] at H
   have c3b0 := dF_ c3
   clear c3
   obtain rfl := sI H
   go_wp2
   repeat (go_quiet (fail); try go_wp2)
   go_ret
   exact ⟨by first | rfl | (simp; done) | (simp [*]; done), d0S⟩
end Go.Proofs.YtngmipfodjgmmaaGreatDoor.P
