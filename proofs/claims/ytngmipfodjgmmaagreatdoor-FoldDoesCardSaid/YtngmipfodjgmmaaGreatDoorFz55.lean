/- Is an instruction that is read right, by the document? By shape. -/
import Derived.Test.YtngmipfodjgmmaaGreatDoorFz53
import Derived.Test.YtngmipfodjgmmaaGreatDoorFz54
set_option maxRecDepth 100000
set_option maxHeartbeats 4000000
set_option linter.unusedVariables false
set_option linter.unusedSimpArgs false
namespace Go.Proofs.YtngmipfodjgmmaaGreatDoor.Pure
open Go Go.RowKit Go.Lib Go.Shelf Wa Wb Wc
def IsiPost (b : Bool) (w : World) (e : Ending) (w' : World) : Prop := e = .returned (.bool b) ∧ Below w.heap.size w w'
theorem is_s1 {w w2 : World} {v0 v1 v2 v3 v4 v5 v6 v7 v8 v9 : Value} (hb : Below (w.alloc (.cells #[v0, v1, v2, v3, v4, v5, v6, v7, v8, v9] 135)).heap.size (w.alloc (.cells #[v0, v1, v2, v3, v4, v5, v6, v7, v8, v9] 135)) w2) : Azz (At w2 w.heap.size #[v0, v1, v2, v3, v4, v5, v6, v7, v8, v9]) ∧ Azz (Below w.heap.size w w2) ∧ w2.cell? ⟨w.heap.size, 0, none⟩ = some v0 ∧ w2.cell? ⟨w.heap.size, 1, none⟩ = some v1 ∧ w2.cell? ⟨w.heap.size, 2, none⟩ = some v2 ∧ w2.cell? ⟨w.heap.size, 3, none⟩ = some v3 ∧ w2.cell? ⟨w.heap.size, 4, none⟩ = some v4 ∧ w2.cell? ⟨w.heap.size, 5, none⟩ = some v5 ∧ w2.cell? ⟨w.heap.size, 6, none⟩ = some v6 ∧ w2.cell? ⟨w.heap.size, 7, none⟩ = some v7 ∧ w2.cell? ⟨w.heap.size, 8, none⟩ = some v8 ∧ w2.cell? ⟨w.heap.size, 9, none⟩ = some v9 :=
 have h := kBB (blk_new w (.cells #[v0, v1, v2, v3, v4, v5, v6, v7, v8, v9] 135)) hb
 ⟨⟨h⟩, ⟨bTT ((Below.refl _ w).alloc (Nat.le_refl _) _) hb⟩, cel10 h⟩
theorem is_s2 {w w1 w2 : World} {v0 v1 v2 v3 v4 v5 v6 v7 v8 v9 : Value} (HE : Azz (At w1 w.heap.size #[v0, v1, v2, v3, v4, v5, v6, v7, v8, v9])) (HB : Azz (Below w.heap.size w w1)) (hb : Below w1.heap.size w1 w2) : Azz (At w2 w.heap.size #[v0, v1, v2, v3, v4, v5, v6, v7, v8, v9]) ∧ Azz (Below w.heap.size w w2) ∧ w2.cell? ⟨w.heap.size, 0, none⟩ = some v0 ∧ w2.cell? ⟨w.heap.size, 1, none⟩ = some v1 ∧ w2.cell? ⟨w.heap.size, 2, none⟩ = some v2 ∧ w2.cell? ⟨w.heap.size, 3, none⟩ = some v3 ∧ w2.cell? ⟨w.heap.size, 4, none⟩ = some v4 ∧ w2.cell? ⟨w.heap.size, 5, none⟩ = some v5 ∧ w2.cell? ⟨w.heap.size, 6, none⟩ = some v6 ∧ w2.cell? ⟨w.heap.size, 7, none⟩ = some v7 ∧ w2.cell? ⟨w.heap.size, 8, none⟩ = some v8 ∧ w2.cell? ⟨w.heap.size, 9, none⟩ = some v9 :=
 have h := kBB HE.out hb
 ⟨⟨h⟩, ⟨bTT HB.out hb⟩, cel10 h⟩
theorem between_ok (v lo hi by_ q : Int) (hb : by_ ≠ 0) (h1 : lo ≤ v) (h2 : v ≤ hi) (hq : v = by_ * q) : P.cleatref04_between.f v lo hi by_ = some true := by
 have e : Int.tmod v by_ = 0 := by rw [hq]; exact Int.mul_tmod_right _ _
 unfold P.cleatref04_between.f
 rw [if_pos h1, if_pos h2, if_neg hb, e]
 rfl
theorem sgn19 (v : Nat) (h : v < 524288) : -262144 ≤ sgn 19 v ∧ sgn 19 v ≤ 262143 := by
 unfold sgn
 split <;> omega
theorem sgn21 (v : Nat) (h : v < 2097152) : -1048576 ≤ sgn 21 v ∧ sgn 21 v ≤ 1048575 := by
 unfold sgn
 split <;> omega
theorem sgn26 (v : Nat) (h : v < 67108864) : -33554432 ≤ sgn 26 v ∧ sgn 26 v ≤ 33554431 := by
 unfold sgn
 split <;> omega
theorem reg_has (s : Int) (c : ByteArray) (v : Nat) (hv : v < 32) (h : P.cleatref04_Has.f 20 s c = some true) : P.cleatref04_reg.f 20 s c (v : Int) = some true := by
 unfold P.cleatref04_reg.f
 rw [h, Option.bind_some, if_pos rfl, if_pos (by omega), dT_ (by omega)]
theorem imm_1 (v : Int) : P.cleatref04_imm.f 9 1 v = (P.cleatref04_between.f v (0) 65535 1).bind fun t => some t := rfl
theorem imm_2 (v : Int) : P.cleatref04_imm.f 9 2 v = (P.cleatref04_between.f v (0) 4095 1).bind fun t => some t := rfl
theorem imm_7 (v : Int) : P.cleatref04_imm.f 9 7 v = (P.cleatref04_between.f v (0) 32760 8).bind fun t => some t := rfl
theorem imm_8 (v : Int) : P.cleatref04_imm.f 9 8 v = (P.cleatref04_between.f v (0) 4095 1).bind fun t => some t := rfl
theorem imm_9 (v : Int) : P.cleatref04_imm.f 9 9 v = (P.cleatref04_between.f v (-1048576) 1048572 4).bind fun t => some t := rfl
theorem imm_10 (v : Int) : P.cleatref04_imm.f 9 10 v = (P.cleatref04_between.f v (-1048576) 1048575 1).bind fun t => some t := rfl
theorem imm_11 (v : Int) : P.cleatref04_imm.f 9 11 v = (P.cleatref04_between.f v (-134217728) 134217724 4).bind fun t => some t := rfl
theorem imm_12 (v : Int) : P.cleatref04_imm.f 9 12 v = (P.cleatref04_between.f v (-1048576) 1048572 4).bind fun t => some t := rfl
theorem imm_14 (v : Int) : P.cleatref04_imm.f 9 14 v = (P.cleatref04_between.f v (0) 65535 1).bind fun t => some t := rfl
theorem amt_1 (v : Int) : P.cleatref04_amount.f 1 v = (P.cleatref04_between.f v 0 48 16).bind fun t => some t := rfl
theorem amt_2 (v : Int) : P.cleatref04_amount.f 2 v = (P.cleatref04_between.f v 0 12 12).bind fun t => some t := rfl
theorem amt_4 (v : Int) : P.cleatref04_amount.f 4 v = (P.cleatref04_between.f v 0 63 1).bind fun t => some t := rfl
theorem amt_5 (v : Int) : P.cleatref04_amount.f 5 v = (P.cleatref04_between.f v 0 63 1).bind fun t => some t := rfl
theorem ris_core (s op d n m a im am : Int) (q0 : (s == 0) = false) (q3 : (s == 3) = false) (hs : P.cleatref04_Shape.f op = some s) (hd : P.cleatref04_reg.f 20 s ⟨#[100]⟩ d = some true) (hn : P.cleatref04_reg.f 20 s ⟨#[110]⟩ n = some true) (hm : P.cleatref04_reg.f 20 s ⟨#[109]⟩ m = some true) (ha : P.cleatref04_reg.f 20 s ⟨#[97]⟩ a = some true) (hi : P.cleatref04_imm.f 9 s im = some true) (hz : P.cleatref04_amount.f s am = some true) (w : World) :
 Calls Tryz.prog 110 #[.agg #[.int .i64 op, .int .i64 d, .int .i64 n, .int .i64 m, .int .i64 a, .int .i64 im, .int .u64 0, .int .i64 0, .int .i64 am, .int .i64 0]] w (IsiPost true w) := by
 have n3 : ¬ s = 3 := by simpa using q3
 have m3 : (s != 3) = true := by simpa using n3
 have HSh := Azz.mk (fun W => P.cleatref04_Shape.calls op _ W hs)
 have Hd := Azz.mk (fun W => P.cleatref04_reg.calls 20 s ⟨#[100]⟩ d true W hd)
 have Hn := Azz.mk (fun W => P.cleatref04_reg.calls 20 s ⟨#[110]⟩ n true W hn)
 have Hm := Azz.mk (fun W => P.cleatref04_reg.calls 20 s ⟨#[109]⟩ m true W hm)
 have Ha := Azz.mk (fun W => P.cleatref04_reg.calls 20 s ⟨#[97]⟩ a true W ha)
 have Hi := Azz.mk (fun W => P.cleatref04_imm.calls 9 s im true W hi)
 have Hz := Azz.mk (fun W => P.cleatref04_amount.calls s am true W hz)
 clear hs hd hn hm ha hi hz
 go_enter Tryz.func110, Tryz.ntmps110
 go_wp2_with fail
 (with_reducible refine (HSh.out _).mono ?_)
 rintro e w1 ⟨rfl, hb⟩
 obtain ⟨HE, HB, e0, e1, e2, e3, e4, e5, e6, e7, e8, e9⟩ := is_s1 hb
 clear hb HSh
 go_wp2_with fail
 (with_reducible refine (Hd.out _).mono ?_)
 rintro e w2 ⟨rfl, hb⟩
 clear Hd e0 e1 e2 e3 e4 e5 e6 e7 e8 e9
 obtain ⟨HE, HB, e0, e1, e2, e3, e4, e5, e6, e7, e8, e9⟩ := is_s2 HE HB hb
 clear hb
 go_wp2_with fail
 (with_reducible refine (Hn.out _).mono ?_)
 rintro e w3 ⟨rfl, hb⟩
 clear Hn e0 e1 e2 e3 e4 e5 e6 e7 e8 e9
 obtain ⟨HE, HB, e0, e1, e2, e3, e4, e5, e6, e7, e8, e9⟩ := is_s2 HE HB hb
 clear hb
 go_wp2_with fail
 (with_reducible refine (Hm.out _).mono ?_)
 rintro e w4 ⟨rfl, hb⟩
 clear Hm e0 e1 e2 e3 e4 e5 e6 e7 e8 e9
 obtain ⟨HE, HB, e0, e1, e2, e3, e4, e5, e6, e7, e8, e9⟩ := is_s2 HE HB hb
 clear hb
 go_wp2_with fail
 (with_reducible refine (Ha.out _).mono ?_)
 rintro e w5 ⟨rfl, hb⟩
 clear Ha e0 e1 e2 e3 e4 e5 e6 e7 e8 e9
 obtain ⟨HE, HB, e0, e1, e2, e3, e4, e5, e6, e7, e8, e9⟩ := is_s2 HE HB hb
 clear hb
 go_wp2_with (first | (go_at_call 138; (with_reducible refine (Hi.out _).mono ?_); rintro e w' ⟨rfl, ⟨nd, rfl⟩⟩) | (go_at_call 139; (with_reducible refine (Hz.out _).mono ?_); rintro e w' ⟨rfl, ⟨nd, rfl⟩⟩))
 go_ret
 exact ⟨rfl, by repeat (first | (with_reducible exact HB.out) | (with_reducible apply bNN))⟩
theorem ris_1 (w : World) (op : Int) (f0 f1 f2 : Nat) (hs : P.cleatref04_Shape.f op = some 1) (hf0 : f0 < 32) (hf1 : f1 < 65536) (hf2 : f2 < 4) :
 Calls Tryz.prog 110 #[.agg #[.int .i64 op, .int .i64 (f0 : Int), .int .i64 0, .int .i64 0, .int .i64 0, .int .i64 (f1 : Int), .int .u64 0, .int .i64 0, .int .i64 (16 * (f2 : Int)), .int .i64 0]] w (IsiPost (true) w) := by
 exact ris_core 1 op _ _ _ _ _ _ rfl rfl hs (reg_has 1 ⟨#[100]⟩ f0 (by omega) (by kernel_rfl)) (by kernel_rfl) (by kernel_rfl) (by kernel_rfl) (by rw [imm_1, between_ok (f1 : Int) _ _ 1 (f1 : Int) (by decide) (by omega) (by omega) (by omega)]; rfl) (by rw [amt_1, between_ok (16 * (f2 : Int)) _ _ 16 (f2 : Int) (by decide) (by omega) (by omega) (by omega)]; rfl) w
theorem ris_2 (w : World) (op : Int) (f0 f1 f2 f3 : Nat) (hs : P.cleatref04_Shape.f op = some 2) (hf0 : f0 < 32) (hf1 : f1 < 32) (hf2 : f2 < 4096) (hf3 : f3 < 2) :
 Calls Tryz.prog 110 #[.agg #[.int .i64 op, .int .i64 (f0 : Int), .int .i64 (f1 : Int), .int .i64 0, .int .i64 0, .int .i64 (f2 : Int), .int .u64 0, .int .i64 0, .int .i64 (12 * (f3 : Int)), .int .i64 0]] w (IsiPost (true) w) := by
 exact ris_core 2 op _ _ _ _ _ _ rfl rfl hs (reg_has 2 ⟨#[100]⟩ f0 (by omega) (by kernel_rfl)) (reg_has 2 ⟨#[110]⟩ f1 (by omega) (by kernel_rfl)) (by kernel_rfl) (by kernel_rfl) (by rw [imm_2, between_ok (f2 : Int) _ _ 1 (f2 : Int) (by decide) (by omega) (by omega) (by omega)]; rfl) (by rw [amt_2, between_ok (12 * (f3 : Int)) _ _ 12 (f3 : Int) (by decide) (by omega) (by omega) (by omega)]; rfl) w
theorem ris_3 (op : Int) (f0 f1 f2 f3 f4 : Nat) (hs : P.cleatref04_Shape.f op = some 3) (hf0 : f0 < 32) (hf1 : f1 < 32) (hf2 : f2 < 64) (hf3 : f3 < 64) (hf4 : f4 < 2) (mk : Int) (hU : U64 mk) :
 ∃ b, ∀ w, Calls Tryz.prog 110 #[.agg #[.int .i64 op, .int .i64 (f0 : Int), .int .i64 (f1 : Int), .int .i64 0, .int .i64 0, .int .i64 0, .int .u64 mk, .int .i64 0, .int .i64 0, .int .i64 0]] w (IsiPost (b) w) := by
 obtain ⟨b, K, hK⟩ := rmask_ends mk hU
 have HMk := Azz.mk (fun W => P.cleatref02_Is.calls K _ b W (hK K (Nat.le_refl _)))
 refine ⟨b, fun w => ?_⟩
 clear hK hU
 have HSh := Azz.mk (fun W => P.cleatref04_Shape.calls op _ W hs)
 clear hs
 have Hd := Azz.mk (fun W => P.cleatref04_reg.calls 20 3 ⟨#[100]⟩ (f0 : Int) true W (reg_has 3 ⟨#[100]⟩ f0 (by omega) (by kernel_rfl)))
 have Hn := Azz.mk (fun W => P.cleatref04_reg.calls 20 3 ⟨#[110]⟩ (f1 : Int) true W (reg_has 3 ⟨#[110]⟩ f1 (by omega) (by kernel_rfl)))
 have Hm := Azz.mk (fun W => P.cleatref04_reg.calls 20 3 ⟨#[109]⟩ 0 true W (by kernel_rfl))
 have Ha := Azz.mk (fun W => P.cleatref04_reg.calls 20 3 ⟨#[97]⟩ 0 true W (by kernel_rfl))
 have Hi := Azz.mk (fun W => P.cleatref04_imm.calls 9 3 0 true W rfl)
 have Hz := Azz.mk (fun W => P.cleatref04_amount.calls 3 0 true W rfl)
 have Hc := Azz.mk (fun W => P.cleatref04_Has.calls 20 3 ⟨#[99]⟩ false W (by kernel_rfl))
 go_enter Tryz.func110, Tryz.ntmps110
 go_wp2_with fail
 (with_reducible refine (HSh.out _).mono ?_)
 rintro e w1 ⟨rfl, hb⟩
 obtain ⟨HE, HB, e0, e1, e2, e3, e4, e5, e6, e7, e8, e9⟩ := is_s1 hb
 clear hb HSh
 go_wp2_with fail
 (with_reducible refine (Hd.out _).mono ?_)
 rintro e w2 ⟨rfl, hb⟩
 clear Hd
 clear e0 e1 e2 e3 e4 e5 e6 e7 e8 e9
 obtain ⟨HE, HB, e0, e1, e2, e3, e4, e5, e6, e7, e8, e9⟩ := is_s2 HE HB hb
 clear hb
 go_wp2_with fail
 (with_reducible refine (Hn.out _).mono ?_)
 rintro e w3 ⟨rfl, hb⟩
 clear Hn
 clear e0 e1 e2 e3 e4 e5 e6 e7 e8 e9
 obtain ⟨HE, HB, e0, e1, e2, e3, e4, e5, e6, e7, e8, e9⟩ := is_s2 HE HB hb
 clear hb
 go_wp2_with fail
 (with_reducible refine (Hm.out _).mono ?_)
 rintro e w4 ⟨rfl, hb⟩
 clear Hm
 clear e0 e1 e2 e3 e4 e5 e6 e7 e8 e9
 obtain ⟨HE, HB, e0, e1, e2, e3, e4, e5, e6, e7, e8, e9⟩ := is_s2 HE HB hb
 clear hb
 go_wp2_with fail
 (with_reducible refine (Ha.out _).mono ?_)
 rintro e w5 ⟨rfl, hb⟩
 clear Ha
 clear e0 e1 e2 e3 e4 e5 e6 e7 e8 e9
 obtain ⟨HE, HB, e0, e1, e2, e3, e4, e5, e6, e7, e8, e9⟩ := is_s2 HE HB hb
 clear hb
 cases b with
 | false =>
  go_wp2_with (first | (go_at_call 138; (with_reducible refine (Hi.out _).mono ?_); rintro e w' ⟨rfl, ⟨nd, rfl⟩⟩) | (go_at_call 139; (with_reducible refine (Hz.out _).mono ?_); rintro e w' ⟨rfl, ⟨nd, rfl⟩⟩) | (go_at_call 137; (with_reducible refine (HMk.out _).mono ?_); rintro e w' ⟨rfl, ⟨nd, rfl⟩⟩))
  go_ret
  exact ⟨by rfl, by repeat (first | (with_reducible exact HB.out) | (with_reducible apply bNN))⟩
 | true =>
  go_wp2_with (first | (go_at_call 138; (with_reducible refine (Hi.out _).mono ?_); rintro e w' ⟨rfl, ⟨nd, rfl⟩⟩) | (go_at_call 139; (with_reducible refine (Hz.out _).mono ?_); rintro e w' ⟨rfl, ⟨nd, rfl⟩⟩) | (go_at_call 137; (with_reducible refine (HMk.out _).mono ?_); rintro e w' ⟨rfl, ⟨nd, rfl⟩⟩))
  go_ret
  exact ⟨by rfl, by repeat (first | (with_reducible exact HB.out) | (with_reducible apply bNN))⟩
theorem ris_4 (w : World) (op : Int) (f0 f1 f2 f3 f4 : Nat) (hs : P.cleatref04_Shape.f op = some 4) (hf0 : f0 < 32) (hf1 : f1 < 32) (hf2 : f2 < 64) (hf3 : f3 < 32) (hf4 : f4 < 4) :
 Calls Tryz.prog 110 #[.agg #[.int .i64 op, .int .i64 (f0 : Int), .int .i64 (f1 : Int), .int .i64 (f3 : Int), .int .i64 0, .int .i64 0, .int .u64 0, .int .i64 (f4 : Int), .int .i64 (f2 : Int), .int .i64 0]] w (IsiPost (decide (f4 ≤ 2)) w) := by
 have HSh := Azz.mk (fun W => P.cleatref04_Shape.calls op _ W hs)
 clear hs
 have Hd := Azz.mk (fun W => P.cleatref04_reg.calls 20 4 ⟨#[100]⟩ (f0 : Int) true W (reg_has 4 ⟨#[100]⟩ f0 (by omega) (by kernel_rfl)))
 have Hn := Azz.mk (fun W => P.cleatref04_reg.calls 20 4 ⟨#[110]⟩ (f1 : Int) true W (reg_has 4 ⟨#[110]⟩ f1 (by omega) (by kernel_rfl)))
 have Hm := Azz.mk (fun W => P.cleatref04_reg.calls 20 4 ⟨#[109]⟩ (f3 : Int) true W (reg_has 4 ⟨#[109]⟩ f3 (by omega) (by kernel_rfl)))
 have Ha := Azz.mk (fun W => P.cleatref04_reg.calls 20 4 ⟨#[97]⟩ 0 true W (by kernel_rfl))
 have Hi := Azz.mk (fun W => P.cleatref04_imm.calls 9 4 0 true W rfl)
 have Hz := Azz.mk (fun W => P.cleatref04_amount.calls 4 (f2 : Int) true W (by rw [amt_4, between_ok (f2 : Int) _ _ 1 (f2 : Int) (by decide) (by omega) (by omega) (by omega)]; rfl))
 have Hc := Azz.mk (fun W => P.cleatref04_Has.calls 20 4 ⟨#[99]⟩ false W (by kernel_rfl))
 go_enter Tryz.func110, Tryz.ntmps110
 go_wp2_with fail
 (with_reducible refine (HSh.out _).mono ?_)
 rintro e w1 ⟨rfl, hb⟩
 obtain ⟨HE, HB, e0, e1, e2, e3, e4, e5, e6, e7, e8, e9⟩ := is_s1 hb
 clear hb HSh
 go_wp2_with fail
 (with_reducible refine (Hd.out _).mono ?_)
 rintro e w2 ⟨rfl, hb⟩
 clear Hd
 clear e0 e1 e2 e3 e4 e5 e6 e7 e8 e9
 obtain ⟨HE, HB, e0, e1, e2, e3, e4, e5, e6, e7, e8, e9⟩ := is_s2 HE HB hb
 clear hb
 go_wp2_with fail
 (with_reducible refine (Hn.out _).mono ?_)
 rintro e w3 ⟨rfl, hb⟩
 clear Hn
 clear e0 e1 e2 e3 e4 e5 e6 e7 e8 e9
 obtain ⟨HE, HB, e0, e1, e2, e3, e4, e5, e6, e7, e8, e9⟩ := is_s2 HE HB hb
 clear hb
 go_wp2_with fail
 (with_reducible refine (Hm.out _).mono ?_)
 rintro e w4 ⟨rfl, hb⟩
 clear Hm
 clear e0 e1 e2 e3 e4 e5 e6 e7 e8 e9
 obtain ⟨HE, HB, e0, e1, e2, e3, e4, e5, e6, e7, e8, e9⟩ := is_s2 HE HB hb
 clear hb
 go_wp2_with fail
 (with_reducible refine (Ha.out _).mono ?_)
 rintro e w5 ⟨rfl, hb⟩
 clear Ha
 clear e0 e1 e2 e3 e4 e5 e6 e7 e8 e9
 obtain ⟨HE, HB, e0, e1, e2, e3, e4, e5, e6, e7, e8, e9⟩ := is_s2 HE HB hb
 clear hb
 by_cases c : f4 = 0
 ·subst c
  go_wp2_with (first | (go_at_call 138; (with_reducible refine (Hi.out _).mono ?_); rintro e w' ⟨rfl, ⟨nd, rfl⟩⟩) | (go_at_call 139; (with_reducible refine (Hz.out _).mono ?_); rintro e w' ⟨rfl, ⟨nd, rfl⟩⟩))
  go_ret
  exact ⟨by rfl, by repeat (first | (with_reducible exact HB.out) | (with_reducible apply bNN))⟩
 have k0 : ((f4 : Int) == 0) = false := bF_ (by omega)
 have k1 : decide ((0 : Int) ≤ (f4 : Int)) = true := dT_ (by omega)
 by_cases c2 : f4 ≤ 2
 ·have k2 : decide ((f4 : Int) ≤ 2) = true := dT_ (by omega)
  have k3 : decide (f4 ≤ 2) = true := dT_ c2
  go_wp2_with (first | (go_at_call 138; (with_reducible refine (Hi.out _).mono ?_); rintro e w' ⟨rfl, ⟨nd, rfl⟩⟩) | (go_at_call 139; (with_reducible refine (Hz.out _).mono ?_); rintro e w' ⟨rfl, ⟨nd, rfl⟩⟩))
  go_ret
  exact ⟨by rw [k3]; rfl, by repeat (first | (with_reducible exact HB.out) | (with_reducible apply bNN))⟩
 have k2 : decide ((f4 : Int) ≤ 2) = false := dF_ (by omega)
 have k3 : decide (f4 ≤ 2) = false := dF_ c2
 go_wp2_with (first | (go_at_call 138; (with_reducible refine (Hi.out _).mono ?_); rintro e w' ⟨rfl, ⟨nd, rfl⟩⟩) | (go_at_call 139; (with_reducible refine (Hz.out _).mono ?_); rintro e w' ⟨rfl, ⟨nd, rfl⟩⟩))
 go_ret
 exact ⟨by rw [k3]; rfl, by repeat (first | (with_reducible exact HB.out) | (with_reducible apply bNN))⟩
theorem ris_5 (w : World) (op : Int) (f0 f1 f2 f3 f4 : Nat) (hs : P.cleatref04_Shape.f op = some 5) (hf0 : f0 < 32) (hf1 : f1 < 32) (hf2 : f2 < 64) (hf3 : f3 < 32) (hf4 : f4 < 4) :
 Calls Tryz.prog 110 #[.agg #[.int .i64 op, .int .i64 (f0 : Int), .int .i64 (f1 : Int), .int .i64 (f3 : Int), .int .i64 0, .int .i64 0, .int .u64 0, .int .i64 (f4 : Int), .int .i64 (f2 : Int), .int .i64 0]] w (IsiPost (true) w) := by
 have HSh := Azz.mk (fun W => P.cleatref04_Shape.calls op _ W hs)
 clear hs
 have Hd := Azz.mk (fun W => P.cleatref04_reg.calls 20 5 ⟨#[100]⟩ (f0 : Int) true W (reg_has 5 ⟨#[100]⟩ f0 (by omega) (by kernel_rfl)))
 have Hn := Azz.mk (fun W => P.cleatref04_reg.calls 20 5 ⟨#[110]⟩ (f1 : Int) true W (reg_has 5 ⟨#[110]⟩ f1 (by omega) (by kernel_rfl)))
 have Hm := Azz.mk (fun W => P.cleatref04_reg.calls 20 5 ⟨#[109]⟩ (f3 : Int) true W (reg_has 5 ⟨#[109]⟩ f3 (by omega) (by kernel_rfl)))
 have Ha := Azz.mk (fun W => P.cleatref04_reg.calls 20 5 ⟨#[97]⟩ 0 true W (by kernel_rfl))
 have Hi := Azz.mk (fun W => P.cleatref04_imm.calls 9 5 0 true W rfl)
 have Hz := Azz.mk (fun W => P.cleatref04_amount.calls 5 (f2 : Int) true W (by rw [amt_5, between_ok (f2 : Int) _ _ 1 (f2 : Int) (by decide) (by omega) (by omega) (by omega)]; rfl))
 have Hc := Azz.mk (fun W => P.cleatref04_Has.calls 20 5 ⟨#[99]⟩ false W (by kernel_rfl))
 go_enter Tryz.func110, Tryz.ntmps110
 go_wp2_with fail
 (with_reducible refine (HSh.out _).mono ?_)
 rintro e w1 ⟨rfl, hb⟩
 obtain ⟨HE, HB, e0, e1, e2, e3, e4, e5, e6, e7, e8, e9⟩ := is_s1 hb
 clear hb HSh
 go_wp2_with fail
 (with_reducible refine (Hd.out _).mono ?_)
 rintro e w2 ⟨rfl, hb⟩
 clear Hd
 clear e0 e1 e2 e3 e4 e5 e6 e7 e8 e9
 obtain ⟨HE, HB, e0, e1, e2, e3, e4, e5, e6, e7, e8, e9⟩ := is_s2 HE HB hb
 clear hb
 go_wp2_with fail
 (with_reducible refine (Hn.out _).mono ?_)
 rintro e w3 ⟨rfl, hb⟩
 clear Hn
 clear e0 e1 e2 e3 e4 e5 e6 e7 e8 e9
 obtain ⟨HE, HB, e0, e1, e2, e3, e4, e5, e6, e7, e8, e9⟩ := is_s2 HE HB hb
 clear hb
 go_wp2_with fail
 (with_reducible refine (Hm.out _).mono ?_)
 rintro e w4 ⟨rfl, hb⟩
 clear Hm
 clear e0 e1 e2 e3 e4 e5 e6 e7 e8 e9
 obtain ⟨HE, HB, e0, e1, e2, e3, e4, e5, e6, e7, e8, e9⟩ := is_s2 HE HB hb
 clear hb
 go_wp2_with fail
 (with_reducible refine (Ha.out _).mono ?_)
 rintro e w5 ⟨rfl, hb⟩
 clear Ha
 clear e0 e1 e2 e3 e4 e5 e6 e7 e8 e9
 obtain ⟨HE, HB, e0, e1, e2, e3, e4, e5, e6, e7, e8, e9⟩ := is_s2 HE HB hb
 clear hb
 by_cases c : f4 = 0
 ·subst c
  go_wp2_with (first | (go_at_call 138; (with_reducible refine (Hi.out _).mono ?_); rintro e w' ⟨rfl, ⟨nd, rfl⟩⟩) | (go_at_call 139; (with_reducible refine (Hz.out _).mono ?_); rintro e w' ⟨rfl, ⟨nd, rfl⟩⟩))
  go_ret
  exact ⟨by rfl, by repeat (first | (with_reducible exact HB.out) | (with_reducible apply bNN))⟩
 have k0 : ((f4 : Int) == 0) = false := bF_ (by omega)
 have k1 : decide ((0 : Int) ≤ (f4 : Int)) = true := dT_ (by omega)
 have k2 : decide ((f4 : Int) ≤ 3) = true := dT_ (by omega)
 go_wp2_with (first | (go_at_call 138; (with_reducible refine (Hi.out _).mono ?_); rintro e w' ⟨rfl, ⟨nd, rfl⟩⟩) | (go_at_call 139; (with_reducible refine (Hz.out _).mono ?_); rintro e w' ⟨rfl, ⟨nd, rfl⟩⟩))
 go_ret
 exact ⟨by rfl, by repeat (first | (with_reducible exact HB.out) | (with_reducible apply bNN))⟩
theorem ris_6 (w : World) (op : Int) (f0 f1 f2 f3 : Nat) (hs : P.cleatref04_Shape.f op = some 6) (hf0 : f0 < 32) (hf1 : f1 < 32) (hf2 : f2 < 32) (hf3 : f3 < 32) :
 Calls Tryz.prog 110 #[.agg #[.int .i64 op, .int .i64 (f0 : Int), .int .i64 (f1 : Int), .int .i64 (f3 : Int), .int .i64 (f2 : Int), .int .i64 0, .int .u64 0, .int .i64 0, .int .i64 0, .int .i64 0]] w (IsiPost (true) w) := by
 exact ris_core 6 op _ _ _ _ _ _ rfl rfl hs (reg_has 6 ⟨#[100]⟩ f0 (by omega) (by kernel_rfl)) (reg_has 6 ⟨#[110]⟩ f1 (by omega) (by kernel_rfl)) (reg_has 6 ⟨#[109]⟩ f3 (by omega) (by kernel_rfl)) (reg_has 6 ⟨#[97]⟩ f2 (by omega) (by kernel_rfl)) rfl rfl w
theorem ris_7 (w : World) (op : Int) (f0 f1 f2 : Nat) (hs : P.cleatref04_Shape.f op = some 7) (hf0 : f0 < 32) (hf1 : f1 < 32) (hf2 : f2 < 4096) :
 Calls Tryz.prog 110 #[.agg #[.int .i64 op, .int .i64 (f0 : Int), .int .i64 (f1 : Int), .int .i64 0, .int .i64 0, .int .i64 (8 * (f2 : Int)), .int .u64 0, .int .i64 0, .int .i64 0, .int .i64 0]] w (IsiPost (true) w) := by
 exact ris_core 7 op _ _ _ _ _ _ rfl rfl hs (reg_has 7 ⟨#[100]⟩ f0 (by omega) (by kernel_rfl)) (reg_has 7 ⟨#[110]⟩ f1 (by omega) (by kernel_rfl)) (by kernel_rfl) (by kernel_rfl) (by rw [imm_7, between_ok (8 * (f2 : Int)) _ _ 8 (f2 : Int) (by decide) (by omega) (by omega) (by omega)]; rfl) rfl w
theorem ris_8 (w : World) (op : Int) (f0 f1 f2 : Nat) (hs : P.cleatref04_Shape.f op = some 8) (hf0 : f0 < 32) (hf1 : f1 < 32) (hf2 : f2 < 4096) :
 Calls Tryz.prog 110 #[.agg #[.int .i64 op, .int .i64 (f0 : Int), .int .i64 (f1 : Int), .int .i64 0, .int .i64 0, .int .i64 (f2 : Int), .int .u64 0, .int .i64 0, .int .i64 0, .int .i64 0]] w (IsiPost (true) w) := by
 exact ris_core 8 op _ _ _ _ _ _ rfl rfl hs (reg_has 8 ⟨#[100]⟩ f0 (by omega) (by kernel_rfl)) (reg_has 8 ⟨#[110]⟩ f1 (by omega) (by kernel_rfl)) (by kernel_rfl) (by kernel_rfl) (by rw [imm_8, between_ok (f2 : Int) _ _ 1 (f2 : Int) (by decide) (by omega) (by omega) (by omega)]; rfl) rfl w
theorem ris_9 (w : World) (op : Int) (f0 f1 : Nat) (hs : P.cleatref04_Shape.f op = some 9) (hf0 : f0 < 32) (hf1 : f1 < 524288) :
 Calls Tryz.prog 110 #[.agg #[.int .i64 op, .int .i64 (f0 : Int), .int .i64 0, .int .i64 0, .int .i64 0, .int .i64 (wrap64 (4 * sgn 19 f1)), .int .u64 0, .int .i64 0, .int .i64 0, .int .i64 0]] w (IsiPost (true) w) := by
 have hsg := sgn19 f1 (by omega)
 have ew : wrap64 (4 * sgn 19 f1) = 4 * sgn 19 f1 := wrap64_small _ (by omega) (by omega)
 exact ris_core 9 op _ _ _ _ _ _ rfl rfl hs (reg_has 9 ⟨#[100]⟩ f0 (by omega) (by kernel_rfl)) (by kernel_rfl) (by kernel_rfl) (by kernel_rfl) (by rw [ew, imm_9, between_ok (4 * sgn 19 f1) _ _ 4 (sgn 19 f1) (by decide) (by omega) (by omega) rfl]; rfl) rfl w
theorem ris_10 (w : World) (op : Int) (f0 f1 f2 : Nat) (hs : P.cleatref04_Shape.f op = some 10) (hf0 : f0 < 32) (hf1 : f1 < 524288) (hf2 : f2 < 4) :
 Calls Tryz.prog 110 #[.agg #[.int .i64 op, .int .i64 (f0 : Int), .int .i64 0, .int .i64 0, .int .i64 0, .int .i64 (sgn 21 (4 * f1 + f2)), .int .u64 0, .int .i64 0, .int .i64 0, .int .i64 0]] w (IsiPost (true) w) := by
 have hsg := sgn21 (4 * f1 + f2) (by omega)
 exact ris_core 10 op _ _ _ _ _ _ rfl rfl hs (reg_has 10 ⟨#[100]⟩ f0 (by omega) (by kernel_rfl)) (by kernel_rfl) (by kernel_rfl) (by kernel_rfl) (by rw [imm_10, between_ok (sgn 21 (4 * f1 + f2)) _ _ 1 (sgn 21 (4 * f1 + f2)) (by decide) (by omega) (by omega) (by omega)]; rfl) rfl w
theorem ris_11 (w : World) (op : Int) (f0 : Nat) (hs : P.cleatref04_Shape.f op = some 11) (hf0 : f0 < 67108864) :
 Calls Tryz.prog 110 #[.agg #[.int .i64 op, .int .i64 0, .int .i64 0, .int .i64 0, .int .i64 0, .int .i64 (wrap64 (4 * sgn 26 f0)), .int .u64 0, .int .i64 0, .int .i64 0, .int .i64 0]] w (IsiPost (true) w) := by
 have hsg := sgn26 f0 (by omega)
 have ew : wrap64 (4 * sgn 26 f0) = 4 * sgn 26 f0 := wrap64_small _ (by omega) (by omega)
 exact ris_core 11 op _ _ _ _ _ _ rfl rfl hs (by kernel_rfl) (by kernel_rfl) (by kernel_rfl) (by kernel_rfl) (by rw [ew, imm_11, between_ok (4 * sgn 26 f0) _ _ 4 (sgn 26 f0) (by decide) (by omega) (by omega) rfl]; rfl) rfl w
theorem ris_12 (w : World) (op : Int) (f0 f1 : Nat) (hs : P.cleatref04_Shape.f op = some 12) (hf0 : f0 < 16) (hf1 : f1 < 524288) :
 Calls Tryz.prog 110 #[.agg #[.int .i64 op, .int .i64 0, .int .i64 0, .int .i64 0, .int .i64 0, .int .i64 (wrap64 (4 * sgn 19 f1)), .int .u64 0, .int .i64 0, .int .i64 0, .int .i64 (f0 : Int)]] w (IsiPost (decide (f0 ≤ 13)) w) := by
 have HSh := Azz.mk (fun W => P.cleatref04_Shape.calls op _ W hs)
 clear hs
 have Hd := Azz.mk (fun W => P.cleatref04_reg.calls 20 12 ⟨#[100]⟩ 0 true W (by kernel_rfl))
 have Hn := Azz.mk (fun W => P.cleatref04_reg.calls 20 12 ⟨#[110]⟩ 0 true W (by kernel_rfl))
 have Hm := Azz.mk (fun W => P.cleatref04_reg.calls 20 12 ⟨#[109]⟩ 0 true W (by kernel_rfl))
 have Ha := Azz.mk (fun W => P.cleatref04_reg.calls 20 12 ⟨#[97]⟩ 0 true W (by kernel_rfl))
 have hsg := sgn19 f1 (by omega)
 have ew : wrap64 (4 * sgn 19 f1) = 4 * sgn 19 f1 := wrap64_small _ (by omega) (by omega)
 have Hi := Azz.mk (fun W => P.cleatref04_imm.calls 9 12 (wrap64 (4 * sgn 19 f1)) true W (by rw [ew, imm_12, between_ok (4 * sgn 19 f1) _ _ 4 (sgn 19 f1) (by decide) (by omega) (by omega) rfl]; rfl))
 clear ew hsg
 have Hz := Azz.mk (fun W => P.cleatref04_amount.calls 12 0 true W rfl)
 have Hc := Azz.mk (fun W => P.cleatref04_Has.calls 20 12 ⟨#[99]⟩ true W (by kernel_rfl))
 go_enter Tryz.func110, Tryz.ntmps110
 go_wp2_with fail
 (with_reducible refine (HSh.out _).mono ?_)
 rintro e w1 ⟨rfl, hb⟩
 obtain ⟨HE, HB, e0, e1, e2, e3, e4, e5, e6, e7, e8, e9⟩ := is_s1 hb
 clear hb HSh
 go_wp2_with fail
 (with_reducible refine (Hd.out _).mono ?_)
 rintro e w2 ⟨rfl, hb⟩
 clear Hd
 clear e0 e1 e2 e3 e4 e5 e6 e7 e8 e9
 obtain ⟨HE, HB, e0, e1, e2, e3, e4, e5, e6, e7, e8, e9⟩ := is_s2 HE HB hb
 clear hb
 go_wp2_with fail
 (with_reducible refine (Hn.out _).mono ?_)
 rintro e w3 ⟨rfl, hb⟩
 clear Hn
 clear e0 e1 e2 e3 e4 e5 e6 e7 e8 e9
 obtain ⟨HE, HB, e0, e1, e2, e3, e4, e5, e6, e7, e8, e9⟩ := is_s2 HE HB hb
 clear hb
 go_wp2_with fail
 (with_reducible refine (Hm.out _).mono ?_)
 rintro e w4 ⟨rfl, hb⟩
 clear Hm
 clear e0 e1 e2 e3 e4 e5 e6 e7 e8 e9
 obtain ⟨HE, HB, e0, e1, e2, e3, e4, e5, e6, e7, e8, e9⟩ := is_s2 HE HB hb
 clear hb
 go_wp2_with fail
 (with_reducible refine (Ha.out _).mono ?_)
 rintro e w5 ⟨rfl, hb⟩
 clear Ha
 clear e0 e1 e2 e3 e4 e5 e6 e7 e8 e9
 obtain ⟨HE, HB, e0, e1, e2, e3, e4, e5, e6, e7, e8, e9⟩ := is_s2 HE HB hb
 clear hb
 by_cases c : f0 = 0
 ·subst c
  go_wp2_with (first | (go_at_call 138; (with_reducible refine (Hi.out _).mono ?_); rintro e w' ⟨rfl, ⟨nd, rfl⟩⟩) | (go_at_call 139; (with_reducible refine (Hz.out _).mono ?_); rintro e w' ⟨rfl, ⟨nd, rfl⟩⟩))
  go_ret
  exact ⟨by rfl, by repeat (first | (with_reducible exact HB.out) | (with_reducible apply bNN))⟩
 have k0 : ((f0 : Int) == 0) = false := bF_ (by omega)
 have k1 : decide ((0 : Int) ≤ (f0 : Int)) = true := dT_ (by omega)
 by_cases c2 : f0 ≤ 13
 ·have k2 : decide ((f0 : Int) ≤ 13) = true := dT_ (by omega)
  have k3 : decide (f0 ≤ 13) = true := dT_ c2
  go_wp2_with fail
  (with_reducible refine (Hc.out _).mono ?_)
  rintro e w6 ⟨rfl, hb⟩
  clear Hc
  clear e0 e1 e2 e3 e4 e5 e6 e7 e8 e9
  obtain ⟨HE, HB, e0, e1, e2, e3, e4, e5, e6, e7, e8, e9⟩ := is_s2 HE HB hb
  clear hb
  go_wp2_with (first | (go_at_call 138; (with_reducible refine (Hi.out _).mono ?_); rintro e w' ⟨rfl, ⟨nd, rfl⟩⟩) | (go_at_call 139; (with_reducible refine (Hz.out _).mono ?_); rintro e w' ⟨rfl, ⟨nd, rfl⟩⟩))
  go_ret
  exact ⟨by rw [k3]; rfl, by repeat (first | (with_reducible exact HB.out) | (with_reducible apply bNN))⟩
 have k2 : decide ((f0 : Int) ≤ 13) = false := dF_ (by omega)
 have k3 : decide (f0 ≤ 13) = false := dF_ c2
 go_wp2_with fail
 (with_reducible refine (Hc.out _).mono ?_)
 rintro e w6 ⟨rfl, hb⟩
 clear Hc
 clear e0 e1 e2 e3 e4 e5 e6 e7 e8 e9
 obtain ⟨HE, HB, e0, e1, e2, e3, e4, e5, e6, e7, e8, e9⟩ := is_s2 HE HB hb
 clear hb
 go_wp2_with (first | (go_at_call 138; (with_reducible refine (Hi.out _).mono ?_); rintro e w' ⟨rfl, ⟨nd, rfl⟩⟩) | (go_at_call 139; (with_reducible refine (Hz.out _).mono ?_); rintro e w' ⟨rfl, ⟨nd, rfl⟩⟩))
 go_ret
 exact ⟨by rw [k3]; rfl, by repeat (first | (with_reducible exact HB.out) | (with_reducible apply bNN))⟩
theorem ris_13 (w : World) (op : Int) (f0 : Nat) (hs : P.cleatref04_Shape.f op = some 13) (hf0 : f0 < 32) :
 Calls Tryz.prog 110 #[.agg #[.int .i64 op, .int .i64 0, .int .i64 (f0 : Int), .int .i64 0, .int .i64 0, .int .i64 0, .int .u64 0, .int .i64 0, .int .i64 0, .int .i64 0]] w (IsiPost (true) w) := by
 exact ris_core 13 op _ _ _ _ _ _ rfl rfl hs (by kernel_rfl) (reg_has 13 ⟨#[110]⟩ f0 (by omega) (by kernel_rfl)) (by kernel_rfl) (by kernel_rfl) rfl rfl w
theorem ris_14 (w : World) (op : Int) (f0 : Nat) (hs : P.cleatref04_Shape.f op = some 14) (hf0 : f0 < 65536) :
 Calls Tryz.prog 110 #[.agg #[.int .i64 op, .int .i64 0, .int .i64 0, .int .i64 0, .int .i64 0, .int .i64 (f0 : Int), .int .u64 0, .int .i64 0, .int .i64 0, .int .i64 0]] w (IsiPost (true) w) := by
 exact ris_core 14 op _ _ _ _ _ _ rfl rfl hs (by kernel_rfl) (by kernel_rfl) (by kernel_rfl) (by kernel_rfl) (by rw [imm_14, between_ok (f0 : Int) _ _ 1 (f0 : Int) (by decide) (by omega) (by omega) (by omega)]; rfl) rfl w
theorem ris_15 (w : World) (op : Int) (hs : P.cleatref04_Shape.f op = some 15) :
 Calls Tryz.prog 110 #[.agg #[.int .i64 op, .int .i64 0, .int .i64 0, .int .i64 0, .int .i64 0, .int .i64 0, .int .u64 0, .int .i64 0, .int .i64 0, .int .i64 0]] w (IsiPost (true) w) := by
 exact ris_core 15 op _ _ _ _ _ _ rfl rfl hs (by kernel_rfl) (by kernel_rfl) (by kernel_rfl) (by kernel_rfl) rfl rfl w
theorem ris_16 (w : World) (op : Int) (f0 f1 f2 f3 : Nat) (hs : P.cleatref04_Shape.f op = some 16) (hf0 : f0 < 32) (hf1 : f1 < 32) (hf2 : f2 < 16) (hf3 : f3 < 32) :
 Calls Tryz.prog 110 #[.agg #[.int .i64 op, .int .i64 (f0 : Int), .int .i64 (f1 : Int), .int .i64 (f3 : Int), .int .i64 0, .int .i64 0, .int .u64 0, .int .i64 0, .int .i64 0, .int .i64 (f2 : Int)]] w (IsiPost (decide (f2 ≤ 13)) w) := by
 have HSh := Azz.mk (fun W => P.cleatref04_Shape.calls op _ W hs)
 clear hs
 have Hd := Azz.mk (fun W => P.cleatref04_reg.calls 20 16 ⟨#[100]⟩ (f0 : Int) true W (reg_has 16 ⟨#[100]⟩ f0 (by omega) (by kernel_rfl)))
 have Hn := Azz.mk (fun W => P.cleatref04_reg.calls 20 16 ⟨#[110]⟩ (f1 : Int) true W (reg_has 16 ⟨#[110]⟩ f1 (by omega) (by kernel_rfl)))
 have Hm := Azz.mk (fun W => P.cleatref04_reg.calls 20 16 ⟨#[109]⟩ (f3 : Int) true W (reg_has 16 ⟨#[109]⟩ f3 (by omega) (by kernel_rfl)))
 have Ha := Azz.mk (fun W => P.cleatref04_reg.calls 20 16 ⟨#[97]⟩ 0 true W (by kernel_rfl))
 have Hi := Azz.mk (fun W => P.cleatref04_imm.calls 9 16 0 true W rfl)
 have Hz := Azz.mk (fun W => P.cleatref04_amount.calls 16 0 true W rfl)
 have Hc := Azz.mk (fun W => P.cleatref04_Has.calls 20 16 ⟨#[99]⟩ true W (by kernel_rfl))
 go_enter Tryz.func110, Tryz.ntmps110
 go_wp2_with fail
 (with_reducible refine (HSh.out _).mono ?_)
 rintro e w1 ⟨rfl, hb⟩
 obtain ⟨HE, HB, e0, e1, e2, e3, e4, e5, e6, e7, e8, e9⟩ := is_s1 hb
 clear hb HSh
 go_wp2_with fail
 (with_reducible refine (Hd.out _).mono ?_)
 rintro e w2 ⟨rfl, hb⟩
 clear Hd
 clear e0 e1 e2 e3 e4 e5 e6 e7 e8 e9
 obtain ⟨HE, HB, e0, e1, e2, e3, e4, e5, e6, e7, e8, e9⟩ := is_s2 HE HB hb
 clear hb
 go_wp2_with fail
 (with_reducible refine (Hn.out _).mono ?_)
 rintro e w3 ⟨rfl, hb⟩
 clear Hn
 clear e0 e1 e2 e3 e4 e5 e6 e7 e8 e9
 obtain ⟨HE, HB, e0, e1, e2, e3, e4, e5, e6, e7, e8, e9⟩ := is_s2 HE HB hb
 clear hb
 go_wp2_with fail
 (with_reducible refine (Hm.out _).mono ?_)
 rintro e w4 ⟨rfl, hb⟩
 clear Hm
 clear e0 e1 e2 e3 e4 e5 e6 e7 e8 e9
 obtain ⟨HE, HB, e0, e1, e2, e3, e4, e5, e6, e7, e8, e9⟩ := is_s2 HE HB hb
 clear hb
 go_wp2_with fail
 (with_reducible refine (Ha.out _).mono ?_)
 rintro e w5 ⟨rfl, hb⟩
 clear Ha
 clear e0 e1 e2 e3 e4 e5 e6 e7 e8 e9
 obtain ⟨HE, HB, e0, e1, e2, e3, e4, e5, e6, e7, e8, e9⟩ := is_s2 HE HB hb
 clear hb
 by_cases c : f2 = 0
 ·subst c
  go_wp2_with (first | (go_at_call 138; (with_reducible refine (Hi.out _).mono ?_); rintro e w' ⟨rfl, ⟨nd, rfl⟩⟩) | (go_at_call 139; (with_reducible refine (Hz.out _).mono ?_); rintro e w' ⟨rfl, ⟨nd, rfl⟩⟩))
  go_ret
  exact ⟨by rfl, by repeat (first | (with_reducible exact HB.out) | (with_reducible apply bNN))⟩
 have k0 : ((f2 : Int) == 0) = false := bF_ (by omega)
 have k1 : decide ((0 : Int) ≤ (f2 : Int)) = true := dT_ (by omega)
 by_cases c2 : f2 ≤ 13
 ·have k2 : decide ((f2 : Int) ≤ 13) = true := dT_ (by omega)
  have k3 : decide (f2 ≤ 13) = true := dT_ c2
  go_wp2_with fail
  (with_reducible refine (Hc.out _).mono ?_)
  rintro e w6 ⟨rfl, hb⟩
  clear Hc
  clear e0 e1 e2 e3 e4 e5 e6 e7 e8 e9
  obtain ⟨HE, HB, e0, e1, e2, e3, e4, e5, e6, e7, e8, e9⟩ := is_s2 HE HB hb
  clear hb
  go_wp2_with (first | (go_at_call 138; (with_reducible refine (Hi.out _).mono ?_); rintro e w' ⟨rfl, ⟨nd, rfl⟩⟩) | (go_at_call 139; (with_reducible refine (Hz.out _).mono ?_); rintro e w' ⟨rfl, ⟨nd, rfl⟩⟩))
  go_ret
  exact ⟨by rw [k3]; rfl, by repeat (first | (with_reducible exact HB.out) | (with_reducible apply bNN))⟩
 have k2 : decide ((f2 : Int) ≤ 13) = false := dF_ (by omega)
 have k3 : decide (f2 ≤ 13) = false := dF_ c2
 go_wp2_with fail
 (with_reducible refine (Hc.out _).mono ?_)
 rintro e w6 ⟨rfl, hb⟩
 clear Hc
 clear e0 e1 e2 e3 e4 e5 e6 e7 e8 e9
 obtain ⟨HE, HB, e0, e1, e2, e3, e4, e5, e6, e7, e8, e9⟩ := is_s2 HE HB hb
 clear hb
 go_wp2_with (first | (go_at_call 138; (with_reducible refine (Hi.out _).mono ?_); rintro e w' ⟨rfl, ⟨nd, rfl⟩⟩) | (go_at_call 139; (with_reducible refine (Hz.out _).mono ?_); rintro e w' ⟨rfl, ⟨nd, rfl⟩⟩))
 go_ret
 exact ⟨by rw [k3]; rfl, by repeat (first | (with_reducible exact HB.out) | (with_reducible apply bNN))⟩
end Go.Proofs.YtngmipfodjgmmaaGreatDoor.Pure
