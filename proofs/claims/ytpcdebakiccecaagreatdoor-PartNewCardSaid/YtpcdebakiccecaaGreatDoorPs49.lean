/- Walks and plain laws of this claim, a part. -/
import Derived.Test.YtpcdebakiccecaaGreatDoorPs48
namespace Go.Proofs.YtpcdebakiccecaaGreatDoor.P
open Go.RowKit Go.Proofs.YtpcdebakiccecaaGreatDoorW.PrintWords Go.Proofs.YtpcdebakiccecaaGreatDoorW.PrintLast Go.Proofs.YtpcdebakiccecaaGreatDoorW.PrintMore
attribute [local go_sem] max2_int min2_int max_two min_two max_three min_three max_four min_four   -- for this text's walks alone
set_option linter.unusedVariables false
set_option linter.unusedSimpArgs false
def part_Align.j0 : Nat → Int → Bool → ByteArray → Int → Bool → Int → ByteArray → List (S44) → Option (ByteArray × Int × Bool × Int × ByteArray × (List (S44)) × Int)
 | 0, _, _, _, _, _, _, _, _ => none
 | k + 1, x1, x18, x222000, x222001, x222002, x222003, x222004, x222005 => if x18 = true then (some ((⟨#[]⟩ : ByteArray), 0, false, 0, (⟨#[]⟩ : ByteArray), ([] : List (S44)), 4)) else (if 0 ≤ x1 then (if (shl .i64 1 x1) = 0 then (none) else ((strings_Repeat.f (⟨#[0]⟩ : ByteArray) (Int.tmod (wrap64 ((shl .i64 1 x1) - ((x222004.size : Int) % (shl .i64 1 x1)))) (shl .i64 1 x1))).bind fun t224 => ((part_grow.f t224 ([] : List (S44)) x222000 x222001 x222002 x222003 x222004 x222005).bind fun bt225 => (if bt225.2.2.2.2.2.2 = 0 then (some (bt225.1, bt225.2.1, bt225.2.2.1, mx bt225.2.2.2.1 x1, bt225.2.2.2.2.1, bt225.2.2.2.2.2.1, 0)) else (some ((⟨#[]⟩ : ByteArray), 0, false, 0, (⟨#[]⟩ : ByteArray), ([] : List (S44)), bt225.2.2.2.2.2.2)))))) else (none))
def part_Align.f (k : Nat) (a0_0 : ByteArray) (a0_1 : Int) (a0_2 : Bool) (a0_3 : Int) (a0_4 : ByteArray) (l0_5 : List (S44)) (a1 : Int) : Option (ByteArray × Int × Bool × Int × ByteArray × (List (S44)) × Int) := (part_Is.f k a0_0 a0_1 a0_2 a0_3 a0_4 l0_5).bind fun t223 => (if t223 = true then (if a1 < 0 then (part_Align.j0 k a1 true a0_0 a0_1 a0_2 a0_3 a0_4 l0_5) else (part_Align.j0 k a1 (decide (a1 > 12)) a0_0 a0_1 a0_2 a0_3 a0_4 l0_5)) else (some ((⟨#[]⟩ : ByteArray), 0, false, 0, (⟨#[]⟩ : ByteArray), ([] : List (S44)), 1)))
theorem part_Align.mono_l : ∀ k, (∀ y0 y1 y2 y3 y4 y5 y6 y7, LeO (part_Align.j0 k y0 y1 y2 y3 y4 y5 y6 y7) (part_Align.j0 (k + 1) y0 y1 y2 y3 y4 y5 y6 y7))
 | 0 => fun _ _ _ _ _ _ _ _ r h => by simp [part_Align.j0] at h
 | k + 1 => by
  have ih0 := part_Align.mono_l k
  ·intro y0 y1 y2 y3 y4 y5 y6 y7
   unfold part_Align.j0
   repeat' first
   | (with_reducible exact ih0 _ _ _ _ _ _ _ _)
   | (with_reducible exact part_Is.mono _ _ _ _ _ _ _)
   | (with_reducible exact LeO.refl _)
   | (with_reducible exact LeO.none _)
   | (with_reducible refine LeO.ite ?_ ?_)
   | (with_reducible refine LeO.bind ?_ (fun _ => ?_))
theorem part_Align.mono : ∀ a0 a1 a2 a3 a4 a5 a6 k, LeO (part_Align.f k a0 a1 a2 a3 a4 a5 a6) (part_Align.f (k + 1) a0 a1 a2 a3 a4 a5 a6) := by
 intro a0 a1 a2 a3 a4 a5 a6 k
 have ih0 := part_Align.mono_l k
 unfold part_Align.f
 repeat' first
  | (with_reducible exact ih0 _ _ _ _ _ _ _ _)
  | (with_reducible exact part_Is.mono _ _ _ _ _ _ _)
  | (with_reducible exact LeO.refl _)
  | (with_reducible exact LeO.none _)
  | (with_reducible refine LeO.ite ?_ ?_)
  | (with_reducible refine LeO.bind ?_ (fun _ => ?_))
def part_Align.T6 : Bool × List (List Nat × List Nat) := (true, [([], []), ([0], [0]), ([], []), ([], []), ([3], [3]), ([4], [4]), ([], []), ([5, 6], [5, 6]), ([2, 7], [2, 7]), ([], []), ([8, 9], [8, 9]), ([10, 1], [10]), ([1, 11, 11], [1, 11]), ([12], [12]), ([13], [13]), ([13], [13]), ([], []), ([16, 14, 12, 0, 1, 2, 3, 4, 5, 6, 7, 8, 9, 10, 11, 12, 13, 14, 16], [14, 16]), ([15, 17, 0, 1, 2, 3, 4, 5, 6, 7, 8, 9, 10, 11, 12, 13, 14, 15, 16, 17], [15])])
def part_Align.B6 : List Nat := [0, 1, 0, 0, 8, 24, 0, 120, 252, 0, 1020, 2047, 4095, 8191, 16383, 16383, 0, 98303, 262143]
theorem part_Align.tab6 : rtab .any (opsOf Tryz.f12 6) = part_Align.T6 := by kernel_rfl
theorem part_Align.bits6 : waitsOk part_Align.T6.2 part_Align.B6 = true := by kernel_rfl
set_option maxHeartbeats 8000000 in
set_option maxRecDepth 100000 in
theorem part_Align.calls (k : Nat) (a0_0 : ByteArray) (a0_1 : Int) (a0_2 : Bool) (a0_3 : Int) (a0_4 : ByteArray) (A0_5 : Option Addr) (c0_5 : Nat) (l0_5 : List (S44)) (a1 : Int) (r1 : ByteArray) (r2 : Int) (r3 : Bool) (r4 : Int) (r5 : ByteArray) (r6 : List (S44)) (r7 : Int) (w : World) (hG : Glob w) (hr0_5 : Kd.C k44 w A0_5 l0_5.length l0_5) (hc0_5 : l0_5.length ≤ c0_5) (h : part_Align.f k a0_0 a0_1 a0_2 a0_3 a0_4 l0_5 a1 = some (r1, r2, r3, r4, r5, r6, r7)) :
 Calls Tryz.prog 12 #[.agg #[.string a0_0, .int .i64 a0_1, .bool a0_2, .int .i64 a0_3, .string a0_4, .slice A0_5 l0_5.length c0_5], .int .i64 a1] w fun e w' => ∃ v5_ : Value, e = .returned (.tuple #[.agg #[.string r1, .int .i64 r2, .bool r3, .int .i64 r4, .string r5, v5_], .int .i64 r7]) ∧ Kd.R k44 44 w' w.heap.size (fun _ => True) v5_ r6 ∧ Below w.heap.size w w' := by
 have hu24 := Tryz.underlying24
 have HR0_5 := Azz.mk hr0_5
 have HC0_5 := Azz.mk hc0_5
 clear hr0_5 hc0_5
 have HB := Azz.mk (Below.refl w.heap.size w)
 have H : ((part_Is.f k a0_0 a0_1 a0_2 a0_3 a0_4 l0_5).bind fun t223 => (if t223 = true then (if a1 < 0 then (part_Align.j0 k a1 true a0_0 a0_1 a0_2 a0_3 a0_4 l0_5) else (part_Align.j0 k a1 (decide (a1 > 12)) a0_0 a0_1 a0_2 a0_3 a0_4 l0_5)) else (some ((⟨#[]⟩ : ByteArray), 0, false, 0, (⟨#[]⟩ : ByteArray), ([] : List (S44)), 1)))) = some (r1, r2, r3, r4, r5, r6, r7) := h
 clear h
 replace H := Option.bind_eq_some_iff.mp H
 obtain ⟨t223, A30, H⟩ := H
 (try dsimp only at H)
 have A3 := Azz.mk A30
 clear A30
 by_cases c4 : t223 = true
 ·subst c4
  rw [if_pos rfl] at H
  have HC5 := Azz.mk H
  clear H
  go_enter Tryz.func12, Tryz.ntmps12
  go_upto_region 3 with (first | ((with_reducible refine gate_dst (N := 2) rfl ?_); refine box_event ?hg (N := 2) ?hd (cs := #[.string a0_0, .int .i64 a0_1, .bool a0_2, .int .i64 a0_3, .string a0_4, .slice A0_5 l0_5.length c0_5]) (t := 24) ?hr ?_; (case hd => rfl); (case hg => rfl); (case hr => first | (go_simp; done) | (go_simp; rfl)); intro gb221 hg w6 hbox hb; have n0_ := Azz.mk (bTT (by with_reducible repeat first | exact HB.out | apply bAA | apply bNN | apply bDD) hb); have n1_ := Azz.mk (hbox); have n2_ := Azz.mk ((by rw [hg]; exact (bZZ (by with_reducible repeat first | exact HB.out | apply bAA | apply bNN | apply bDD)) : w.heap.size ≤ gb221)); have n3_ := Azz.mk ((by rw [hg]; exact (bZZ (by with_reducible repeat first | exact HB.out | apply bAA | apply bNN | apply bDD)) : w.heap.size ≤ gb221)); clear HB; have HB := n0_; have BK221 := n1_; have GW221 := n2_; have GE221 := n3_; clear n0_ n1_ n2_ n3_; clear hb hbox hg) | ((with_reducible refine gate_dst (N := 4) rfl ?_); refine box_event ?hg (N := 4) ?hd (cs := #[.string (⟨#[]⟩ : ByteArray), .int .i64 0, .bool false, .int .i64 0, .string (⟨#[]⟩ : ByteArray), .slice none 0 0]) (t := 24) ?hr ?_; (case hd => rfl); (case hg => rfl); (case hr => first | (go_simp; done) | (go_simp; rfl)); intro gb222 hg w7 hbox hb; have n0_ := Azz.mk (blk_b hb BK221.out); have n1_ := Azz.mk (bTT (by with_reducible repeat first | exact HB.out | apply bAA | apply bNN | apply bDD | refine bSS ?_ GE221.out) hb); have n2_ := Azz.mk (hbox); have n3_ := Azz.mk ((by rw [hg]; exact (bZZ (by with_reducible repeat first | exact HB.out | apply bAA | apply bNN | apply bDD | refine bSS ?_ GE221.out)) : w.heap.size ≤ gb222)); have n4_ := Azz.mk ((by rw [hg]; exact (bZZ (by with_reducible repeat first | exact HB.out | apply bAA | apply bNN | apply bDD | refine bSS ?_ GE221.out)) : w.heap.size ≤ gb222)); have n5_ := Azz.mk ((by rw [hg]; exact Nat.ne_of_lt (blk_lt BK221.out) : gb221 ≠ gb222)); have n6_ := Azz.mk ((by rw [hg]; exact Nat.ne_of_gt (blk_lt BK221.out) : gb222 ≠ gb221)); clear BK221; clear HB; have BK221 := n0_; have HB := n1_; have BK222 := n2_; have GW222 := n3_; have GE222 := n4_; have NB221_222 := n5_; have NB222_221 := n6_; clear n0_ n1_ n2_ n3_ n4_ n5_ n6_; clear hb hbox hg; have hnb8 := NB221_222.out; have hnc8 := NB222_221.out; obtain ⟨hcz9_0, hcz9_1, hcz9_2, hcz9_3, hcz9_4, hcz9_5, hfz9_0, hfz9_1, hfz9_2, hfz9_3, hfz9_4, hfz9_5⟩ := cel6 BK221.out) | ((with_reducible refine gate_callee (f := 8) rfl ?_); refine goesL_ (some 10) rfl rfl Tryz.func8 (by kernel_rfl) rfl #[.agg #[.string a0_0, .int .i64 a0_1, .bool a0_2, .int .i64 a0_3, .string a0_4, .slice A0_5 l0_5.length c0_5]] rfl (by (try simp only [List.map_toArray, List.map_cons, List.map_nil]); first | done | rfl | (simp only [List.length_drop, List.length_take]; rfl)) ?_; (with_reducible refine (part_Is.calls k a0_0 a0_1 a0_2 a0_3 a0_4 _ _ l0_5 true _ ?side3 ?side1 ?side2 A3.out).mono ?_); (case side1 => repeat (first | exact (Kd.C_below HR0_5.out HB.out) | (with_reducible refine Kd.C_alloc ?_ _) | (with_reducible refine Kd.C_drewN ?_ _) | (with_reducible refine Kd.C_drew ?_))); (case side2 => exact HC0_5.out); (case side3 => exact Glob.below hG (by with_reducible repeat first | exact HB.out | apply bAA | apply bNN | apply bDD | refine bSS ?_ GE221.out | refine bSS ?_ GE222.out)); rintro e w10 ⟨rfl, hb⟩; refine ⟨_, rfl, ?_⟩; have n0_ := Azz.mk (blk_b hb BK221.out); have n1_ := Azz.mk (blk_b hb BK222.out); have n2_ := Azz.mk (bTT (by with_reducible repeat first | exact HB.out | apply bAA | apply bNN | apply bDD | refine bSS ?_ GE221.out | refine bSS ?_ GE222.out) hb); clear BK221; clear BK222; clear HB; have BK221 := n0_; have BK222 := n1_; have HB := n2_; clear n0_ n1_ n2_; (try clear hb); (try clear hb2); (try clear hk); (try clear hi)))
  (try simp only [Act.put, List.setIfInBounds_toArray, List.set_cons_zero, List.set_cons_succ])
  go_cut [18] (fun v18 wc => ∃ (kq : Nat) (x18_4 : Bool), v18 = .bool x18_4 ∧ Azz (part_Align.j0 kq a1 x18_4 a0_0 a0_1 a0_2 a0_3 a0_4 l0_5 = some (r1, r2, r3, r4, r5, r6, r7)) ∧ Azz (kq ≤ k) ∧ Azz (wc.heap[gb221]? = some (.cells #[.string a0_0, .int .i64 a0_1, .bool a0_2, .int .i64 a0_3, .string a0_4, (.slice A0_5 l0_5.length c0_5)] 24 (0, 0))) ∧ Azz (wc.heap[gb222]? = some (.cells #[.string (⟨#[]⟩ : ByteArray), .int .i64 0, .bool false, .int .i64 0, .string (⟨#[]⟩ : ByteArray), (.slice none 0 0)] 24 (0, 0))) ∧ Azz (Below w.heap.size w wc))
  case first =>
   have H := HC5.out
   clear HC5
   by_cases c11 : a1 < 0
   ·rw [if_pos c11] at H
    have c11b0 := decide_eq_true c11
    clear c11
    (first | rw [c11b0] | (simp only [i64_w, i32_w]; rw [c11b0]) | skip)
    have H' := Azz.mk H
    clear H
    go_wp2
    go_meet
    case rel => exact ⟨_, (true), (by first | rfl | (simp; done) | (simp [*]; done)), H', ⟨by first | omega | exact Nat.le_refl _⟩, ⟨by (with_reducible repeat first | apply kNN | apply kDD | apply kAA); exact BK221.out⟩, ⟨by (with_reducible repeat first | apply kNN | apply kDD | apply kAA); exact BK222.out⟩, ⟨by repeat (first | (with_reducible first | exact HB.out | apply bAA | apply bNN | apply bDD | refine bSS ?_ GE221.out | refine bSS ?_ GE222.out) | exact HB.out)⟩⟩
   ·rw [if_neg c11] at H
    have c11b0 := decide_eq_false c11
    clear c11
    (first | rw [c11b0] | (simp only [i64_w, i32_w]; rw [c11b0]) | skip)
    have H' := Azz.mk H
    clear H
    go_wp2
    go_meet
    case rel => exact ⟨_, (decide (a1 > 12)), (by first | rfl | (simp; done) | (simp [*]; done)), H', ⟨by first | omega | exact Nat.le_refl _⟩, ⟨by (with_reducible repeat first | apply kNN | apply kDD | apply kAA); exact BK221.out⟩, ⟨by (with_reducible repeat first | apply kNN | apply kDD | apply kAA); exact BK222.out⟩, ⟨by repeat (first | (with_reducible first | exact HB.out | apply bAA | apply bNN | apply bDD | refine bSS ?_ GE221.out | refine bSS ?_ GE222.out) | exact HB.out)⟩⟩
  case rest =>
   clear HC5
   try clear c1
   try clear p2
   try clear c4
   try clear c8
   try clear c11
   try clear c11b0
   try clear hcz9_0 hcz9_1 hcz9_2 hcz9_3 hcz9_4 hcz9_5 hfz9_0 hfz9_1 hfz9_2 hfz9_3 hfz9_4 hfz9_5
   obtain ⟨kq, x18_4, rfl, HA, HJ4, BK221, BK222, HB⟩ := hcut
   cases kq with
   | zero => exact absurd HA.out (by simp [part_Align.j0])
   | succ kj4 =>
    have H := HA.out
    clear HA
    simp only [part_Align.j0] at H
    by_cases c12 : x18_4 = true
    ·subst c12
     rw [if_pos rfl] at H
     simp only [Option.some.injEq, Prod.mk.injEq] at H
     obtain ⟨rfl, rfl, rfl, rfl, rfl, rfl, rfl⟩ := H
     have hnb13 := NB222_221.out
     have hnc13 := NB221_222.out
     obtain ⟨hcz14_0, hcz14_1, hcz14_2, hcz14_3, hcz14_4, hcz14_5, hfz14_0, hfz14_1, hfz14_2, hfz14_3, hfz14_4, hfz14_5⟩ := cel6 BK222.out
     go_wp2_with (first | ((with_reducible refine gate_store (t := 24) (p := 4) rfl ?_); refine store_event (t := 24) (p := 4) (v := ?vo_w15) (w1 := ((((((wc.setCell ⟨gb222, 0, none⟩ (.string (⟨#[]⟩ : ByteArray))).setCell ⟨gb222, 1, none⟩ (.int .i64 0)).setCell ⟨gb222, 2, none⟩ (.bool false)).setCell ⟨gb222, 3, none⟩ (.int .i64 0)).setCell ⟨gb222, 4, none⟩ (.string (⟨#[]⟩ : ByteArray))).setCell ⟨gb222, 5, none⟩ (.slice none 0 0))) ?hg ?ho ?hn ?hr ?_; (case ho => rfl); (case hg => rfl); (case hn => rfl); (case hr => first | (go_simp; done) | (go_simp; rfl)); intro w15 hw; have n0_ : Azz (w15.heap[gb221]? = some (.cells #[.string a0_0, .int .i64 a0_1, .bool a0_2, .int .i64 a0_3, .string a0_4, .slice A0_5 l0_5.length c0_5] 24 (0, 0))) := ⟨(by rw [hw]; exact (by refine far6 NB221_222.out ?_; (with_reducible repeat first | apply kNN | apply kDD | apply kAA); exact BK221.out))⟩; have n1_ : Azz (w15.heap[gb222]? = some (.cells #[.string (⟨#[]⟩ : ByteArray), .int .i64 0, .bool false, .int .i64 0, .string (⟨#[]⟩ : ByteArray), .slice none 0 0] 24 (0, 0))) := ⟨(by rw [hw]; exact (by apply put6; (with_reducible repeat first | apply kNN | apply kDD | apply kAA); exact BK222.out))⟩; have n2_ : Azz (Below w.heap.size w w15) := ⟨(by rw [hw]; exact (by with_reducible repeat first | exact HB.out | apply bAA | apply bNN | apply bDD | refine bSS ?_ GE221.out | refine bSS ?_ GE222.out))⟩; clear hw; clear BK221; clear BK222; clear HB; have BK221 := n0_; have BK222 := n1_; have HB := n2_; clear n0_ n1_ n2_))
     refine bodyPost_ret (results_ct rfl _ _ gb222 24 #[.string (⟨#[]⟩ : ByteArray), .int .i64 0, .bool false, .int .i64 0, .string (⟨#[]⟩ : ByteArray), .slice none 0 0] (0, 0) _ rfl (by (with_reducible repeat first | apply kNN | apply kDD | apply kAA); exact BK222.out) Tryz.underlying24 rfl (by kernel_rfl)) rfl ?_
     exact ⟨_, by first | rfl | (simp [eNN, eSS] <;> rfl) | (simp [*, eNN, eSS] <;> rfl), by first | exact Kd.R_nil _ _ _ _ _ | exact Kd.N_nil _ _ _ _ _ | exact Kd.V_nil _ _ _ _ _ | exact Kd.Q_nil _ _ _ _ _ | exact Kd.S_nil _ _ _ _ _, by repeat (first | (with_reducible first | exact HB.out | apply bAA | apply bNN | apply bDD | refine bSS ?_ GE221.out | refine bSS ?_ GE222.out) | exact HB.out)⟩
    ·replace c12 := Bool.eq_false_iff.mpr c12
     subst c12
     rw [if_neg (show ¬ (false = true) by decide)] at H
     by_cases c16 : 0 ≤ a1
     ·rw [if_pos c16] at H
      have c16b0 := eq_true c16
      have c16b1 := decide_eq_true c16
      clear c16
      obtain ⟨ji17, hji17⟩ : ∃ j_ : Int, (shl .i64 1 a1) = j_ := ⟨_, rfl⟩
      replace H : (if (ji17) = 0 then (none) else ((strings_Repeat.f (⟨#[0]⟩ : ByteArray) (Int.tmod (wrap64 ((ji17) - ((a0_4.size : Int) % (ji17)))) (ji17))).bind fun t224 => ((part_grow.f t224 ([] : List (S44)) a0_0 a0_1 a0_2 a0_3 a0_4 l0_5).bind fun bt225 => (if bt225.2.2.2.2.2.2 = 0 then (some (bt225.1, bt225.2.1, bt225.2.2.1, mx bt225.2.2.2.1 a1, bt225.2.2.2.2.1, bt225.2.2.2.2.2.1, 0)) else (some ((⟨#[]⟩ : ByteArray), 0, false, 0, (⟨#[]⟩ : ByteArray), ([] : List (S44)), bt225.2.2.2.2.2.2)))))) = some (r1, r2, r3, r4, r5, r6, r7) := by first | (rw [hji17] at H; exact H) | (simp only [hji17] at H ⊢; exact H)
      have hji17_ : (IntKind.i64.wrap (1 * 2 ^ min a1.toNat 64)) = ji17 := hji17
      have hji17z : a1 ≤ 64 → (IntKind.i64.wrap (1 * 2 ^ a1.toNat)) = ji17 := shl_small hji17
      have hji17u : (IntKind.i64.wrap (2 ^ min a1.toNat 64)) = ji17 := by have h_ := hji17_; rw [Int.one_mul] at h_; exact h_
      have hji17v : a1 ≤ 64 → (IntKind.i64.wrap (2 ^ a1.toNat)) = ji17 := fun hle_ => by have h_ := hji17z hle_; rw [Int.one_mul] at h_; exact h_
      have hji17y : (wrap64 (1 * 2 ^ min a1.toNat 64)) = ji17 := (i64_w _).symm.trans hji17_
      have hji17x : a1 ≤ 64 → (wrap64 (1 * 2 ^ a1.toNat)) = ji17 := fun h_ => (i64_w _).symm.trans (hji17z h_)
      by_cases c18 : (ji17) = 0
      ·rw [if_pos c18] at H
       exact absurd H (by simp)
      ·rw [if_neg c18] at H
       have c18b0 := beq_eq_false_iff_ne.mpr c18
       have c18b1 := bne_iff_ne.mpr c18
       replace H := Option.bind_eq_some_iff.mp H
       obtain ⟨t224, A190, H⟩ := H
       (try dsimp only at H)
       have A19 := Azz.mk A190
       clear A190
       replace H := Option.bind_eq_some_iff.mp H
       obtain ⟨⟨t225, t226, t227, t228, t229, t230, t233⟩, A200, H⟩ := H
       (try dsimp only at H)
       have A20 := Azz.mk A200
       clear A200
       by_cases c21 : t233 = 0
       ·rw [if_pos c21] at H
        have c21b0 := beq_iff_eq.mpr c21
        have c21b1 := bne_eq_false_iff_eq.mpr c21
        clear c21
        obtain ⟨ji22, hji22⟩ : ∃ j_ : Int, (mx t228 a1) = j_ := ⟨_, rfl⟩
        replace H : (some (t225, t226, t227, ji22, t229, t230, 0)) = some (r1, r2, r3, r4, r5, r6, r7) := by first | (rw [hji22] at H; exact H) | (simp only [hji22] at H ⊢; exact H)
        (try rw [hji22] at A19)
        (try rw [hji22] at A20)
        have hji22_ : (if t228 < a1 then a1 else t228) = ji22 := hji22
        simp only [Option.some.injEq, Prod.mk.injEq] at H
        obtain ⟨rfl, rfl, rfl, rfl, rfl, rfl, rfl⟩ := H
        try go_wp2
        have n0_ := Azz.mk (kDD BK221.out)
        have n1_ := Azz.mk (kDD BK222.out)
        have n2_ := Azz.mk (bDD HB.out)
        clear BK221
        clear BK222
        clear HB
        have BK221 := n0_
        have BK222 := n1_
        have HB := n2_
        clear n0_ n1_ n2_
        refine start_ (n := 19) (S := fun w' => True) (ds := []) #[false, false, false, false, false, false, false, false, false, false, false, false, false, false, false, false, false, false, false] (by kernel_rfl) rfl rfl trivial (fun hHeld => ?_); refine with_tabW part_Align.tab6 part_Align.bits6 (fun HT_ HW_ => ?_)
        generalize wc.drew = w23 at BK221 BK222 HB hHeld ⊢
        refine pure_ (i := 2) (N := some 25) (v := ?_) (a' := ?_) #[false, false, true, false, false, false, false, false, false, false, false, false, false, false, false, false, false, false, false] rfl rfl (any_of HT_.out (by kernel_rfl)) (fun _ _ _ h => h) (Or.inl ⟨by rfl, ?_⟩) ?_ ?_
        rotate_left
        ·intro w'
         go_simp
         with_reducible rfl
        rotate_left
        ·simp only [Act.put, List.setIfInBounds_toArray, List.set_cons_zero, List.set_cons_succ, i64_w, i32_w]
         rfl
        refine pure_ (i := 3) (N := some 26) (v := ?_) (a' := ?_) #[false, false, true, true, false, false, false, false, false, false, false, false, false, false, false, false, false, false, false] rfl rfl (any_of HT_.out (by kernel_rfl)) (fun _ _ _ h => h) (Or.inl ⟨by rfl, ?_⟩) ?_ ?_
        rotate_left
        ·intro w'
         go_simp
         with_reducible rfl
        rotate_left
        ·simp only [Act.put, List.setIfInBounds_toArray, List.set_cons_zero, List.set_cons_succ, i64_w, i32_w]
         rfl
        refine pure_ (i := 6) (N := some 29) (v := ?_) (a' := ?_) #[false, false, true, true, false, false, true, false, false, false, false, false, false, false, false, false, false, false, false] rfl rfl (any_of HT_.out (by kernel_rfl)) (fun _ _ _ h => h) (Or.inl ⟨by rfl, ?_⟩) ?_ ?_
        rotate_left
        ·intro w'
         go_simp
         with_reducible rfl
        rotate_left
        ·simp only [Act.put, List.setIfInBounds_toArray, List.set_cons_zero, List.set_cons_succ, i64_w, i32_w]
         rfl
        refine pure_ (i := 9) (N := some 32) (v := ?_) (a' := ?_) #[false, false, true, true, false, false, true, false, false, true, false, false, false, false, false, false, false, false, false] rfl rfl (any_of HT_.out (by kernel_rfl)) (fun _ _ _ h => h) (Or.inl ⟨by rfl, ?_⟩) ?_ ?_
        rotate_left
        ·intro w'
         go_simp
         with_reducible rfl
        rotate_left
        ·simp only [Act.put, List.setIfInBounds_toArray, List.set_cons_zero, List.set_cons_succ, i64_w, i32_w]
         rfl
        refine inv_at [0, 1, 4, 5, 7, 8, 10, 11, 12, 13, 14, 15, 16, 17, 18] (fun a0_ b a w' => ∃ (gB_ : Nat) (v231 : Value) (gb234 : Nat) (m12_ : Value) (m13_ : Value) (m14_ : Value) (m16_ : Value), a = putSel a0_ b [(0, 23, .agg #[.string a0_0, .int .i64 a0_1, .bool a0_2, .int .i64 a0_3, .string a0_4, .slice A0_5 l0_5.length c0_5]), (1, 24, .func (.func 33) #[] #[.pointer (some ⟨gB_, 0, none⟩)]), (4, 27, .string a0_4), (5, 28, .int .i64 (a0_4.size : Int)), (7, 30, .int .i64 ((a0_4.size : Int) % (ji17))), (8, 31, .int .i64 (wrap64 ((ji17) - ((a0_4.size : Int) % (ji17))))), (10, 33, .int .i64 (Int.tmod (wrap64 ((ji17) - ((a0_4.size : Int) % (ji17)))) (ji17))), (11, 34, .string t224), (12, 35, m12_), (13, 22, m13_), (14, 36, m14_), (15, 37, .int .i64 t233), (16, 7, m16_), (18, 8, .int .i64 t233)] ∧ (b 1 = true → b 12 = false → w'.heap[gB_]? = some (.cells #[.string a0_0, .int .i64 a0_1, .bool a0_2, .int .i64 a0_3, .string a0_4, .slice A0_5 l0_5.length c0_5] 24 (0, 0))) ∧ (w'.heap[gb221]? = some (.cells #[.string a0_0, .int .i64 a0_1, .bool a0_2, .int .i64 a0_3, .string a0_4, .slice A0_5 l0_5.length c0_5] 24 (0, 0))) ∧ (w'.heap[gb222]? = some (.cells #[.string (⟨#[]⟩ : ByteArray), .int .i64 0, .bool false, .int .i64 0, .string (⟨#[]⟩ : ByteArray), .slice none 0 0] 24 (0, 0))) ∧ (Below w.heap.size w w') ∧ (b 12 = true → Kd.R k44 44 w' w.heap.size (fun _ => True) v231 t230) ∧ (b 16 = true → b 17 = false → w'.heap[gb234]? = some (.cells #[.string (⟨#[]⟩ : ByteArray), .int .i64 0, .bool false, .int .i64 0, .string (⟨#[]⟩ : ByteArray), .slice none 0 0] 24 (0, 0))) ∧ (b 16 = true → w.heap.size ≤ gb234) ∧ (b 16 = true → w.heap.size ≤ gb234) ∧ (b 16 = true → gb221 ≠ gb234) ∧ (b 16 = true → gb234 ≠ gb221) ∧ (b 16 = true → gb222 ≠ gb234) ∧ (b 16 = true → gb234 ≠ gb222) ∧ (b 17 = true → w'.heap[gb234]? = some (.cells #[.string t225, .int .i64 t226, .bool t227, .int .i64 t228, .string t229, v231] 24 (0, 0))) ∧ (b 12 = true → (m12_ : Value) = .tuple #[.agg #[.string t225, .int .i64 t226, .bool t227, .int .i64 t228, .string t229, v231], .int .i64 t233]) ∧ (b 13 = true → (m13_ : Value) = .tuple #[.agg #[.string t225, .int .i64 t226, .bool t227, .int .i64 t228, .string t229, v231], .int .i64 t233]) ∧ (b 14 = true → (m14_ : Value) = .agg #[.string t225, .int .i64 t226, .bool t227, .int .i64 t228, .string t229, v231]) ∧ (b 16 = true → (m16_ : Value) = .pointer (some ⟨gb234, 0, none⟩))) HT_.out HW_.out (by kernel_rfl) (by kernel_rfl) ?_ ?_ ?_
        ·exact ⟨0, .bool false, 0, .bool false, .bool false, .bool false, .bool false, by simp only [putSel, Bool.false_eq_true, if_false], fun h_ => absurd h_ (by decide), BK221.out, BK222.out, HB.out, fun h_ => absurd h_ (by decide), fun h_ => absurd h_ (by decide), fun h_ => absurd h_ (by decide), fun h_ => absurd h_ (by decide), fun h_ => absurd h_ (by decide), fun h_ => absurd h_ (by decide), fun h_ => absurd h_ (by decide), fun h_ => absurd h_ (by decide), fun h_ => absurd h_ (by decide), fun h_ => absurd h_ (by decide), fun h_ => absurd h_ (by decide), fun h_ => absurd h_ (by decide), fun h_ => absurd h_ (by decide)⟩
        ·skip
         clear BK221 BK222 HB
         refine steps_cons ?_ ?_
         ·rintro b a w' ⟨gB_, v231, gb234, m12_, m13_, m14_, m16_, ha, Q_BX_, Q_BK221, Q_BK222, Q_HB, Q_HO232, Q_BK234, Q_GW234, Q_GE234, Q_NB221_234, Q_NB234_221, Q_NB222_234, Q_NB234_222, Q_BK234_e17, Q_X12_, Q_X13_, Q_X14_, Q_X16_⟩ hb_ hon hoff
          refine ⟨_, rfl, fun K hK => ?_⟩
          have e2 : a.tmps[2]? = some (.pointer (some ⟨gb221, 0, none⟩)) := by rw [ha]; exact (putSel_off rfl).trans rfl
          replace ha := Azz.mk ha
          have BK221 := Azz.mk Q_BK221
          have BK222 := Azz.mk Q_BK222
          have HB := Azz.mk Q_HB
          have hc0_ : w'.cell? ⟨gb221, 0, none⟩ = some (.string a0_0) := (kCC BK221.out 0).trans rfl
          have hc1_ : w'.cell? ⟨gb221, 1, none⟩ = some (.int .i64 a0_1) := (kCC BK221.out 1).trans rfl
          have hc2_ : w'.cell? ⟨gb221, 2, none⟩ = some (.bool a0_2) := (kCC BK221.out 2).trans rfl
          have hc3_ : w'.cell? ⟨gb221, 3, none⟩ = some (.int .i64 a0_3) := (kCC BK221.out 3).trans rfl
          have hc4_ : w'.cell? ⟨gb221, 4, none⟩ = some (.string a0_4) := (kCC BK221.out 4).trans rfl
          have hc5_ : w'.cell? ⟨gb221, 5, none⟩ = some (.slice A0_5 l0_5.length c0_5) := (kCC BK221.out 5).trans rfl
          refine value_ (w1 := w') (v := .agg #[.string a0_0, .int .i64 a0_1, .bool a0_2, .int .i64 a0_3, .string a0_4, .slice A0_5 l0_5.length c0_5]) (by rfl) rfl ?_ ?_
          ·go_simp
           (try simp only [i64_w])
           first | rfl | (exact Int.tmod_eq_emod_of_nonneg (Int.natCast_nonneg _)) | skip
          refine hK.out _ _ ⟨gB_, v231, gb234, m12_, m13_, m14_, m16_, (by rw [ha.out]; exact putSel_upk 0 hb_ rfl rfl rfl), Q_BX_, Q_BK221, Q_BK222, Q_HB, fun h0_ => absurd ((hoff 12 (by kernel_rfl)).symm.trans h0_) (by decide), Q_BK234, Q_GW234, Q_GE234, Q_NB221_234, Q_NB234_221, Q_NB222_234, Q_NB234_222, fun h0_ => absurd ((hoff 17 (by kernel_rfl)).symm.trans h0_) (by decide), fun h0_ => absurd ((hoff 12 (by kernel_rfl)).symm.trans h0_) (by decide), fun h0_ => absurd ((hoff 13 (by kernel_rfl)).symm.trans h0_) (by decide), fun h0_ => absurd ((hoff 14 (by kernel_rfl)).symm.trans h0_) (by decide), Q_X16_⟩
         refine steps_cons ?_ ?_
         ·rintro b a w' ⟨gB_, v231, gb234, m12_, m13_, m14_, m16_, ha, Q_BX_, Q_BK221, Q_BK222, Q_HB, Q_HO232, Q_BK234, Q_GW234, Q_GE234, Q_NB221_234, Q_NB234_221, Q_NB222_234, Q_NB234_222, Q_BK234_e17, Q_X12_, Q_X13_, Q_X14_, Q_X16_⟩ hb_ hon hoff
          refine ⟨_, rfl, fun K hK => ?_⟩
          have e23 : a.tmps[23]? = some (.agg #[.string a0_0, .int .i64 a0_1, .bool a0_2, .int .i64 a0_3, .string a0_4, .slice A0_5 l0_5.length c0_5]) := by rw [ha]; exact putSel_on (e := (0, 23, .agg #[.string a0_0, .int .i64 a0_1, .bool a0_2, .int .i64 a0_3, .string a0_4, .slice A0_5 l0_5.length c0_5])) 0 rfl rfl (hon 0 (by kernel_rfl)) rfl
          replace ha := Azz.mk ha
          have BK221 := Azz.mk Q_BK221
          have BK222 := Azz.mk Q_BK222
          have HB := Azz.mk Q_HB
          refine goes_ Tryz.func21 (by kernel_rfl) rfl #[.agg #[.string a0_0, .int .i64 a0_1, .bool a0_2, .int .i64 a0_3, .string a0_4, .slice A0_5 l0_5.length c0_5]] (by rfl) rfl rfl (by first | (simp only [List.map_toArray, List.map_cons, List.map_nil, Act.eval, Array.getD_eq_getD_getElem?, Option.getD_some, e23]; done) | (simp only [List.map_toArray, List.map_cons, List.map_nil, Act.eval, Array.getD_eq_getD_getElem?, Option.getD_some, e23]; rfl)) ?_
          refine (part_growing.calls _ _ _ _ _ _ _).mono ?_
          rintro e w8_ ⟨rfl, hw8_, hbx_⟩
          have hb : Below w'.heap.size w' w8_ := by rw [hw8_]; exact bAA (Below.refl _ _) _
          clear hw8_
          refine ⟨_, rfl, ?_⟩
          have n0_ := Azz.mk (blk_b hb BK221.out)
          have n1_ := Azz.mk (blk_b hb BK222.out)
          have n2_ := Azz.mk (bTT (by with_reducible repeat first | exact HB.out | apply bAA | apply bNN | apply bDD | refine bSS ?_ GE221.out | refine bSS ?_ GE222.out) hb)
          have z_BK234 := fun (h0_ : b 16 = true) (h1_ : b 17 = false) => (show w8_.heap[gb234]? = some (.cells #[.string (⟨#[]⟩ : ByteArray), .int .i64 0, .bool false, .int .i64 0, .string (⟨#[]⟩ : ByteArray), .slice none 0 0] 24 (0, 0)) from by first | exact (blk_b hb (Q_BK234 h0_ h1_)))
          clear BK221
          clear BK222
          clear HB
          have BK221 := n0_
          have BK222 := n1_
          have HB := n2_
          clear n0_ n1_ n2_
          (try clear hb)
          (try clear hb2)
          (try clear hk)
          (try clear hi)
          refine hK.out _ _ ⟨w'.heap.size, v231, gb234, m12_, m13_, m14_, m16_, (by rw [ha.out]; exact putSel_upk 1 hb_ rfl rfl rfl), fun _ _ => hbx_, (by (with_reducible repeat first | apply kNN | apply kDD | apply kAA); exact BK221.out), (by (with_reducible repeat first | apply kNN | apply kDD | apply kAA); exact BK222.out), (by with_reducible repeat first | exact HB.out | apply bAA | apply bNN | apply bDD | refine bSS ?_ GE221.out | refine bSS ?_ GE222.out), fun h0_ => absurd ((hoff 12 (by kernel_rfl)).symm.trans h0_) (by decide), z_BK234, Q_GW234, Q_GE234, Q_NB221_234, Q_NB234_221, Q_NB222_234, Q_NB234_222, fun h0_ => absurd ((hoff 17 (by kernel_rfl)).symm.trans h0_) (by decide), fun h0_ => absurd ((hoff 12 (by kernel_rfl)).symm.trans h0_) (by decide), fun h0_ => absurd ((hoff 13 (by kernel_rfl)).symm.trans h0_) (by decide), fun h0_ => absurd ((hoff 14 (by kernel_rfl)).symm.trans h0_) (by decide), Q_X16_⟩
         refine steps_cons ?_ ?_
         ·rintro b a w' ⟨gB_, v231, gb234, m12_, m13_, m14_, m16_, ha, Q_BX_, Q_BK221, Q_BK222, Q_HB, Q_HO232, Q_BK234, Q_GW234, Q_GE234, Q_NB221_234, Q_NB234_221, Q_NB222_234, Q_NB234_222, Q_BK234_e17, Q_X12_, Q_X13_, Q_X14_, Q_X16_⟩ hb_ hon hoff
          refine ⟨_, rfl, fun K hK => ?_⟩
          have e26 : a.tmps[26]? = some (.pointer (some ⟨gb221, 4, none⟩)) := by rw [ha]; exact (putSel_off rfl).trans rfl
          replace ha := Azz.mk ha
          have BK221 := Azz.mk Q_BK221
          have BK222 := Azz.mk Q_BK222
          have HB := Azz.mk Q_HB
          have hc0_ : w'.cell? ⟨gb221, 0, none⟩ = some (.string a0_0) := (kCC BK221.out 0).trans rfl
          have hc1_ : w'.cell? ⟨gb221, 1, none⟩ = some (.int .i64 a0_1) := (kCC BK221.out 1).trans rfl
          have hc2_ : w'.cell? ⟨gb221, 2, none⟩ = some (.bool a0_2) := (kCC BK221.out 2).trans rfl
          have hc3_ : w'.cell? ⟨gb221, 3, none⟩ = some (.int .i64 a0_3) := (kCC BK221.out 3).trans rfl
          have hc4_ : w'.cell? ⟨gb221, 4, none⟩ = some (.string a0_4) := (kCC BK221.out 4).trans rfl
          have hc5_ : w'.cell? ⟨gb221, 5, none⟩ = some (.slice A0_5 l0_5.length c0_5) := (kCC BK221.out 5).trans rfl
          refine value_ (w1 := w') (v := .string a0_4) (by rfl) rfl ?_ ?_
          ·go_simp
           (try simp only [i64_w])
           first | rfl | (exact Int.tmod_eq_emod_of_nonneg (Int.natCast_nonneg _)) | skip
          refine hK.out _ _ ⟨gB_, v231, gb234, m12_, m13_, m14_, m16_, (by rw [ha.out]; exact putSel_upk 2 hb_ rfl rfl rfl), Q_BX_, Q_BK221, Q_BK222, Q_HB, fun h0_ => absurd ((hoff 12 (by kernel_rfl)).symm.trans h0_) (by decide), Q_BK234, Q_GW234, Q_GE234, Q_NB221_234, Q_NB234_221, Q_NB222_234, Q_NB234_222, fun h0_ => absurd ((hoff 17 (by kernel_rfl)).symm.trans h0_) (by decide), fun h0_ => absurd ((hoff 12 (by kernel_rfl)).symm.trans h0_) (by decide), fun h0_ => absurd ((hoff 13 (by kernel_rfl)).symm.trans h0_) (by decide), fun h0_ => absurd ((hoff 14 (by kernel_rfl)).symm.trans h0_) (by decide), Q_X16_⟩
         refine steps_cons ?_ ?_
         ·rintro b a w' ⟨gB_, v231, gb234, m12_, m13_, m14_, m16_, ha, Q_BX_, Q_BK221, Q_BK222, Q_HB, Q_HO232, Q_BK234, Q_GW234, Q_GE234, Q_NB221_234, Q_NB234_221, Q_NB222_234, Q_NB234_222, Q_BK234_e17, Q_X12_, Q_X13_, Q_X14_, Q_X16_⟩ hb_ hon hoff
          refine ⟨_, rfl, fun K hK => ?_⟩
          have e27 : a.tmps[27]? = some (.string a0_4) := by rw [ha]; exact putSel_on (e := (4, 27, .string a0_4)) 2 rfl rfl (hon 4 (by kernel_rfl)) rfl
          replace ha := Azz.mk ha
          have BK221 := Azz.mk Q_BK221
          have BK222 := Azz.mk Q_BK222
          have HB := Azz.mk Q_HB
          refine value_ (w1 := w') (v := .int .i64 (a0_4.size : Int)) (by rfl) rfl ?_ ?_
          ·go_simp
           (try simp only [i64_w])
           first | rfl | (exact Int.tmod_eq_emod_of_nonneg (Int.natCast_nonneg _)) | skip
          refine hK.out _ _ ⟨gB_, v231, gb234, m12_, m13_, m14_, m16_, (by rw [ha.out]; exact putSel_upk 3 hb_ rfl rfl rfl), Q_BX_, Q_BK221, Q_BK222, Q_HB, fun h0_ => absurd ((hoff 12 (by kernel_rfl)).symm.trans h0_) (by decide), Q_BK234, Q_GW234, Q_GE234, Q_NB221_234, Q_NB234_221, Q_NB222_234, Q_NB234_222, fun h0_ => absurd ((hoff 17 (by kernel_rfl)).symm.trans h0_) (by decide), fun h0_ => absurd ((hoff 12 (by kernel_rfl)).symm.trans h0_) (by decide), fun h0_ => absurd ((hoff 13 (by kernel_rfl)).symm.trans h0_) (by decide), fun h0_ => absurd ((hoff 14 (by kernel_rfl)).symm.trans h0_) (by decide), Q_X16_⟩
         refine steps_cons ?_ ?_
         ·rintro b a w' ⟨gB_, v231, gb234, m12_, m13_, m14_, m16_, ha, Q_BX_, Q_BK221, Q_BK222, Q_HB, Q_HO232, Q_BK234, Q_GW234, Q_GE234, Q_NB221_234, Q_NB234_221, Q_NB222_234, Q_NB234_222, Q_BK234_e17, Q_X12_, Q_X13_, Q_X14_, Q_X16_⟩ hb_ hon hoff
          refine ⟨_, rfl, fun K hK => ?_⟩
          have e28 : a.tmps[28]? = some (.int .i64 (a0_4.size : Int)) := by rw [ha]; exact putSel_on (e := (5, 28, .int .i64 (a0_4.size : Int))) 3 rfl rfl (hon 5 (by kernel_rfl)) rfl
          have e29 : a.tmps[29]? = some (.int .i64 ji17) := by rw [ha]; exact (putSel_off rfl).trans rfl
          replace ha := Azz.mk ha
          have BK221 := Azz.mk Q_BK221
          have BK222 := Azz.mk Q_BK222
          have HB := Azz.mk Q_HB
          refine value_ (w1 := w') (v := .int .i64 ((a0_4.size : Int) % (ji17))) (by rfl) rfl ?_ ?_
          ·go_simp
           (try simp only [i64_w])
           first | rfl | (exact Int.tmod_eq_emod_of_nonneg (Int.natCast_nonneg _)) | skip
          refine hK.out _ _ ⟨gB_, v231, gb234, m12_, m13_, m14_, m16_, (by rw [ha.out]; exact putSel_upk 4 hb_ rfl rfl rfl), Q_BX_, Q_BK221, Q_BK222, Q_HB, fun h0_ => absurd ((hoff 12 (by kernel_rfl)).symm.trans h0_) (by decide), Q_BK234, Q_GW234, Q_GE234, Q_NB221_234, Q_NB234_221, Q_NB222_234, Q_NB234_222, fun h0_ => absurd ((hoff 17 (by kernel_rfl)).symm.trans h0_) (by decide), fun h0_ => absurd ((hoff 12 (by kernel_rfl)).symm.trans h0_) (by decide), fun h0_ => absurd ((hoff 13 (by kernel_rfl)).symm.trans h0_) (by decide), fun h0_ => absurd ((hoff 14 (by kernel_rfl)).symm.trans h0_) (by decide), Q_X16_⟩
         refine steps_cons ?_ ?_
         ·rintro b a w' ⟨gB_, v231, gb234, m12_, m13_, m14_, m16_, ha, Q_BX_, Q_BK221, Q_BK222, Q_HB, Q_HO232, Q_BK234, Q_GW234, Q_GE234, Q_NB221_234, Q_NB234_221, Q_NB222_234, Q_NB234_222, Q_BK234_e17, Q_X12_, Q_X13_, Q_X14_, Q_X16_⟩ hb_ hon hoff
          refine ⟨_, rfl, fun K hK => ?_⟩
          have e25 : a.tmps[25]? = some (.int .i64 ji17) := by rw [ha]; exact (putSel_off rfl).trans rfl
          have e30 : a.tmps[30]? = some (.int .i64 ((a0_4.size : Int) % (ji17))) := by rw [ha]; exact putSel_on (e := (7, 30, .int .i64 ((a0_4.size : Int) % (ji17)))) 4 rfl rfl (hon 7 (by kernel_rfl)) rfl
          replace ha := Azz.mk ha
          have BK221 := Azz.mk Q_BK221
          have BK222 := Azz.mk Q_BK222
          have HB := Azz.mk Q_HB
          refine value_ (w1 := w') (v := .int .i64 (wrap64 ((ji17) - ((a0_4.size : Int) % (ji17))))) (by rfl) rfl ?_ ?_
          ·go_simp
           (try simp only [i64_w])
           first | rfl | (exact Int.tmod_eq_emod_of_nonneg (Int.natCast_nonneg _)) | skip
          refine hK.out _ _ ⟨gB_, v231, gb234, m12_, m13_, m14_, m16_, (by rw [ha.out]; exact putSel_upk 5 hb_ rfl rfl rfl), Q_BX_, Q_BK221, Q_BK222, Q_HB, fun h0_ => absurd ((hoff 12 (by kernel_rfl)).symm.trans h0_) (by decide), Q_BK234, Q_GW234, Q_GE234, Q_NB221_234, Q_NB234_221, Q_NB222_234, Q_NB234_222, fun h0_ => absurd ((hoff 17 (by kernel_rfl)).symm.trans h0_) (by decide), fun h0_ => absurd ((hoff 12 (by kernel_rfl)).symm.trans h0_) (by decide), fun h0_ => absurd ((hoff 13 (by kernel_rfl)).symm.trans h0_) (by decide), fun h0_ => absurd ((hoff 14 (by kernel_rfl)).symm.trans h0_) (by decide), Q_X16_⟩
         refine steps_cons ?_ ?_
         ·rintro b a w' ⟨gB_, v231, gb234, m12_, m13_, m14_, m16_, ha, Q_BX_, Q_BK221, Q_BK222, Q_HB, Q_HO232, Q_BK234, Q_GW234, Q_GE234, Q_NB221_234, Q_NB234_221, Q_NB222_234, Q_NB234_222, Q_BK234_e17, Q_X12_, Q_X13_, Q_X14_, Q_X16_⟩ hb_ hon hoff
          refine ⟨_, rfl, fun K hK => ?_⟩
          have e31 : a.tmps[31]? = some (.int .i64 (wrap64 ((ji17) - ((a0_4.size : Int) % (ji17))))) := by rw [ha]; exact putSel_on (e := (8, 31, .int .i64 (wrap64 ((ji17) - ((a0_4.size : Int) % (ji17)))))) 5 rfl rfl (hon 8 (by kernel_rfl)) rfl
          have e32 : a.tmps[32]? = some (.int .i64 ji17) := by rw [ha]; exact (putSel_off rfl).trans rfl
          replace ha := Azz.mk ha
          have BK221 := Azz.mk Q_BK221
          have BK222 := Azz.mk Q_BK222
          have HB := Azz.mk Q_HB
          refine value_ (w1 := w') (v := .int .i64 (Int.tmod (wrap64 ((ji17) - ((a0_4.size : Int) % (ji17)))) (ji17))) (by rfl) rfl ?_ ?_
          ·go_simp
           (try simp only [i64_w])
           first | rfl | (exact Int.tmod_eq_emod_of_nonneg (Int.natCast_nonneg _)) | skip
          refine hK.out _ _ ⟨gB_, v231, gb234, m12_, m13_, m14_, m16_, (by rw [ha.out]; exact putSel_upk 6 hb_ rfl rfl rfl), Q_BX_, Q_BK221, Q_BK222, Q_HB, fun h0_ => absurd ((hoff 12 (by kernel_rfl)).symm.trans h0_) (by decide), Q_BK234, Q_GW234, Q_GE234, Q_NB221_234, Q_NB234_221, Q_NB222_234, Q_NB234_222, fun h0_ => absurd ((hoff 17 (by kernel_rfl)).symm.trans h0_) (by decide), fun h0_ => absurd ((hoff 12 (by kernel_rfl)).symm.trans h0_) (by decide), fun h0_ => absurd ((hoff 13 (by kernel_rfl)).symm.trans h0_) (by decide), fun h0_ => absurd ((hoff 14 (by kernel_rfl)).symm.trans h0_) (by decide), Q_X16_⟩
         refine steps_cons ?_ ?_
         ·rintro b a w' ⟨gB_, v231, gb234, m12_, m13_, m14_, m16_, ha, Q_BX_, Q_BK221, Q_BK222, Q_HB, Q_HO232, Q_BK234, Q_GW234, Q_GE234, Q_NB221_234, Q_NB234_221, Q_NB222_234, Q_NB234_222, Q_BK234_e17, Q_X12_, Q_X13_, Q_X14_, Q_X16_⟩ hb_ hon hoff
          refine ⟨_, rfl, fun K hK => ?_⟩
          have e33 : a.tmps[33]? = some (.int .i64 (Int.tmod (wrap64 ((ji17) - ((a0_4.size : Int) % (ji17)))) (ji17))) := by rw [ha]; exact putSel_on (e := (10, 33, .int .i64 (Int.tmod (wrap64 ((ji17) - ((a0_4.size : Int) % (ji17)))) (ji17)))) 6 rfl rfl (hon 10 (by kernel_rfl)) rfl
          replace ha := Azz.mk ha
          have BK221 := Azz.mk Q_BK221
          have BK222 := Azz.mk Q_BK222
          have HB := Azz.mk Q_HB
          refine goes_ Tryz.func22 (by kernel_rfl) rfl #[.string (⟨#[0]⟩ : ByteArray), .int .i64 (Int.tmod (wrap64 ((ji17) - ((a0_4.size : Int) % (ji17)))) (ji17))] (by rfl) rfl rfl (by first | (simp only [List.map_toArray, List.map_cons, List.map_nil, Act.eval, Array.getD_eq_getD_getElem?, Option.getD_some, e33]; done) | (simp only [List.map_toArray, List.map_cons, List.map_nil, Act.eval, Array.getD_eq_getD_getElem?, Option.getD_some, e33]; rfl)) ?_
          with_reducible refine (strings_Repeat.calls (⟨#[0]⟩ : ByteArray) (Int.tmod (wrap64 ((ji17) - ((a0_4.size : Int) % (ji17)))) (ji17)) t224 _ A19.out).mono ?_
          rintro e w24 ⟨rfl, hb⟩
          refine ⟨_, rfl, ?_⟩
          have z_BX := fun (h0_ : b 1 = true) (h1_ : b 12 = false) => (show w24.heap[gB_]? = some (.cells #[.string a0_0, .int .i64 a0_1, .bool a0_2, .int .i64 a0_3, .string a0_4, .slice A0_5 l0_5.length c0_5] 24 (0, 0)) from kBB (g := gB_) (o := .cells #[.string a0_0, .int .i64 a0_1, .bool a0_2, .int .i64 a0_3, .string a0_4, .slice A0_5 l0_5.length c0_5] 24 (0, 0)) (Q_BX_ h0_ h1_) hb)
          have n0_ := Azz.mk (blk_b hb BK221.out)
          have n1_ := Azz.mk (blk_b hb BK222.out)
          have n2_ := Azz.mk (bTT (by with_reducible repeat first | exact HB.out | apply bAA | apply bNN | apply bDD | refine bSS ?_ GE221.out | refine bSS ?_ GE222.out) hb)
          have z_BK234 := fun (h0_ : b 16 = true) (h1_ : b 17 = false) => (show w24.heap[gb234]? = some (.cells #[.string (⟨#[]⟩ : ByteArray), .int .i64 0, .bool false, .int .i64 0, .string (⟨#[]⟩ : ByteArray), .slice none 0 0] 24 (0, 0)) from by first | exact (blk_b hb (Q_BK234 h0_ h1_)))
          clear BK221
          clear BK222
          clear HB
          have BK221 := n0_
          have BK222 := n1_
          have HB := n2_
          clear n0_ n1_ n2_
          (try clear hb)
          (try clear hb2)
          (try clear hk)
          (try clear hi)
          refine hK.out _ _ ⟨gB_, v231, gb234, m12_, m13_, m14_, m16_, (by rw [ha.out]; exact putSel_upk 7 hb_ rfl rfl rfl), z_BX, (by (with_reducible repeat first | apply kNN | apply kDD | apply kAA); exact BK221.out), (by (with_reducible repeat first | apply kNN | apply kDD | apply kAA); exact BK222.out), (by with_reducible repeat first | exact HB.out | apply bAA | apply bNN | apply bDD | refine bSS ?_ GE221.out | refine bSS ?_ GE222.out), fun h0_ => absurd ((hoff 12 (by kernel_rfl)).symm.trans h0_) (by decide), z_BK234, Q_GW234, Q_GE234, Q_NB221_234, Q_NB234_221, Q_NB222_234, Q_NB234_222, fun h0_ => absurd ((hoff 17 (by kernel_rfl)).symm.trans h0_) (by decide), fun h0_ => absurd ((hoff 12 (by kernel_rfl)).symm.trans h0_) (by decide), fun h0_ => absurd ((hoff 13 (by kernel_rfl)).symm.trans h0_) (by decide), fun h0_ => absurd ((hoff 14 (by kernel_rfl)).symm.trans h0_) (by decide), Q_X16_⟩
         refine steps_cons ?_ ?_
         ·rintro b a w' ⟨gB_, v231, gb234, m12_, m13_, m14_, m16_, ha, Q_BX_, Q_BK221, Q_BK222, Q_HB, Q_HO232, Q_BK234, Q_GW234, Q_GE234, Q_NB221_234, Q_NB234_221, Q_NB222_234, Q_NB234_222, Q_BK234_e17, Q_X12_, Q_X13_, Q_X14_, Q_X16_⟩ hb_ hon hoff
          refine ⟨_, rfl, fun K hK => ?_⟩
          have e34 : a.tmps[34]? = some (.string t224) := by rw [ha]; exact putSel_on (e := (11, 34, .string t224)) 7 rfl rfl (hon 11 (by kernel_rfl)) rfl
          have e24 : a.tmps[24]? = some (.func (.func 33) #[] #[.pointer (some ⟨gB_, 0, none⟩)]) := by rw [ha]; exact putSel_on (e := (1, 24, .func (.func 33) #[] #[.pointer (some ⟨gB_, 0, none⟩)])) 1 rfl rfl (hon 1 (by kernel_rfl)) rfl
          replace ha := Azz.mk ha
          have BK221 := Azz.mk Q_BK221
          have BK222 := Azz.mk Q_BK222
          have HB := Azz.mk Q_HB
          refine part_grow.goesV (x := .tmp 24) (caps := #[.pointer (some ⟨gB_, 0, none⟩)]) Tryz.func33 (by kernel_rfl) rfl #[.string t224, .slice none 0 0, .pointer (some ⟨gB_, 0, none⟩)] (by simp only [Act.eval, Array.getD_eq_getD_getElem?, Option.getD_some, e24]) (by rfl) rfl rfl (by first | (simp only [List.map_toArray, List.map_cons, List.map_nil, Act.eval, Array.getD_eq_getD_getElem?, Option.getD_some, e34, e24]; done) | (simp only [List.map_toArray, List.map_cons, List.map_nil, Act.eval, Array.getD_eq_getD_getElem?, Option.getD_some, e34, e24]; rfl)) ?_
          refine (part_grow.calls t224 _ _ ([] : List (S44)) a0_0 a0_1 a0_2 a0_3 a0_4 A0_5 c0_5 l0_5 t225 t226 t227 t228 t229 t230 t233 _ gB_ (Q_BX_ (hon 1 (by kernel_rfl)) hb_) ?side1 ?side2 ?side3 ?side4 A20.out).mono ?_
          (case side1 => exact Kd.C_nil _ _)
          (case side2 => exact Nat.le_refl _)
          (case side3 => repeat (first | exact (Kd.C_below HR0_5.out HB.out) | (with_reducible refine Kd.C_alloc ?_ _) | (with_reducible refine Kd.C_drewN ?_ _) | (with_reducible refine Kd.C_drew ?_)))
          (case side4 => exact HC0_5.out)
          rintro e w26 ⟨v231, rfl, ho0, hb⟩
          refine ⟨_, rfl, ?_⟩
          have n0_ := Azz.mk (Kd.R_lower ho0 (bZZ (by with_reducible repeat first | exact HB.out | apply bAA | apply bNN | apply bDD | refine bSS ?_ GE221.out | refine bSS ?_ GE222.out)))
          have n1_ := Azz.mk (blk_b hb BK221.out)
          have n2_ := Azz.mk (blk_b hb BK222.out)
          have n3_ := Azz.mk (bTT (by with_reducible repeat first | exact HB.out | apply bAA | apply bNN | apply bDD | refine bSS ?_ GE221.out | refine bSS ?_ GE222.out) hb)
          have z_BK234 := fun (h0_ : b 16 = true) (h1_ : b 17 = false) => (show w26.heap[gb234]? = some (.cells #[.string (⟨#[]⟩ : ByteArray), .int .i64 0, .bool false, .int .i64 0, .string (⟨#[]⟩ : ByteArray), .slice none 0 0] 24 (0, 0)) from by first | exact (blk_b hb (Q_BK234 h0_ h1_)))
          clear BK221
          clear BK222
          clear HB
          have HO232 := n0_
          have BK221 := n1_
          have BK222 := n2_
          have HB := n3_
          clear n0_ n1_ n2_ n3_
          (try clear hb)
          (try clear hb2)
          (try clear hk)
          (try clear hi)
          (try clear ho0)
          refine hK.out _ _ ⟨gB_, v231, gb234, (.tuple #[.agg #[.string t225, .int .i64 t226, .bool t227, .int .i64 t228, .string t229, v231], .int .i64 t233]), m13_, m14_, m16_, (by rw [ha.out]; exact putSel_upk 8 hb_ rfl rfl rfl), fun _ h_ => absurd (h_.symm.trans (up_self _ _)) (by decide), (by (with_reducible repeat first | apply kNN | apply kDD | apply kAA); exact BK221.out), (by (with_reducible repeat first | apply kNN | apply kDD | apply kAA); exact BK222.out), (by with_reducible repeat first | exact HB.out | apply bAA | apply bNN | apply bDD | refine bSS ?_ GE221.out | refine bSS ?_ GE222.out), fun _ => (by (with_reducible repeat (first | apply Kd.R_alloc | apply Kd.R_drewN | apply Kd.R_drew)); exact HO232.out), z_BK234, Q_GW234, Q_GE234, Q_NB221_234, Q_NB234_221, Q_NB222_234, Q_NB234_222, fun h0_ => absurd ((hoff 17 (by kernel_rfl)).symm.trans h0_) (by decide), fun _ => rfl, fun h0_ => absurd ((hoff 13 (by kernel_rfl)).symm.trans h0_) (by decide), fun h0_ => absurd ((hoff 14 (by kernel_rfl)).symm.trans h0_) (by decide), Q_X16_⟩
         refine steps_cons ?_ ?_
         ·rintro b a w' ⟨gB_, v231, gb234, m12_, m13_, m14_, m16_, ha, Q_BX_, Q_BK221, Q_BK222, Q_HB, Q_HO232, Q_BK234, Q_GW234, Q_GE234, Q_NB221_234, Q_NB234_221, Q_NB222_234, Q_NB234_222, Q_BK234_e17, Q_X12_, Q_X13_, Q_X14_, Q_X16_⟩ hb_ hon hoff
          refine ⟨_, rfl, fun K hK => ?_⟩
          have e35 : a.tmps[35]? = some (m12_) := by rw [ha]; exact putSel_on (e := (12, 35, m12_)) 8 rfl rfl (hon 12 (by kernel_rfl)) rfl
          rw [Q_X12_ (hon 12 (by kernel_rfl))] at e35
          replace ha := Azz.mk ha
          have BK221 := Azz.mk Q_BK221
          have BK222 := Azz.mk Q_BK222
          have HB := Azz.mk Q_HB
          have HO232 := Azz.mk (Q_HO232 (hon 12 (by kernel_rfl)))
          refine value_ (w1 := w') (v := .tuple #[.agg #[.string t225, .int .i64 t226, .bool t227, .int .i64 t228, .string t229, v231], .int .i64 t233]) (by rfl) rfl ?_ ?_
          ·go_simp
           (try simp only [i64_w])
           first | rfl | (exact Int.tmod_eq_emod_of_nonneg (Int.natCast_nonneg _)) | skip
          refine hK.out _ _ ⟨gB_, v231, gb234, m12_, (.tuple #[.agg #[.string t225, .int .i64 t226, .bool t227, .int .i64 t228, .string t229, v231], .int .i64 t233]), m14_, m16_, (by rw [ha.out]; exact putSel_upk 9 hb_ rfl rfl rfl), Q_BX_, Q_BK221, Q_BK222, Q_HB, Q_HO232, Q_BK234, Q_GW234, Q_GE234, Q_NB221_234, Q_NB234_221, Q_NB222_234, Q_NB234_222, fun h0_ => absurd ((hoff 17 (by kernel_rfl)).symm.trans h0_) (by decide), Q_X12_, fun _ => rfl, fun h0_ => absurd ((hoff 14 (by kernel_rfl)).symm.trans h0_) (by decide), Q_X16_⟩
         refine steps_cons ?_ ?_
         ·rintro b a w' ⟨gB_, v231, gb234, m12_, m13_, m14_, m16_, ha, Q_BX_, Q_BK221, Q_BK222, Q_HB, Q_HO232, Q_BK234, Q_GW234, Q_GE234, Q_NB221_234, Q_NB234_221, Q_NB222_234, Q_NB234_222, Q_BK234_e17, Q_X12_, Q_X13_, Q_X14_, Q_X16_⟩ hb_ hon hoff
          refine ⟨_, rfl, fun K hK => ?_⟩
          have e22 : a.tmps[22]? = some (m13_) := by rw [ha]; exact putSel_on (e := (13, 22, m13_)) 9 rfl rfl (hon 13 (by kernel_rfl)) rfl
          rw [Q_X13_ (hon 13 (by kernel_rfl))] at e22
          replace ha := Azz.mk ha
          have BK221 := Azz.mk Q_BK221
          have BK222 := Azz.mk Q_BK222
          have HB := Azz.mk Q_HB
          have HO232 := Azz.mk (Q_HO232 (hon 12 (by kernel_rfl)))
          refine value_ (w1 := w') (v := .agg #[.string t225, .int .i64 t226, .bool t227, .int .i64 t228, .string t229, v231]) (by rfl) rfl ?_ ?_
          ·go_simp
           (try simp only [i64_w])
           first | rfl | (exact Int.tmod_eq_emod_of_nonneg (Int.natCast_nonneg _)) | skip
          refine hK.out _ _ ⟨gB_, v231, gb234, m12_, m13_, (.agg #[.string t225, .int .i64 t226, .bool t227, .int .i64 t228, .string t229, v231]), m16_, (by rw [ha.out]; exact putSel_upk 10 hb_ rfl rfl rfl), Q_BX_, Q_BK221, Q_BK222, Q_HB, Q_HO232, Q_BK234, Q_GW234, Q_GE234, Q_NB221_234, Q_NB234_221, Q_NB222_234, Q_NB234_222, fun h0_ => absurd ((hoff 17 (by kernel_rfl)).symm.trans h0_) (by decide), Q_X12_, Q_X13_, fun _ => rfl, Q_X16_⟩
         refine steps_cons ?_ ?_
         ·rintro b a w' ⟨gB_, v231, gb234, m12_, m13_, m14_, m16_, ha, Q_BX_, Q_BK221, Q_BK222, Q_HB, Q_HO232, Q_BK234, Q_GW234, Q_GE234, Q_NB221_234, Q_NB234_221, Q_NB222_234, Q_NB234_222, Q_BK234_e17, Q_X12_, Q_X13_, Q_X14_, Q_X16_⟩ hb_ hon hoff
          refine ⟨_, rfl, fun K hK => ?_⟩
          have e22 : a.tmps[22]? = some (m13_) := by rw [ha]; exact putSel_on (e := (13, 22, m13_)) 9 rfl rfl (hon 13 (by kernel_rfl)) rfl
          rw [Q_X13_ (hon 13 (by kernel_rfl))] at e22
          replace ha := Azz.mk ha
          have BK221 := Azz.mk Q_BK221
          have BK222 := Azz.mk Q_BK222
          have HB := Azz.mk Q_HB
          have HO232 := Azz.mk (Q_HO232 (hon 12 (by kernel_rfl)))
          refine value_ (w1 := w') (v := .int .i64 t233) (by rfl) rfl ?_ ?_
          ·go_simp
           (try simp only [i64_w])
           first | rfl | (exact Int.tmod_eq_emod_of_nonneg (Int.natCast_nonneg _)) | skip
          refine hK.out _ _ ⟨gB_, v231, gb234, m12_, m13_, m14_, m16_, (by rw [ha.out]; exact putSel_upk 11 hb_ rfl rfl rfl), Q_BX_, Q_BK221, Q_BK222, Q_HB, Q_HO232, Q_BK234, Q_GW234, Q_GE234, Q_NB221_234, Q_NB234_221, Q_NB222_234, Q_NB234_222, Q_BK234_e17, Q_X12_, Q_X13_, Q_X14_, Q_X16_⟩
         refine steps_cons ?_ ?_
         ·rintro b a w' ⟨gB_, v231, gb234, m12_, m13_, m14_, m16_, ha, Q_BX_, Q_BK221, Q_BK222, Q_HB, Q_HO232, Q_BK234, Q_GW234, Q_GE234, Q_NB221_234, Q_NB234_221, Q_NB222_234, Q_NB234_222, Q_BK234_e17, Q_X12_, Q_X13_, Q_X14_, Q_X16_⟩ hb_ hon hoff
          refine ⟨_, rfl, fun K hK => ?_⟩
          replace ha := Azz.mk ha
          have BK221 := Azz.mk Q_BK221
          have BK222 := Azz.mk Q_BK222
          have HB := Azz.mk Q_HB
          refine box_step ?hg (N := 7) ?hd (cs := #[.string (⟨#[]⟩ : ByteArray), .int .i64 0, .bool false, .int .i64 0, .string (⟨#[]⟩ : ByteArray), .slice none 0 0]) (t := 24) ?hr ?_; (case hd => rfl); (case hg => rfl); (case hr => first | (go_simp; done) | (go_simp; rfl))
          intro gb234 hg w24 hbox hb
          have z_BX := fun (h0_ : b 1 = true) (h1_ : b 12 = false) => (show w24.heap[gB_]? = some (.cells #[.string a0_0, .int .i64 a0_1, .bool a0_2, .int .i64 a0_3, .string a0_4, .slice A0_5 l0_5.length c0_5] 24 (0, 0)) from kBB (g := gB_) (o := .cells #[.string a0_0, .int .i64 a0_1, .bool a0_2, .int .i64 a0_3, .string a0_4, .slice A0_5 l0_5.length c0_5] 24 (0, 0)) (Q_BX_ h0_ h1_) hb)
          have n0_ := Azz.mk (blk_b hb BK221.out)
          have n1_ := Azz.mk (blk_b hb BK222.out)
          have n2_ := Azz.mk (bTT (by with_reducible repeat first | exact HB.out | apply bAA | apply bNN | apply bDD | refine bSS ?_ GE221.out | refine bSS ?_ GE222.out) hb)
          have n3_ := Azz.mk (hbox)
          have n4_ := Azz.mk ((by rw [hg]; exact (bZZ (by with_reducible repeat first | exact HB.out | apply bAA | apply bNN | apply bDD | refine bSS ?_ GE221.out | refine bSS ?_ GE222.out)) : w.heap.size ≤ gb234))
          have n5_ := Azz.mk ((by rw [hg]; exact (bZZ (by with_reducible repeat first | exact HB.out | apply bAA | apply bNN | apply bDD | refine bSS ?_ GE221.out | refine bSS ?_ GE222.out)) : w.heap.size ≤ gb234))
          have n6_ := Azz.mk ((by rw [hg]; exact Nat.ne_of_lt (blk_lt BK221.out) : gb221 ≠ gb234))
          have n7_ := Azz.mk ((by rw [hg]; exact Nat.ne_of_gt (blk_lt BK221.out) : gb234 ≠ gb221))
          have n8_ := Azz.mk ((by rw [hg]; exact Nat.ne_of_lt (blk_lt BK222.out) : gb222 ≠ gb234))
          have n9_ := Azz.mk ((by rw [hg]; exact Nat.ne_of_gt (blk_lt BK222.out) : gb234 ≠ gb222))
          have z_HO232 := fun (h0_ : b 12 = true) => (show Kd.R k44 44 w24 w.heap.size (fun _ => True) v231 t230 from by first | exact (Kd.R_below (by (with_reducible repeat (first | apply Kd.R_alloc | apply Kd.R_drewN | apply Kd.R_drew)); exact (Q_HO232 h0_)) hb) | exact Kd.R_mono (Kd.R_below (by (with_reducible repeat (first | apply Kd.R_alloc | apply Kd.R_drewN | apply Kd.R_drew)); exact (Q_HO232 h0_)) hb) (fun _ h_ => by first | trivial | exact h_ | exact h_.1))
          clear BK221
          clear BK222
          clear HB
          have BK221 := n0_
          have BK222 := n1_
          have HB := n2_
          have BK234 := n3_
          have GW234 := n4_
          have GE234 := n5_
          have NB221_234 := n6_
          have NB234_221 := n7_
          have NB222_234 := n8_
          have NB234_222 := n9_
          clear n0_ n1_ n2_ n3_ n4_ n5_ n6_ n7_ n8_ n9_
          clear hb hbox hg
          refine hK.out _ _ ⟨gB_, v231, gb234, m12_, m13_, m14_, (.pointer (some ⟨gb234, 0, none⟩)), (by rw [ha.out]; exact putSel_upk 12 hb_ rfl rfl rfl), z_BX, (by (with_reducible repeat first | apply kNN | apply kDD | apply kAA); exact BK221.out), (by (with_reducible repeat first | apply kNN | apply kDD | apply kAA); exact BK222.out), (by with_reducible repeat first | exact HB.out | apply bAA | apply bNN | apply bDD | refine bSS ?_ GE221.out | refine bSS ?_ GE222.out | refine bSS ?_ GE234.out), z_HO232, fun _ _ => (by (with_reducible repeat first | apply kNN | apply kDD | apply kAA); exact BK234.out), fun _ => GW234.out, fun _ => GE234.out, fun _ => NB221_234.out, fun _ => NB234_221.out, fun _ => NB222_234.out, fun _ => NB234_222.out, fun h0_ => absurd ((hoff 17 (by kernel_rfl)).symm.trans h0_) (by decide), Q_X12_, Q_X13_, Q_X14_, fun _ => rfl⟩
         refine steps_cons ?_ ?_
         ·rintro b a w' ⟨gB_, v231, gb234, m12_, m13_, m14_, m16_, ha, Q_BX_, Q_BK221, Q_BK222, Q_HB, Q_HO232, Q_BK234, Q_GW234, Q_GE234, Q_NB221_234, Q_NB234_221, Q_NB222_234, Q_NB234_222, Q_BK234_e17, Q_X12_, Q_X13_, Q_X14_, Q_X16_⟩ hb_ hon hoff
          refine ⟨_, rfl, fun K hK => ?_⟩
          have e7 : a.tmps[7]? = some (m16_) := by rw [ha]; exact putSel_on (e := (16, 7, m16_)) 12 rfl rfl (hon 16 (by kernel_rfl)) rfl
          rw [Q_X16_ (hon 16 (by kernel_rfl))] at e7
          have e36 : a.tmps[36]? = some (m14_) := by rw [ha]; exact putSel_on (e := (14, 36, m14_)) 10 rfl rfl (hon 14 (by kernel_rfl)) rfl
          rw [Q_X14_ (hon 14 (by kernel_rfl))] at e36
          replace ha := Azz.mk ha
          have BK221 := Azz.mk Q_BK221
          have BK222 := Azz.mk Q_BK222
          have HB := Azz.mk Q_HB
          have HO232 := Azz.mk (Q_HO232 (hon 12 (by kernel_rfl)))
          have BK234 := Azz.mk (Q_BK234 (hon 16 (by kernel_rfl)) hb_)
          have GW234 := Azz.mk (Q_GW234 (hon 16 (by kernel_rfl)))
          have GE234 := Azz.mk (Q_GE234 (hon 16 (by kernel_rfl)))
          have NB221_234 := Azz.mk (Q_NB221_234 (hon 16 (by kernel_rfl)))
          have NB234_221 := Azz.mk (Q_NB234_221 (hon 16 (by kernel_rfl)))
          have NB222_234 := Azz.mk (Q_NB222_234 (hon 16 (by kernel_rfl)))
          have NB234_222 := Azz.mk (Q_NB234_222 (hon 16 (by kernel_rfl)))
          obtain ⟨Ao33, co33, eo33⟩ := Kd.R_slice HO232.out
          (first | subst eo33 | (injection eo33 with f1_ f2_ f3_; have f4_ := f1_.symm; have f5_ := f3_.symm; clear f1_ f2_ f3_; subst f4_; subst f5_))
          have hs28 : w'.cell? ⟨gb234, 0, none⟩ = some (.string (⟨#[]⟩ : ByteArray)) := (kCC BK234.out 0).trans rfl
          have hfs28 := kFF BK234.out 0
          have hns28_0 := NB221_234.out
          have hns28_1 := NB222_234.out
          have hms28_0 := NB234_221.out
          have hms28_1 := NB234_222.out
          have hs29 : w'.cell? ⟨gb234, 1, none⟩ = some (.int .i64 0) := (kCC BK234.out 1).trans rfl
          have hfs29 := kFF BK234.out 1
          have hns29_0 := NB221_234.out
          have hns29_1 := NB222_234.out
          have hms29_0 := NB234_221.out
          have hms29_1 := NB234_222.out
          have hs30 : w'.cell? ⟨gb234, 2, none⟩ = some (.bool false) := (kCC BK234.out 2).trans rfl
          have hfs30 := kFF BK234.out 2
          have hns30_0 := NB221_234.out
          have hns30_1 := NB222_234.out
          have hms30_0 := NB234_221.out
          have hms30_1 := NB234_222.out
          have hs31 : w'.cell? ⟨gb234, 3, none⟩ = some (.int .i64 0) := (kCC BK234.out 3).trans rfl
          have hfs31 := kFF BK234.out 3
          have hns31_0 := NB221_234.out
          have hns31_1 := NB222_234.out
          have hms31_0 := NB234_221.out
          have hms31_1 := NB234_222.out
          have hs32 : w'.cell? ⟨gb234, 4, none⟩ = some (.string (⟨#[]⟩ : ByteArray)) := (kCC BK234.out 4).trans rfl
          have hfs32 := kFF BK234.out 4
          have hns32_0 := NB221_234.out
          have hns32_1 := NB222_234.out
          have hms32_0 := NB234_221.out
          have hms32_1 := NB234_222.out
          have hs34 : w'.cell? ⟨gb234, 5, none⟩ = some (.slice none 0 0) := (kCC BK234.out 5).trans rfl
          have hfs34 := kFF BK234.out 5
          have hns34_0 := NB221_234.out
          have hns34_1 := NB222_234.out
          have hms34_0 := NB234_221.out
          have hms34_1 := NB234_222.out
          refine skip_ (w1 := ?_) (by rfl) rfl ?_ ?_
          rotate_left
          ·go_simp
           rfl
          refine hK.out _ _ ⟨gB_, .slice Ao33 t230.length co33, gb234, m12_, m13_, m14_, m16_, (by rw [ha.out]; exact putSel_none (v := undef) rfl), fun _ h1_ => absurd ((hon 12 (by kernel_rfl)).symm.trans h1_) (by decide), (by refine far6 NB221_234.out ?_; (with_reducible repeat first | apply kNN | apply kDD | apply kAA); exact BK221.out), (by refine far6 NB222_234.out ?_; (with_reducible repeat first | apply kNN | apply kDD | apply kAA); exact BK222.out), (by with_reducible repeat first | exact HB.out | apply bAA | apply bNN | apply bDD | refine bSS ?_ GE221.out | refine bSS ?_ GE222.out | refine bSS ?_ GE234.out), fun _ => (by (with_reducible repeat (first | apply Kd.R_alloc | apply Kd.R_drewN | apply Kd.R_drew)); exact Kd.R_mono (Kd.farR6 (Kd.R_types HO232.out BK234.out (by decide)) (fun _ hk => hk.2)) (fun _ hk => trivial)), fun _ h1_ => absurd ((up_self b 17).symm.trans h1_) (by decide), fun _ => GW234.out, fun _ => GE234.out, fun _ => NB221_234.out, fun _ => NB234_221.out, fun _ => NB222_234.out, fun _ => NB234_222.out, fun _ => (by apply put6; (with_reducible repeat first | apply kNN | apply kDD | apply kAA); exact BK234.out), Q_X12_, Q_X13_, Q_X14_, Q_X16_⟩
         refine steps_cons ?_ ?_
         ·rintro b a w' ⟨gB_, v231, gb234, m12_, m13_, m14_, m16_, ha, Q_BX_, Q_BK221, Q_BK222, Q_HB, Q_HO232, Q_BK234, Q_GW234, Q_GE234, Q_NB221_234, Q_NB234_221, Q_NB222_234, Q_NB234_222, Q_BK234_e17, Q_X12_, Q_X13_, Q_X14_, Q_X16_⟩ hb_ hon hoff
          refine ⟨_, rfl, fun K hK => ?_⟩
          have e37 : a.tmps[37]? = some (.int .i64 t233) := by rw [ha]; exact putSel_on (e := (15, 37, .int .i64 t233)) 11 rfl rfl (hon 15 (by kernel_rfl)) rfl
          replace ha := Azz.mk ha
          have BK221 := Azz.mk Q_BK221
          have BK222 := Azz.mk Q_BK222
          have HB := Azz.mk Q_HB
          have HO232 := Azz.mk (Q_HO232 (hon 12 (by kernel_rfl)))
          have GW234 := Azz.mk (Q_GW234 (hon 16 (by kernel_rfl)))
          have GE234 := Azz.mk (Q_GE234 (hon 16 (by kernel_rfl)))
          have NB221_234 := Azz.mk (Q_NB221_234 (hon 16 (by kernel_rfl)))
          have NB234_221 := Azz.mk (Q_NB234_221 (hon 16 (by kernel_rfl)))
          have NB222_234 := Azz.mk (Q_NB222_234 (hon 16 (by kernel_rfl)))
          have NB234_222 := Azz.mk (Q_NB234_222 (hon 16 (by kernel_rfl)))
          have BK234 := Azz.mk (Q_BK234_e17 (hon 17 (by kernel_rfl)))
          refine value_ (w1 := w') (v := .int .i64 t233) (by rfl) rfl ?_ ?_
          ·go_simp
           (try simp only [i64_w])
           first | rfl | (exact Int.tmod_eq_emod_of_nonneg (Int.natCast_nonneg _)) | skip
          refine hK.out _ _ ⟨gB_, v231, gb234, m12_, m13_, m14_, m16_, (by rw [ha.out]; exact putSel_upk 13 hb_ rfl rfl rfl), Q_BX_, Q_BK221, Q_BK222, Q_HB, Q_HO232, fun _ h1_ => absurd ((hon 17 (by kernel_rfl)).symm.trans h1_) (by decide), Q_GW234, Q_GE234, Q_NB221_234, Q_NB234_221, Q_NB222_234, Q_NB234_222, Q_BK234_e17, Q_X12_, Q_X13_, Q_X14_, Q_X16_⟩
         exact steps_nil
        rintro b a w34 hall ⟨gB_, v231, gb234, m12_, m13_, m14_, m16_, ha, Q_BX_, Q_BK221, Q_BK222, Q_HB, Q_HO232, Q_BK234, Q_GW234, Q_GE234, Q_NB221_234, Q_NB234_221, Q_NB222_234, Q_NB234_222, Q_BK234_e17, Q_X12_, Q_X13_, Q_X14_, Q_X16_⟩
        clear BK221 BK222 HB
        have hb0_ := hall 0 (by kernel_rfl)
        have hb1_ := hall 1 (by kernel_rfl)
        have hb4_ := hall 4 (by kernel_rfl)
        have hb5_ := hall 5 (by kernel_rfl)
        have hb7_ := hall 7 (by kernel_rfl)
        have hb8_ := hall 8 (by kernel_rfl)
        have hb10_ := hall 10 (by kernel_rfl)
        have hb11_ := hall 11 (by kernel_rfl)
        have hb12_ := hall 12 (by kernel_rfl)
        have hb13_ := hall 13 (by kernel_rfl)
        have hb14_ := hall 14 (by kernel_rfl)
        have hb15_ := hall 15 (by kernel_rfl)
        have hb16_ := hall 16 (by kernel_rfl)
        have hb17_ := hall 17 (by kernel_rfl)
        have hb18_ := hall 18 (by kernel_rfl)
        subst ha
        obtain rfl := Q_X12_ hb12_
        obtain rfl := Q_X13_ hb13_
        obtain rfl := Q_X14_ hb14_
        obtain rfl := Q_X16_ hb16_
        simp only [putSel, hb0_, hb1_, hb4_, hb5_, hb7_, hb8_, hb10_, hb11_, hb12_, hb13_, hb14_, hb15_, hb16_, hb17_, hb18_, if_true, Act.put, List.setIfInBounds_toArray, List.set_cons_zero, List.set_cons_succ]
        have BK221 := Azz.mk Q_BK221
        clear Q_BK221
        have BK222 := Azz.mk Q_BK222
        clear Q_BK222
        have HB := Azz.mk Q_HB
        clear Q_HB
        have HO232 := Azz.mk (Q_HO232 hb12_)
        clear Q_HO232
        clear Q_BK234
        have GW234 := Azz.mk (Q_GW234 hb16_)
        clear Q_GW234
        have GE234 := Azz.mk (Q_GE234 hb16_)
        clear Q_GE234
        have NB221_234 := Azz.mk (Q_NB221_234 hb16_)
        clear Q_NB221_234
        have NB234_221 := Azz.mk (Q_NB234_221 hb16_)
        clear Q_NB234_221
        have NB222_234 := Azz.mk (Q_NB222_234 hb16_)
        clear Q_NB222_234
        have NB234_222 := Azz.mk (Q_NB234_222 hb16_)
        clear Q_NB234_222
        have BK234 := Azz.mk (Q_BK234_e17 hb17_)
        clear Q_BK234_e17
        clear hall hb0_ hb1_ hb4_ hb5_ hb7_ hb8_ hb10_ hb11_ hb12_ hb13_ hb14_ hb15_ hb16_ hb17_ hb18_
        have hnb35 := NB234_221.out
        have hnc35 := NB221_234.out
        have hnb36 := NB234_222.out
        have hnc36 := NB222_234.out
        obtain ⟨hcz37_0, hcz37_1, hcz37_2, hcz37_3, hcz37_4, hcz37_5, hfz37_0, hfz37_1, hfz37_2, hfz37_3, hfz37_4, hfz37_5⟩ := cel6 BK234.out
        have hnb38 := NB222_221.out
        have hnc38 := NB221_222.out
        obtain ⟨hcz39_0, hcz39_1, hcz39_2, hcz39_3, hcz39_4, hcz39_5, hfz39_0, hfz39_1, hfz39_2, hfz39_3, hfz39_4, hfz39_5⟩ := cel6 BK222.out
        obtain ⟨Ao40, co40, eo40⟩ := Kd.R_slice HO232.out
        subst eo40
        try go_wp2_with (first | ((with_reducible refine gate_store (t := 24) (p := 4) rfl ?_); refine store_event (t := 24) (p := 4) (v := ?vo_w41) (w1 := (((((((w34.setCell ⟨gb234, 3, none⟩ (.int .i64 ji22)).setCell ⟨gb222, 0, none⟩ (.string t225)).setCell ⟨gb222, 1, none⟩ (.int .i64 t226)).setCell ⟨gb222, 2, none⟩ (.bool t227)).setCell ⟨gb222, 3, none⟩ (.int .i64 ji22)).setCell ⟨gb222, 4, none⟩ (.string t229)).setCell ⟨gb222, 5, none⟩ (.slice Ao40 t230.length co40))) ?hg ?ho ?hn ?hr ?_; (case ho => rfl); (case hg => rfl); (case hn => rfl); (case hr => first | (go_simp; done) | (go_simp; rfl)); intro w41 hw; have n0_ : Azz (Kd.R k44 44 w41 w.heap.size (fun _ => True) (.slice Ao40 t230.length co40) t230) := ⟨(by rw [hw]; exact (by (with_reducible repeat (first | apply Kd.R_alloc | apply Kd.R_drewN | apply Kd.R_drew)); exact Kd.R_mono (Kd.farR6 (Kd.farR1 (Kd.R_types (Kd.R_types HO232.out BK234.out (by decide)) BK222.out (by decide)) (fun _ hk => hk.1.2)) (fun _ hk => hk.2)) (fun _ hk => trivial)))⟩; have n1_ : Azz (w41.heap[gb221]? = some (.cells #[.string a0_0, .int .i64 a0_1, .bool a0_2, .int .i64 a0_3, .string a0_4, .slice A0_5 l0_5.length c0_5] 24 (0, 0))) := ⟨(by rw [hw]; exact (by refine far6 NB221_222.out ?_; refine far1 NB221_234.out ?_; (with_reducible repeat first | apply kNN | apply kDD | apply kAA); exact BK221.out))⟩; have n2_ : Azz (w41.heap[gb222]? = some (.cells #[.string t225, .int .i64 t226, .bool t227, .int .i64 ji22, .string t229, .slice Ao40 t230.length co40] 24 (0, 0))) := ⟨(by rw [hw]; exact (by apply put6; refine far1 NB222_234.out ?_; (with_reducible repeat first | apply kNN | apply kDD | apply kAA); exact BK222.out))⟩; have n3_ : Azz (w41.heap[gb234]? = some (.cells #[.string t225, .int .i64 t226, .bool t227, .int .i64 ji22, .string t229, .slice Ao40 t230.length co40] 24 (0, 0))) := ⟨(by rw [hw]; exact (by (with_reducible repeat first | apply kNN | apply kDD | apply kAA); refine blk_far ?_ NB234_222.out _; (with_reducible repeat first | apply kNN | apply kDD | apply kAA); refine blk_far ?_ NB234_222.out _; (with_reducible repeat first | apply kNN | apply kDD | apply kAA); refine blk_far ?_ NB234_222.out _; (with_reducible repeat first | apply kNN | apply kDD | apply kAA); refine blk_far ?_ NB234_222.out _; (with_reducible repeat first | apply kNN | apply kDD | apply kAA); refine blk_far ?_ NB234_222.out _; (with_reducible repeat first | apply kNN | apply kDD | apply kAA); refine blk_far ?_ NB234_222.out _; (with_reducible repeat first | apply kNN | apply kDD | apply kAA); refine blk_put (cs := #[.string t225, .int .i64 t226, .bool t227, .int .i64 t228, .string t229, .slice Ao40 t230.length co40]) ?_ 3 _ rfl; (with_reducible repeat first | apply kNN | apply kDD | apply kAA); exact BK234.out))⟩; have n4_ : Azz (Below w.heap.size w w41) := ⟨(by rw [hw]; exact (by with_reducible repeat first | exact HB.out | apply bAA | apply bNN | apply bDD | refine bSS ?_ GE221.out | refine bSS ?_ GE222.out | refine bSS ?_ GE234.out))⟩; clear hw; clear HO232; clear BK221; clear BK222; clear BK234; clear HB; have HO232 := n0_; have BK221 := n1_; have BK222 := n2_; have BK234 := n3_; have HB := n4_; clear n0_ n1_ n2_ n3_ n4_))
        refine bodyPost_ret (results_ct rfl _ _ gb222 24 #[.string t225, .int .i64 t226, .bool t227, .int .i64 ji22, .string t229, .slice Ao40 t230.length co40] (0, 0) _ rfl (by (with_reducible repeat first | apply kNN | apply kDD | apply kAA); exact BK222.out) Tryz.underlying24 rfl (by kernel_rfl)) rfl ?_
        exact ⟨_, by first | rfl | (simp [eNN, eSS] <;> rfl) | (simp only [← hji17, ← hji22]; first | rfl | (simp [eNN, eSS] <;> rfl)) | (simp [*, eNN, eSS] <;> rfl), by (with_reducible repeat (first | apply Kd.R_alloc | apply Kd.R_drewN | apply Kd.R_drew)); exact HO232.out, by repeat (first | (with_reducible first | exact HB.out | apply bAA | apply bNN | apply bDD | refine bSS ?_ GE221.out | refine bSS ?_ GE222.out | refine bSS ?_ GE234.out) | exact HB.out)⟩
       ·rw [if_neg c21] at H
        have c21b0 := beq_eq_false_iff_ne.mpr c21
        have c21b1 := bne_iff_ne.mpr c21
        simp only [Option.some.injEq, Prod.mk.injEq] at H
        obtain ⟨rfl, rfl, rfl, rfl, rfl, rfl, rfl⟩ := H
        try go_wp2
        have n0_ := Azz.mk (kDD BK221.out)
        have n1_ := Azz.mk (kDD BK222.out)
        have n2_ := Azz.mk (bDD HB.out)
        clear BK221
        clear BK222
        clear HB
        have BK221 := n0_
        have BK222 := n1_
        have HB := n2_
        clear n0_ n1_ n2_
        refine start_ (n := 19) (S := fun w' => True) (ds := []) #[false, false, false, false, false, false, false, false, false, false, false, false, false, false, false, false, false, false, false] (by kernel_rfl) rfl rfl trivial (fun hHeld => ?_); refine with_tabW part_Align.tab6 part_Align.bits6 (fun HT_ HW_ => ?_)
        generalize wc.drew = w42 at BK221 BK222 HB hHeld ⊢
        refine pure_ (i := 2) (N := some 25) (v := ?_) (a' := ?_) #[false, false, true, false, false, false, false, false, false, false, false, false, false, false, false, false, false, false, false] rfl rfl (any_of HT_.out (by kernel_rfl)) (fun _ _ _ h => h) (Or.inl ⟨by rfl, ?_⟩) ?_ ?_
        rotate_left
        ·intro w'
         go_simp
         with_reducible rfl
        rotate_left
        ·simp only [Act.put, List.setIfInBounds_toArray, List.set_cons_zero, List.set_cons_succ, i64_w, i32_w]
         rfl
        refine pure_ (i := 3) (N := some 26) (v := ?_) (a' := ?_) #[false, false, true, true, false, false, false, false, false, false, false, false, false, false, false, false, false, false, false] rfl rfl (any_of HT_.out (by kernel_rfl)) (fun _ _ _ h => h) (Or.inl ⟨by rfl, ?_⟩) ?_ ?_
        rotate_left
        ·intro w'
         go_simp
         with_reducible rfl
        rotate_left
        ·simp only [Act.put, List.setIfInBounds_toArray, List.set_cons_zero, List.set_cons_succ, i64_w, i32_w]
         rfl
        refine pure_ (i := 6) (N := some 29) (v := ?_) (a' := ?_) #[false, false, true, true, false, false, true, false, false, false, false, false, false, false, false, false, false, false, false] rfl rfl (any_of HT_.out (by kernel_rfl)) (fun _ _ _ h => h) (Or.inl ⟨by rfl, ?_⟩) ?_ ?_
        rotate_left
        ·intro w'
         go_simp
         with_reducible rfl
        rotate_left
        ·simp only [Act.put, List.setIfInBounds_toArray, List.set_cons_zero, List.set_cons_succ, i64_w, i32_w]
         rfl
        refine pure_ (i := 9) (N := some 32) (v := ?_) (a' := ?_) #[false, false, true, true, false, false, true, false, false, true, false, false, false, false, false, false, false, false, false] rfl rfl (any_of HT_.out (by kernel_rfl)) (fun _ _ _ h => h) (Or.inl ⟨by rfl, ?_⟩) ?_ ?_
        rotate_left
        ·intro w'
         go_simp
         with_reducible rfl
        rotate_left
        ·simp only [Act.put, List.setIfInBounds_toArray, List.set_cons_zero, List.set_cons_succ, i64_w, i32_w]
         rfl
        refine inv_at [0, 1, 4, 5, 7, 8, 10, 11, 12, 13, 14, 15, 16, 17, 18] (fun a0_ b a w' => ∃ (gB_ : Nat) (v231 : Value) (gb234 : Nat) (m12_ : Value) (m13_ : Value) (m14_ : Value) (m16_ : Value), a = putSel a0_ b [(0, 23, .agg #[.string a0_0, .int .i64 a0_1, .bool a0_2, .int .i64 a0_3, .string a0_4, .slice A0_5 l0_5.length c0_5]), (1, 24, .func (.func 33) #[] #[.pointer (some ⟨gB_, 0, none⟩)]), (4, 27, .string a0_4), (5, 28, .int .i64 (a0_4.size : Int)), (7, 30, .int .i64 ((a0_4.size : Int) % (ji17))), (8, 31, .int .i64 (wrap64 ((ji17) - ((a0_4.size : Int) % (ji17))))), (10, 33, .int .i64 (Int.tmod (wrap64 ((ji17) - ((a0_4.size : Int) % (ji17)))) (ji17))), (11, 34, .string t224), (12, 35, m12_), (13, 22, m13_), (14, 36, m14_), (15, 37, .int .i64 t233), (16, 7, m16_), (18, 8, .int .i64 t233)] ∧ (b 1 = true → b 12 = false → w'.heap[gB_]? = some (.cells #[.string a0_0, .int .i64 a0_1, .bool a0_2, .int .i64 a0_3, .string a0_4, .slice A0_5 l0_5.length c0_5] 24 (0, 0))) ∧ (w'.heap[gb221]? = some (.cells #[.string a0_0, .int .i64 a0_1, .bool a0_2, .int .i64 a0_3, .string a0_4, .slice A0_5 l0_5.length c0_5] 24 (0, 0))) ∧ (w'.heap[gb222]? = some (.cells #[.string (⟨#[]⟩ : ByteArray), .int .i64 0, .bool false, .int .i64 0, .string (⟨#[]⟩ : ByteArray), .slice none 0 0] 24 (0, 0))) ∧ (Below w.heap.size w w') ∧ (b 12 = true → Kd.R k44 44 w' w.heap.size (fun _ => True) v231 t230) ∧ (b 16 = true → b 17 = false → w'.heap[gb234]? = some (.cells #[.string (⟨#[]⟩ : ByteArray), .int .i64 0, .bool false, .int .i64 0, .string (⟨#[]⟩ : ByteArray), .slice none 0 0] 24 (0, 0))) ∧ (b 16 = true → w.heap.size ≤ gb234) ∧ (b 16 = true → w.heap.size ≤ gb234) ∧ (b 16 = true → gb221 ≠ gb234) ∧ (b 16 = true → gb234 ≠ gb221) ∧ (b 16 = true → gb222 ≠ gb234) ∧ (b 16 = true → gb234 ≠ gb222) ∧ (b 17 = true → w'.heap[gb234]? = some (.cells #[.string t225, .int .i64 t226, .bool t227, .int .i64 t228, .string t229, v231] 24 (0, 0))) ∧ (b 12 = true → (m12_ : Value) = .tuple #[.agg #[.string t225, .int .i64 t226, .bool t227, .int .i64 t228, .string t229, v231], .int .i64 t233]) ∧ (b 13 = true → (m13_ : Value) = .tuple #[.agg #[.string t225, .int .i64 t226, .bool t227, .int .i64 t228, .string t229, v231], .int .i64 t233]) ∧ (b 14 = true → (m14_ : Value) = .agg #[.string t225, .int .i64 t226, .bool t227, .int .i64 t228, .string t229, v231]) ∧ (b 16 = true → (m16_ : Value) = .pointer (some ⟨gb234, 0, none⟩))) HT_.out HW_.out (by kernel_rfl) (by kernel_rfl) ?_ ?_ ?_
        ·exact ⟨0, .bool false, 0, .bool false, .bool false, .bool false, .bool false, by simp only [putSel, Bool.false_eq_true, if_false], fun h_ => absurd h_ (by decide), BK221.out, BK222.out, HB.out, fun h_ => absurd h_ (by decide), fun h_ => absurd h_ (by decide), fun h_ => absurd h_ (by decide), fun h_ => absurd h_ (by decide), fun h_ => absurd h_ (by decide), fun h_ => absurd h_ (by decide), fun h_ => absurd h_ (by decide), fun h_ => absurd h_ (by decide), fun h_ => absurd h_ (by decide), fun h_ => absurd h_ (by decide), fun h_ => absurd h_ (by decide), fun h_ => absurd h_ (by decide), fun h_ => absurd h_ (by decide)⟩
        ·skip
         clear BK221 BK222 HB
         refine steps_cons ?_ ?_
         ·rintro b a w' ⟨gB_, v231, gb234, m12_, m13_, m14_, m16_, ha, Q_BX_, Q_BK221, Q_BK222, Q_HB, Q_HO232, Q_BK234, Q_GW234, Q_GE234, Q_NB221_234, Q_NB234_221, Q_NB222_234, Q_NB234_222, Q_BK234_e17, Q_X12_, Q_X13_, Q_X14_, Q_X16_⟩ hb_ hon hoff
          refine ⟨_, rfl, fun K hK => ?_⟩
          have e2 : a.tmps[2]? = some (.pointer (some ⟨gb221, 0, none⟩)) := by rw [ha]; exact (putSel_off rfl).trans rfl
          replace ha := Azz.mk ha
          have BK221 := Azz.mk Q_BK221
          have BK222 := Azz.mk Q_BK222
          have HB := Azz.mk Q_HB
          have hc0_ : w'.cell? ⟨gb221, 0, none⟩ = some (.string a0_0) := (kCC BK221.out 0).trans rfl
          have hc1_ : w'.cell? ⟨gb221, 1, none⟩ = some (.int .i64 a0_1) := (kCC BK221.out 1).trans rfl
          have hc2_ : w'.cell? ⟨gb221, 2, none⟩ = some (.bool a0_2) := (kCC BK221.out 2).trans rfl
          have hc3_ : w'.cell? ⟨gb221, 3, none⟩ = some (.int .i64 a0_3) := (kCC BK221.out 3).trans rfl
          have hc4_ : w'.cell? ⟨gb221, 4, none⟩ = some (.string a0_4) := (kCC BK221.out 4).trans rfl
          have hc5_ : w'.cell? ⟨gb221, 5, none⟩ = some (.slice A0_5 l0_5.length c0_5) := (kCC BK221.out 5).trans rfl
          refine value_ (w1 := w') (v := .agg #[.string a0_0, .int .i64 a0_1, .bool a0_2, .int .i64 a0_3, .string a0_4, .slice A0_5 l0_5.length c0_5]) (by rfl) rfl ?_ ?_
          ·go_simp
           (try simp only [i64_w])
           first | rfl | (exact Int.tmod_eq_emod_of_nonneg (Int.natCast_nonneg _)) | skip
          refine hK.out _ _ ⟨gB_, v231, gb234, m12_, m13_, m14_, m16_, (by rw [ha.out]; exact putSel_upk 0 hb_ rfl rfl rfl), Q_BX_, Q_BK221, Q_BK222, Q_HB, fun h0_ => absurd ((hoff 12 (by kernel_rfl)).symm.trans h0_) (by decide), Q_BK234, Q_GW234, Q_GE234, Q_NB221_234, Q_NB234_221, Q_NB222_234, Q_NB234_222, fun h0_ => absurd ((hoff 17 (by kernel_rfl)).symm.trans h0_) (by decide), fun h0_ => absurd ((hoff 12 (by kernel_rfl)).symm.trans h0_) (by decide), fun h0_ => absurd ((hoff 13 (by kernel_rfl)).symm.trans h0_) (by decide), fun h0_ => absurd ((hoff 14 (by kernel_rfl)).symm.trans h0_) (by decide), Q_X16_⟩
         refine steps_cons ?_ ?_
         ·rintro b a w' ⟨gB_, v231, gb234, m12_, m13_, m14_, m16_, ha, Q_BX_, Q_BK221, Q_BK222, Q_HB, Q_HO232, Q_BK234, Q_GW234, Q_GE234, Q_NB221_234, Q_NB234_221, Q_NB222_234, Q_NB234_222, Q_BK234_e17, Q_X12_, Q_X13_, Q_X14_, Q_X16_⟩ hb_ hon hoff
          refine ⟨_, rfl, fun K hK => ?_⟩
          have e23 : a.tmps[23]? = some (.agg #[.string a0_0, .int .i64 a0_1, .bool a0_2, .int .i64 a0_3, .string a0_4, .slice A0_5 l0_5.length c0_5]) := by rw [ha]; exact putSel_on (e := (0, 23, .agg #[.string a0_0, .int .i64 a0_1, .bool a0_2, .int .i64 a0_3, .string a0_4, .slice A0_5 l0_5.length c0_5])) 0 rfl rfl (hon 0 (by kernel_rfl)) rfl
          replace ha := Azz.mk ha
          have BK221 := Azz.mk Q_BK221
          have BK222 := Azz.mk Q_BK222
          have HB := Azz.mk Q_HB
          refine goes_ Tryz.func21 (by kernel_rfl) rfl #[.agg #[.string a0_0, .int .i64 a0_1, .bool a0_2, .int .i64 a0_3, .string a0_4, .slice A0_5 l0_5.length c0_5]] (by rfl) rfl rfl (by first | (simp only [List.map_toArray, List.map_cons, List.map_nil, Act.eval, Array.getD_eq_getD_getElem?, Option.getD_some, e23]; done) | (simp only [List.map_toArray, List.map_cons, List.map_nil, Act.eval, Array.getD_eq_getD_getElem?, Option.getD_some, e23]; rfl)) ?_
          refine (part_growing.calls _ _ _ _ _ _ _).mono ?_
          rintro e w8_ ⟨rfl, hw8_, hbx_⟩
          have hb : Below w'.heap.size w' w8_ := by rw [hw8_]; exact bAA (Below.refl _ _) _
          clear hw8_
          refine ⟨_, rfl, ?_⟩
          have n0_ := Azz.mk (blk_b hb BK221.out)
          have n1_ := Azz.mk (blk_b hb BK222.out)
          have n2_ := Azz.mk (bTT (by with_reducible repeat first | exact HB.out | apply bAA | apply bNN | apply bDD | refine bSS ?_ GE221.out | refine bSS ?_ GE222.out) hb)
          have z_BK234 := fun (h0_ : b 16 = true) (h1_ : b 17 = false) => (show w8_.heap[gb234]? = some (.cells #[.string (⟨#[]⟩ : ByteArray), .int .i64 0, .bool false, .int .i64 0, .string (⟨#[]⟩ : ByteArray), .slice none 0 0] 24 (0, 0)) from by first | exact (blk_b hb (Q_BK234 h0_ h1_)))
          clear BK221
          clear BK222
          clear HB
          have BK221 := n0_
          have BK222 := n1_
          have HB := n2_
          clear n0_ n1_ n2_
          (try clear hb)
          (try clear hb2)
          (try clear hk)
          (try clear hi)
          refine hK.out _ _ ⟨w'.heap.size, v231, gb234, m12_, m13_, m14_, m16_, (by rw [ha.out]; exact putSel_upk 1 hb_ rfl rfl rfl), fun _ _ => hbx_, (by (with_reducible repeat first | apply kNN | apply kDD | apply kAA); exact BK221.out), (by (with_reducible repeat first | apply kNN | apply kDD | apply kAA); exact BK222.out), (by with_reducible repeat first | exact HB.out | apply bAA | apply bNN | apply bDD | refine bSS ?_ GE221.out | refine bSS ?_ GE222.out), fun h0_ => absurd ((hoff 12 (by kernel_rfl)).symm.trans h0_) (by decide), z_BK234, Q_GW234, Q_GE234, Q_NB221_234, Q_NB234_221, Q_NB222_234, Q_NB234_222, fun h0_ => absurd ((hoff 17 (by kernel_rfl)).symm.trans h0_) (by decide), fun h0_ => absurd ((hoff 12 (by kernel_rfl)).symm.trans h0_) (by decide), fun h0_ => absurd ((hoff 13 (by kernel_rfl)).symm.trans h0_) (by decide), fun h0_ => absurd ((hoff 14 (by kernel_rfl)).symm.trans h0_) (by decide), Q_X16_⟩
         refine steps_cons ?_ ?_
         ·rintro b a w' ⟨gB_, v231, gb234, m12_, m13_, m14_, m16_, ha, Q_BX_, Q_BK221, Q_BK222, Q_HB, Q_HO232, Q_BK234, Q_GW234, Q_GE234, Q_NB221_234, Q_NB234_221, Q_NB222_234, Q_NB234_222, Q_BK234_e17, Q_X12_, Q_X13_, Q_X14_, Q_X16_⟩ hb_ hon hoff
          refine ⟨_, rfl, fun K hK => ?_⟩
          have e26 : a.tmps[26]? = some (.pointer (some ⟨gb221, 4, none⟩)) := by rw [ha]; exact (putSel_off rfl).trans rfl
          replace ha := Azz.mk ha
          have BK221 := Azz.mk Q_BK221
          have BK222 := Azz.mk Q_BK222
          have HB := Azz.mk Q_HB
          have hc0_ : w'.cell? ⟨gb221, 0, none⟩ = some (.string a0_0) := (kCC BK221.out 0).trans rfl
          have hc1_ : w'.cell? ⟨gb221, 1, none⟩ = some (.int .i64 a0_1) := (kCC BK221.out 1).trans rfl
          have hc2_ : w'.cell? ⟨gb221, 2, none⟩ = some (.bool a0_2) := (kCC BK221.out 2).trans rfl
          have hc3_ : w'.cell? ⟨gb221, 3, none⟩ = some (.int .i64 a0_3) := (kCC BK221.out 3).trans rfl
          have hc4_ : w'.cell? ⟨gb221, 4, none⟩ = some (.string a0_4) := (kCC BK221.out 4).trans rfl
          have hc5_ : w'.cell? ⟨gb221, 5, none⟩ = some (.slice A0_5 l0_5.length c0_5) := (kCC BK221.out 5).trans rfl
          refine value_ (w1 := w') (v := .string a0_4) (by rfl) rfl ?_ ?_
          ·go_simp
           (try simp only [i64_w])
           first | rfl | (exact Int.tmod_eq_emod_of_nonneg (Int.natCast_nonneg _)) | skip
          refine hK.out _ _ ⟨gB_, v231, gb234, m12_, m13_, m14_, m16_, (by rw [ha.out]; exact putSel_upk 2 hb_ rfl rfl rfl), Q_BX_, Q_BK221, Q_BK222, Q_HB, fun h0_ => absurd ((hoff 12 (by kernel_rfl)).symm.trans h0_) (by decide), Q_BK234, Q_GW234, Q_GE234, Q_NB221_234, Q_NB234_221, Q_NB222_234, Q_NB234_222, fun h0_ => absurd ((hoff 17 (by kernel_rfl)).symm.trans h0_) (by decide), fun h0_ => absurd ((hoff 12 (by kernel_rfl)).symm.trans h0_) (by decide), fun h0_ => absurd ((hoff 13 (by kernel_rfl)).symm.trans h0_) (by decide), fun h0_ => absurd ((hoff 14 (by kernel_rfl)).symm.trans h0_) (by decide), Q_X16_⟩
         refine steps_cons ?_ ?_
         ·rintro b a w' ⟨gB_, v231, gb234, m12_, m13_, m14_, m16_, ha, Q_BX_, Q_BK221, Q_BK222, Q_HB, Q_HO232, Q_BK234, Q_GW234, Q_GE234, Q_NB221_234, Q_NB234_221, Q_NB222_234, Q_NB234_222, Q_BK234_e17, Q_X12_, Q_X13_, Q_X14_, Q_X16_⟩ hb_ hon hoff
          refine ⟨_, rfl, fun K hK => ?_⟩
          have e27 : a.tmps[27]? = some (.string a0_4) := by rw [ha]; exact putSel_on (e := (4, 27, .string a0_4)) 2 rfl rfl (hon 4 (by kernel_rfl)) rfl
          replace ha := Azz.mk ha
          have BK221 := Azz.mk Q_BK221
          have BK222 := Azz.mk Q_BK222
          have HB := Azz.mk Q_HB
          refine value_ (w1 := w') (v := .int .i64 (a0_4.size : Int)) (by rfl) rfl ?_ ?_
          ·go_simp
           (try simp only [i64_w])
           first | rfl | (exact Int.tmod_eq_emod_of_nonneg (Int.natCast_nonneg _)) | skip
          refine hK.out _ _ ⟨gB_, v231, gb234, m12_, m13_, m14_, m16_, (by rw [ha.out]; exact putSel_upk 3 hb_ rfl rfl rfl), Q_BX_, Q_BK221, Q_BK222, Q_HB, fun h0_ => absurd ((hoff 12 (by kernel_rfl)).symm.trans h0_) (by decide), Q_BK234, Q_GW234, Q_GE234, Q_NB221_234, Q_NB234_221, Q_NB222_234, Q_NB234_222, fun h0_ => absurd ((hoff 17 (by kernel_rfl)).symm.trans h0_) (by decide), fun h0_ => absurd ((hoff 12 (by kernel_rfl)).symm.trans h0_) (by decide), fun h0_ => absurd ((hoff 13 (by kernel_rfl)).symm.trans h0_) (by decide), fun h0_ => absurd ((hoff 14 (by kernel_rfl)).symm.trans h0_) (by decide), Q_X16_⟩
         refine steps_cons ?_ ?_
         ·rintro b a w' ⟨gB_, v231, gb234, m12_, m13_, m14_, m16_, ha, Q_BX_, Q_BK221, Q_BK222, Q_HB, Q_HO232, Q_BK234, Q_GW234, Q_GE234, Q_NB221_234, Q_NB234_221, Q_NB222_234, Q_NB234_222, Q_BK234_e17, Q_X12_, Q_X13_, Q_X14_, Q_X16_⟩ hb_ hon hoff
          refine ⟨_, rfl, fun K hK => ?_⟩
          have e28 : a.tmps[28]? = some (.int .i64 (a0_4.size : Int)) := by rw [ha]; exact putSel_on (e := (5, 28, .int .i64 (a0_4.size : Int))) 3 rfl rfl (hon 5 (by kernel_rfl)) rfl
          have e29 : a.tmps[29]? = some (.int .i64 ji17) := by rw [ha]; exact (putSel_off rfl).trans rfl
          replace ha := Azz.mk ha
          have BK221 := Azz.mk Q_BK221
          have BK222 := Azz.mk Q_BK222
          have HB := Azz.mk Q_HB
          refine value_ (w1 := w') (v := .int .i64 ((a0_4.size : Int) % (ji17))) (by rfl) rfl ?_ ?_
          ·go_simp
           (try simp only [i64_w])
           first | rfl | (exact Int.tmod_eq_emod_of_nonneg (Int.natCast_nonneg _)) | skip
          refine hK.out _ _ ⟨gB_, v231, gb234, m12_, m13_, m14_, m16_, (by rw [ha.out]; exact putSel_upk 4 hb_ rfl rfl rfl), Q_BX_, Q_BK221, Q_BK222, Q_HB, fun h0_ => absurd ((hoff 12 (by kernel_rfl)).symm.trans h0_) (by decide), Q_BK234, Q_GW234, Q_GE234, Q_NB221_234, Q_NB234_221, Q_NB222_234, Q_NB234_222, fun h0_ => absurd ((hoff 17 (by kernel_rfl)).symm.trans h0_) (by decide), fun h0_ => absurd ((hoff 12 (by kernel_rfl)).symm.trans h0_) (by decide), fun h0_ => absurd ((hoff 13 (by kernel_rfl)).symm.trans h0_) (by decide), fun h0_ => absurd ((hoff 14 (by kernel_rfl)).symm.trans h0_) (by decide), Q_X16_⟩
         refine steps_cons ?_ ?_
         ·rintro b a w' ⟨gB_, v231, gb234, m12_, m13_, m14_, m16_, ha, Q_BX_, Q_BK221, Q_BK222, Q_HB, Q_HO232, Q_BK234, Q_GW234, Q_GE234, Q_NB221_234, Q_NB234_221, Q_NB222_234, Q_NB234_222, Q_BK234_e17, Q_X12_, Q_X13_, Q_X14_, Q_X16_⟩ hb_ hon hoff
          refine ⟨_, rfl, fun K hK => ?_⟩
          have e25 : a.tmps[25]? = some (.int .i64 ji17) := by rw [ha]; exact (putSel_off rfl).trans rfl
          have e30 : a.tmps[30]? = some (.int .i64 ((a0_4.size : Int) % (ji17))) := by rw [ha]; exact putSel_on (e := (7, 30, .int .i64 ((a0_4.size : Int) % (ji17)))) 4 rfl rfl (hon 7 (by kernel_rfl)) rfl
          replace ha := Azz.mk ha
          have BK221 := Azz.mk Q_BK221
          have BK222 := Azz.mk Q_BK222
          have HB := Azz.mk Q_HB
          refine value_ (w1 := w') (v := .int .i64 (wrap64 ((ji17) - ((a0_4.size : Int) % (ji17))))) (by rfl) rfl ?_ ?_
          ·go_simp
           (try simp only [i64_w])
           first | rfl | (exact Int.tmod_eq_emod_of_nonneg (Int.natCast_nonneg _)) | skip
          refine hK.out _ _ ⟨gB_, v231, gb234, m12_, m13_, m14_, m16_, (by rw [ha.out]; exact putSel_upk 5 hb_ rfl rfl rfl), Q_BX_, Q_BK221, Q_BK222, Q_HB, fun h0_ => absurd ((hoff 12 (by kernel_rfl)).symm.trans h0_) (by decide), Q_BK234, Q_GW234, Q_GE234, Q_NB221_234, Q_NB234_221, Q_NB222_234, Q_NB234_222, fun h0_ => absurd ((hoff 17 (by kernel_rfl)).symm.trans h0_) (by decide), fun h0_ => absurd ((hoff 12 (by kernel_rfl)).symm.trans h0_) (by decide), fun h0_ => absurd ((hoff 13 (by kernel_rfl)).symm.trans h0_) (by decide), fun h0_ => absurd ((hoff 14 (by kernel_rfl)).symm.trans h0_) (by decide), Q_X16_⟩
         refine steps_cons ?_ ?_
         ·rintro b a w' ⟨gB_, v231, gb234, m12_, m13_, m14_, m16_, ha, Q_BX_, Q_BK221, Q_BK222, Q_HB, Q_HO232, Q_BK234, Q_GW234, Q_GE234, Q_NB221_234, Q_NB234_221, Q_NB222_234, Q_NB234_222, Q_BK234_e17, Q_X12_, Q_X13_, Q_X14_, Q_X16_⟩ hb_ hon hoff
          refine ⟨_, rfl, fun K hK => ?_⟩
          have e31 : a.tmps[31]? = some (.int .i64 (wrap64 ((ji17) - ((a0_4.size : Int) % (ji17))))) := by rw [ha]; exact putSel_on (e := (8, 31, .int .i64 (wrap64 ((ji17) - ((a0_4.size : Int) % (ji17)))))) 5 rfl rfl (hon 8 (by kernel_rfl)) rfl
          have e32 : a.tmps[32]? = some (.int .i64 ji17) := by rw [ha]; exact (putSel_off rfl).trans rfl
          replace ha := Azz.mk ha
          have BK221 := Azz.mk Q_BK221
          have BK222 := Azz.mk Q_BK222
          have HB := Azz.mk Q_HB
          refine value_ (w1 := w') (v := .int .i64 (Int.tmod (wrap64 ((ji17) - ((a0_4.size : Int) % (ji17)))) (ji17))) (by rfl) rfl ?_ ?_
          ·go_simp
           (try simp only [i64_w])
           first | rfl | (exact Int.tmod_eq_emod_of_nonneg (Int.natCast_nonneg _)) | skip
          refine hK.out _ _ ⟨gB_, v231, gb234, m12_, m13_, m14_, m16_, (by rw [ha.out]; exact putSel_upk 6 hb_ rfl rfl rfl), Q_BX_, Q_BK221, Q_BK222, Q_HB, fun h0_ => absurd ((hoff 12 (by kernel_rfl)).symm.trans h0_) (by decide), Q_BK234, Q_GW234, Q_GE234, Q_NB221_234, Q_NB234_221, Q_NB222_234, Q_NB234_222, fun h0_ => absurd ((hoff 17 (by kernel_rfl)).symm.trans h0_) (by decide), fun h0_ => absurd ((hoff 12 (by kernel_rfl)).symm.trans h0_) (by decide), fun h0_ => absurd ((hoff 13 (by kernel_rfl)).symm.trans h0_) (by decide), fun h0_ => absurd ((hoff 14 (by kernel_rfl)).symm.trans h0_) (by decide), Q_X16_⟩
         refine steps_cons ?_ ?_
         ·rintro b a w' ⟨gB_, v231, gb234, m12_, m13_, m14_, m16_, ha, Q_BX_, Q_BK221, Q_BK222, Q_HB, Q_HO232, Q_BK234, Q_GW234, Q_GE234, Q_NB221_234, Q_NB234_221, Q_NB222_234, Q_NB234_222, Q_BK234_e17, Q_X12_, Q_X13_, Q_X14_, Q_X16_⟩ hb_ hon hoff
          refine ⟨_, rfl, fun K hK => ?_⟩
          have e33 : a.tmps[33]? = some (.int .i64 (Int.tmod (wrap64 ((ji17) - ((a0_4.size : Int) % (ji17)))) (ji17))) := by rw [ha]; exact putSel_on (e := (10, 33, .int .i64 (Int.tmod (wrap64 ((ji17) - ((a0_4.size : Int) % (ji17)))) (ji17)))) 6 rfl rfl (hon 10 (by kernel_rfl)) rfl
          replace ha := Azz.mk ha
          have BK221 := Azz.mk Q_BK221
          have BK222 := Azz.mk Q_BK222
          have HB := Azz.mk Q_HB
          refine goes_ Tryz.func22 (by kernel_rfl) rfl #[.string (⟨#[0]⟩ : ByteArray), .int .i64 (Int.tmod (wrap64 ((ji17) - ((a0_4.size : Int) % (ji17)))) (ji17))] (by rfl) rfl rfl (by first | (simp only [List.map_toArray, List.map_cons, List.map_nil, Act.eval, Array.getD_eq_getD_getElem?, Option.getD_some, e33]; done) | (simp only [List.map_toArray, List.map_cons, List.map_nil, Act.eval, Array.getD_eq_getD_getElem?, Option.getD_some, e33]; rfl)) ?_
          with_reducible refine (strings_Repeat.calls (⟨#[0]⟩ : ByteArray) (Int.tmod (wrap64 ((ji17) - ((a0_4.size : Int) % (ji17)))) (ji17)) t224 _ A19.out).mono ?_
          rintro e w43 ⟨rfl, hb⟩
          refine ⟨_, rfl, ?_⟩
          have z_BX := fun (h0_ : b 1 = true) (h1_ : b 12 = false) => (show w43.heap[gB_]? = some (.cells #[.string a0_0, .int .i64 a0_1, .bool a0_2, .int .i64 a0_3, .string a0_4, .slice A0_5 l0_5.length c0_5] 24 (0, 0)) from kBB (g := gB_) (o := .cells #[.string a0_0, .int .i64 a0_1, .bool a0_2, .int .i64 a0_3, .string a0_4, .slice A0_5 l0_5.length c0_5] 24 (0, 0)) (Q_BX_ h0_ h1_) hb)
          have n0_ := Azz.mk (blk_b hb BK221.out)
          have n1_ := Azz.mk (blk_b hb BK222.out)
          have n2_ := Azz.mk (bTT (by with_reducible repeat first | exact HB.out | apply bAA | apply bNN | apply bDD | refine bSS ?_ GE221.out | refine bSS ?_ GE222.out) hb)
          have z_BK234 := fun (h0_ : b 16 = true) (h1_ : b 17 = false) => (show w43.heap[gb234]? = some (.cells #[.string (⟨#[]⟩ : ByteArray), .int .i64 0, .bool false, .int .i64 0, .string (⟨#[]⟩ : ByteArray), .slice none 0 0] 24 (0, 0)) from by first | exact (blk_b hb (Q_BK234 h0_ h1_)))
          clear BK221
          clear BK222
          clear HB
          have BK221 := n0_
          have BK222 := n1_
          have HB := n2_
          clear n0_ n1_ n2_
          (try clear hb)
          (try clear hb2)
          (try clear hk)
          (try clear hi)
          refine hK.out _ _ ⟨gB_, v231, gb234, m12_, m13_, m14_, m16_, (by rw [ha.out]; exact putSel_upk 7 hb_ rfl rfl rfl), z_BX, (by (with_reducible repeat first | apply kNN | apply kDD | apply kAA); exact BK221.out), (by (with_reducible repeat first | apply kNN | apply kDD | apply kAA); exact BK222.out), (by with_reducible repeat first | exact HB.out | apply bAA | apply bNN | apply bDD | refine bSS ?_ GE221.out | refine bSS ?_ GE222.out), fun h0_ => absurd ((hoff 12 (by kernel_rfl)).symm.trans h0_) (by decide), z_BK234, Q_GW234, Q_GE234, Q_NB221_234, Q_NB234_221, Q_NB222_234, Q_NB234_222, fun h0_ => absurd ((hoff 17 (by kernel_rfl)).symm.trans h0_) (by decide), fun h0_ => absurd ((hoff 12 (by kernel_rfl)).symm.trans h0_) (by decide), fun h0_ => absurd ((hoff 13 (by kernel_rfl)).symm.trans h0_) (by decide), fun h0_ => absurd ((hoff 14 (by kernel_rfl)).symm.trans h0_) (by decide), Q_X16_⟩
         refine steps_cons ?_ ?_
         ·rintro b a w' ⟨gB_, v231, gb234, m12_, m13_, m14_, m16_, ha, Q_BX_, Q_BK221, Q_BK222, Q_HB, Q_HO232, Q_BK234, Q_GW234, Q_GE234, Q_NB221_234, Q_NB234_221, Q_NB222_234, Q_NB234_222, Q_BK234_e17, Q_X12_, Q_X13_, Q_X14_, Q_X16_⟩ hb_ hon hoff
          refine ⟨_, rfl, fun K hK => ?_⟩
          have e34 : a.tmps[34]? = some (.string t224) := by rw [ha]; exact putSel_on (e := (11, 34, .string t224)) 7 rfl rfl (hon 11 (by kernel_rfl)) rfl
          have e24 : a.tmps[24]? = some (.func (.func 33) #[] #[.pointer (some ⟨gB_, 0, none⟩)]) := by rw [ha]; exact putSel_on (e := (1, 24, .func (.func 33) #[] #[.pointer (some ⟨gB_, 0, none⟩)])) 1 rfl rfl (hon 1 (by kernel_rfl)) rfl
          replace ha := Azz.mk ha
          have BK221 := Azz.mk Q_BK221
          have BK222 := Azz.mk Q_BK222
          have HB := Azz.mk Q_HB
          refine part_grow.goesV (x := .tmp 24) (caps := #[.pointer (some ⟨gB_, 0, none⟩)]) Tryz.func33 (by kernel_rfl) rfl #[.string t224, .slice none 0 0, .pointer (some ⟨gB_, 0, none⟩)] (by simp only [Act.eval, Array.getD_eq_getD_getElem?, Option.getD_some, e24]) (by rfl) rfl rfl (by first | (simp only [List.map_toArray, List.map_cons, List.map_nil, Act.eval, Array.getD_eq_getD_getElem?, Option.getD_some, e34, e24]; done) | (simp only [List.map_toArray, List.map_cons, List.map_nil, Act.eval, Array.getD_eq_getD_getElem?, Option.getD_some, e34, e24]; rfl)) ?_
          refine (part_grow.calls t224 _ _ ([] : List (S44)) a0_0 a0_1 a0_2 a0_3 a0_4 A0_5 c0_5 l0_5 t225 t226 t227 t228 t229 t230 t233 _ gB_ (Q_BX_ (hon 1 (by kernel_rfl)) hb_) ?side1 ?side2 ?side3 ?side4 A20.out).mono ?_
          (case side1 => exact Kd.C_nil _ _)
          (case side2 => exact Nat.le_refl _)
          (case side3 => repeat (first | exact (Kd.C_below HR0_5.out HB.out) | (with_reducible refine Kd.C_alloc ?_ _) | (with_reducible refine Kd.C_drewN ?_ _) | (with_reducible refine Kd.C_drew ?_)))
          (case side4 => exact HC0_5.out)
          rintro e w45 ⟨v231, rfl, ho0, hb⟩
          refine ⟨_, rfl, ?_⟩
          have n0_ := Azz.mk (Kd.R_lower ho0 (bZZ (by with_reducible repeat first | exact HB.out | apply bAA | apply bNN | apply bDD | refine bSS ?_ GE221.out | refine bSS ?_ GE222.out)))
          have n1_ := Azz.mk (blk_b hb BK221.out)
          have n2_ := Azz.mk (blk_b hb BK222.out)
          have n3_ := Azz.mk (bTT (by with_reducible repeat first | exact HB.out | apply bAA | apply bNN | apply bDD | refine bSS ?_ GE221.out | refine bSS ?_ GE222.out) hb)
          have z_BK234 := fun (h0_ : b 16 = true) (h1_ : b 17 = false) => (show w45.heap[gb234]? = some (.cells #[.string (⟨#[]⟩ : ByteArray), .int .i64 0, .bool false, .int .i64 0, .string (⟨#[]⟩ : ByteArray), .slice none 0 0] 24 (0, 0)) from by first | exact (blk_b hb (Q_BK234 h0_ h1_)))
          clear BK221
          clear BK222
          clear HB
          have HO232 := n0_
          have BK221 := n1_
          have BK222 := n2_
          have HB := n3_
          clear n0_ n1_ n2_ n3_
          (try clear hb)
          (try clear hb2)
          (try clear hk)
          (try clear hi)
          (try clear ho0)
          refine hK.out _ _ ⟨gB_, v231, gb234, (.tuple #[.agg #[.string t225, .int .i64 t226, .bool t227, .int .i64 t228, .string t229, v231], .int .i64 t233]), m13_, m14_, m16_, (by rw [ha.out]; exact putSel_upk 8 hb_ rfl rfl rfl), fun _ h_ => absurd (h_.symm.trans (up_self _ _)) (by decide), (by (with_reducible repeat first | apply kNN | apply kDD | apply kAA); exact BK221.out), (by (with_reducible repeat first | apply kNN | apply kDD | apply kAA); exact BK222.out), (by with_reducible repeat first | exact HB.out | apply bAA | apply bNN | apply bDD | refine bSS ?_ GE221.out | refine bSS ?_ GE222.out), fun _ => (by (with_reducible repeat (first | apply Kd.R_alloc | apply Kd.R_drewN | apply Kd.R_drew)); exact HO232.out), z_BK234, Q_GW234, Q_GE234, Q_NB221_234, Q_NB234_221, Q_NB222_234, Q_NB234_222, fun h0_ => absurd ((hoff 17 (by kernel_rfl)).symm.trans h0_) (by decide), fun _ => rfl, fun h0_ => absurd ((hoff 13 (by kernel_rfl)).symm.trans h0_) (by decide), fun h0_ => absurd ((hoff 14 (by kernel_rfl)).symm.trans h0_) (by decide), Q_X16_⟩
         refine steps_cons ?_ ?_
         ·rintro b a w' ⟨gB_, v231, gb234, m12_, m13_, m14_, m16_, ha, Q_BX_, Q_BK221, Q_BK222, Q_HB, Q_HO232, Q_BK234, Q_GW234, Q_GE234, Q_NB221_234, Q_NB234_221, Q_NB222_234, Q_NB234_222, Q_BK234_e17, Q_X12_, Q_X13_, Q_X14_, Q_X16_⟩ hb_ hon hoff
          refine ⟨_, rfl, fun K hK => ?_⟩
          have e35 : a.tmps[35]? = some (m12_) := by rw [ha]; exact putSel_on (e := (12, 35, m12_)) 8 rfl rfl (hon 12 (by kernel_rfl)) rfl
          rw [Q_X12_ (hon 12 (by kernel_rfl))] at e35
          replace ha := Azz.mk ha
          have BK221 := Azz.mk Q_BK221
          have BK222 := Azz.mk Q_BK222
          have HB := Azz.mk Q_HB
          have HO232 := Azz.mk (Q_HO232 (hon 12 (by kernel_rfl)))
          refine value_ (w1 := w') (v := .tuple #[.agg #[.string t225, .int .i64 t226, .bool t227, .int .i64 t228, .string t229, v231], .int .i64 t233]) (by rfl) rfl ?_ ?_
          ·go_simp
           (try simp only [i64_w])
           first | rfl | (exact Int.tmod_eq_emod_of_nonneg (Int.natCast_nonneg _)) | skip
          refine hK.out _ _ ⟨gB_, v231, gb234, m12_, (.tuple #[.agg #[.string t225, .int .i64 t226, .bool t227, .int .i64 t228, .string t229, v231], .int .i64 t233]), m14_, m16_, (by rw [ha.out]; exact putSel_upk 9 hb_ rfl rfl rfl), Q_BX_, Q_BK221, Q_BK222, Q_HB, Q_HO232, Q_BK234, Q_GW234, Q_GE234, Q_NB221_234, Q_NB234_221, Q_NB222_234, Q_NB234_222, fun h0_ => absurd ((hoff 17 (by kernel_rfl)).symm.trans h0_) (by decide), Q_X12_, fun _ => rfl, fun h0_ => absurd ((hoff 14 (by kernel_rfl)).symm.trans h0_) (by decide), Q_X16_⟩
         refine steps_cons ?_ ?_
         ·rintro b a w' ⟨gB_, v231, gb234, m12_, m13_, m14_, m16_, ha, Q_BX_, Q_BK221, Q_BK222, Q_HB, Q_HO232, Q_BK234, Q_GW234, Q_GE234, Q_NB221_234, Q_NB234_221, Q_NB222_234, Q_NB234_222, Q_BK234_e17, Q_X12_, Q_X13_, Q_X14_, Q_X16_⟩ hb_ hon hoff
          refine ⟨_, rfl, fun K hK => ?_⟩
          have e22 : a.tmps[22]? = some (m13_) := by rw [ha]; exact putSel_on (e := (13, 22, m13_)) 9 rfl rfl (hon 13 (by kernel_rfl)) rfl
          rw [Q_X13_ (hon 13 (by kernel_rfl))] at e22
          replace ha := Azz.mk ha
          have BK221 := Azz.mk Q_BK221
          have BK222 := Azz.mk Q_BK222
          have HB := Azz.mk Q_HB
          have HO232 := Azz.mk (Q_HO232 (hon 12 (by kernel_rfl)))
          refine value_ (w1 := w') (v := .agg #[.string t225, .int .i64 t226, .bool t227, .int .i64 t228, .string t229, v231]) (by rfl) rfl ?_ ?_
          ·go_simp
           (try simp only [i64_w])
           first | rfl | (exact Int.tmod_eq_emod_of_nonneg (Int.natCast_nonneg _)) | skip
          refine hK.out _ _ ⟨gB_, v231, gb234, m12_, m13_, (.agg #[.string t225, .int .i64 t226, .bool t227, .int .i64 t228, .string t229, v231]), m16_, (by rw [ha.out]; exact putSel_upk 10 hb_ rfl rfl rfl), Q_BX_, Q_BK221, Q_BK222, Q_HB, Q_HO232, Q_BK234, Q_GW234, Q_GE234, Q_NB221_234, Q_NB234_221, Q_NB222_234, Q_NB234_222, fun h0_ => absurd ((hoff 17 (by kernel_rfl)).symm.trans h0_) (by decide), Q_X12_, Q_X13_, fun _ => rfl, Q_X16_⟩
         refine steps_cons ?_ ?_
         ·rintro b a w' ⟨gB_, v231, gb234, m12_, m13_, m14_, m16_, ha, Q_BX_, Q_BK221, Q_BK222, Q_HB, Q_HO232, Q_BK234, Q_GW234, Q_GE234, Q_NB221_234, Q_NB234_221, Q_NB222_234, Q_NB234_222, Q_BK234_e17, Q_X12_, Q_X13_, Q_X14_, Q_X16_⟩ hb_ hon hoff
          refine ⟨_, rfl, fun K hK => ?_⟩
          have e22 : a.tmps[22]? = some (m13_) := by rw [ha]; exact putSel_on (e := (13, 22, m13_)) 9 rfl rfl (hon 13 (by kernel_rfl)) rfl
          rw [Q_X13_ (hon 13 (by kernel_rfl))] at e22
          replace ha := Azz.mk ha
          have BK221 := Azz.mk Q_BK221
          have BK222 := Azz.mk Q_BK222
          have HB := Azz.mk Q_HB
          have HO232 := Azz.mk (Q_HO232 (hon 12 (by kernel_rfl)))
          refine value_ (w1 := w') (v := .int .i64 t233) (by rfl) rfl ?_ ?_
          ·go_simp
           (try simp only [i64_w])
           first | rfl | (exact Int.tmod_eq_emod_of_nonneg (Int.natCast_nonneg _)) | skip
          refine hK.out _ _ ⟨gB_, v231, gb234, m12_, m13_, m14_, m16_, (by rw [ha.out]; exact putSel_upk 11 hb_ rfl rfl rfl), Q_BX_, Q_BK221, Q_BK222, Q_HB, Q_HO232, Q_BK234, Q_GW234, Q_GE234, Q_NB221_234, Q_NB234_221, Q_NB222_234, Q_NB234_222, Q_BK234_e17, Q_X12_, Q_X13_, Q_X14_, Q_X16_⟩
         refine steps_cons ?_ ?_
         ·rintro b a w' ⟨gB_, v231, gb234, m12_, m13_, m14_, m16_, ha, Q_BX_, Q_BK221, Q_BK222, Q_HB, Q_HO232, Q_BK234, Q_GW234, Q_GE234, Q_NB221_234, Q_NB234_221, Q_NB222_234, Q_NB234_222, Q_BK234_e17, Q_X12_, Q_X13_, Q_X14_, Q_X16_⟩ hb_ hon hoff
          refine ⟨_, rfl, fun K hK => ?_⟩
          replace ha := Azz.mk ha
          have BK221 := Azz.mk Q_BK221
          have BK222 := Azz.mk Q_BK222
          have HB := Azz.mk Q_HB
          refine box_step ?hg (N := 7) ?hd (cs := #[.string (⟨#[]⟩ : ByteArray), .int .i64 0, .bool false, .int .i64 0, .string (⟨#[]⟩ : ByteArray), .slice none 0 0]) (t := 24) ?hr ?_; (case hd => rfl); (case hg => rfl); (case hr => first | (go_simp; done) | (go_simp; rfl))
          intro gb234 hg w43 hbox hb
          have z_BX := fun (h0_ : b 1 = true) (h1_ : b 12 = false) => (show w43.heap[gB_]? = some (.cells #[.string a0_0, .int .i64 a0_1, .bool a0_2, .int .i64 a0_3, .string a0_4, .slice A0_5 l0_5.length c0_5] 24 (0, 0)) from kBB (g := gB_) (o := .cells #[.string a0_0, .int .i64 a0_1, .bool a0_2, .int .i64 a0_3, .string a0_4, .slice A0_5 l0_5.length c0_5] 24 (0, 0)) (Q_BX_ h0_ h1_) hb)
          have n0_ := Azz.mk (blk_b hb BK221.out)
          have n1_ := Azz.mk (blk_b hb BK222.out)
          have n2_ := Azz.mk (bTT (by with_reducible repeat first | exact HB.out | apply bAA | apply bNN | apply bDD | refine bSS ?_ GE221.out | refine bSS ?_ GE222.out) hb)
          have n3_ := Azz.mk (hbox)
          have n4_ := Azz.mk ((by rw [hg]; exact (bZZ (by with_reducible repeat first | exact HB.out | apply bAA | apply bNN | apply bDD | refine bSS ?_ GE221.out | refine bSS ?_ GE222.out)) : w.heap.size ≤ gb234))
          have n5_ := Azz.mk ((by rw [hg]; exact (bZZ (by with_reducible repeat first | exact HB.out | apply bAA | apply bNN | apply bDD | refine bSS ?_ GE221.out | refine bSS ?_ GE222.out)) : w.heap.size ≤ gb234))
          have n6_ := Azz.mk ((by rw [hg]; exact Nat.ne_of_lt (blk_lt BK221.out) : gb221 ≠ gb234))
          have n7_ := Azz.mk ((by rw [hg]; exact Nat.ne_of_gt (blk_lt BK221.out) : gb234 ≠ gb221))
          have n8_ := Azz.mk ((by rw [hg]; exact Nat.ne_of_lt (blk_lt BK222.out) : gb222 ≠ gb234))
          have n9_ := Azz.mk ((by rw [hg]; exact Nat.ne_of_gt (blk_lt BK222.out) : gb234 ≠ gb222))
          have z_HO232 := fun (h0_ : b 12 = true) => (show Kd.R k44 44 w43 w.heap.size (fun _ => True) v231 t230 from by first | exact (Kd.R_below (by (with_reducible repeat (first | apply Kd.R_alloc | apply Kd.R_drewN | apply Kd.R_drew)); exact (Q_HO232 h0_)) hb) | exact Kd.R_mono (Kd.R_below (by (with_reducible repeat (first | apply Kd.R_alloc | apply Kd.R_drewN | apply Kd.R_drew)); exact (Q_HO232 h0_)) hb) (fun _ h_ => by first | trivial | exact h_ | exact h_.1))
          clear BK221
          clear BK222
          clear HB
          have BK221 := n0_
          have BK222 := n1_
          have HB := n2_
          have BK234 := n3_
          have GW234 := n4_
          have GE234 := n5_
          have NB221_234 := n6_
          have NB234_221 := n7_
          have NB222_234 := n8_
          have NB234_222 := n9_
          clear n0_ n1_ n2_ n3_ n4_ n5_ n6_ n7_ n8_ n9_
          clear hb hbox hg
          refine hK.out _ _ ⟨gB_, v231, gb234, m12_, m13_, m14_, (.pointer (some ⟨gb234, 0, none⟩)), (by rw [ha.out]; exact putSel_upk 12 hb_ rfl rfl rfl), z_BX, (by (with_reducible repeat first | apply kNN | apply kDD | apply kAA); exact BK221.out), (by (with_reducible repeat first | apply kNN | apply kDD | apply kAA); exact BK222.out), (by with_reducible repeat first | exact HB.out | apply bAA | apply bNN | apply bDD | refine bSS ?_ GE221.out | refine bSS ?_ GE222.out | refine bSS ?_ GE234.out), z_HO232, fun _ _ => (by (with_reducible repeat first | apply kNN | apply kDD | apply kAA); exact BK234.out), fun _ => GW234.out, fun _ => GE234.out, fun _ => NB221_234.out, fun _ => NB234_221.out, fun _ => NB222_234.out, fun _ => NB234_222.out, fun h0_ => absurd ((hoff 17 (by kernel_rfl)).symm.trans h0_) (by decide), Q_X12_, Q_X13_, Q_X14_, fun _ => rfl⟩
         refine steps_cons ?_ ?_
         ·rintro b a w' ⟨gB_, v231, gb234, m12_, m13_, m14_, m16_, ha, Q_BX_, Q_BK221, Q_BK222, Q_HB, Q_HO232, Q_BK234, Q_GW234, Q_GE234, Q_NB221_234, Q_NB234_221, Q_NB222_234, Q_NB234_222, Q_BK234_e17, Q_X12_, Q_X13_, Q_X14_, Q_X16_⟩ hb_ hon hoff
          refine ⟨_, rfl, fun K hK => ?_⟩
          have e7 : a.tmps[7]? = some (m16_) := by rw [ha]; exact putSel_on (e := (16, 7, m16_)) 12 rfl rfl (hon 16 (by kernel_rfl)) rfl
          rw [Q_X16_ (hon 16 (by kernel_rfl))] at e7
          have e36 : a.tmps[36]? = some (m14_) := by rw [ha]; exact putSel_on (e := (14, 36, m14_)) 10 rfl rfl (hon 14 (by kernel_rfl)) rfl
          rw [Q_X14_ (hon 14 (by kernel_rfl))] at e36
          replace ha := Azz.mk ha
          have BK221 := Azz.mk Q_BK221
          have BK222 := Azz.mk Q_BK222
          have HB := Azz.mk Q_HB
          have HO232 := Azz.mk (Q_HO232 (hon 12 (by kernel_rfl)))
          have BK234 := Azz.mk (Q_BK234 (hon 16 (by kernel_rfl)) hb_)
          have GW234 := Azz.mk (Q_GW234 (hon 16 (by kernel_rfl)))
          have GE234 := Azz.mk (Q_GE234 (hon 16 (by kernel_rfl)))
          have NB221_234 := Azz.mk (Q_NB221_234 (hon 16 (by kernel_rfl)))
          have NB234_221 := Azz.mk (Q_NB234_221 (hon 16 (by kernel_rfl)))
          have NB222_234 := Azz.mk (Q_NB222_234 (hon 16 (by kernel_rfl)))
          have NB234_222 := Azz.mk (Q_NB234_222 (hon 16 (by kernel_rfl)))
          obtain ⟨Ao52, co52, eo52⟩ := Kd.R_slice HO232.out
          (first | subst eo52 | (injection eo52 with f1_ f2_ f3_; have f4_ := f1_.symm; have f5_ := f3_.symm; clear f1_ f2_ f3_; subst f4_; subst f5_))
          have hs47 : w'.cell? ⟨gb234, 0, none⟩ = some (.string (⟨#[]⟩ : ByteArray)) := (kCC BK234.out 0).trans rfl
          have hfs47 := kFF BK234.out 0
          have hns47_0 := NB221_234.out
          have hns47_1 := NB222_234.out
          have hms47_0 := NB234_221.out
          have hms47_1 := NB234_222.out
          have hs48 : w'.cell? ⟨gb234, 1, none⟩ = some (.int .i64 0) := (kCC BK234.out 1).trans rfl
          have hfs48 := kFF BK234.out 1
          have hns48_0 := NB221_234.out
          have hns48_1 := NB222_234.out
          have hms48_0 := NB234_221.out
          have hms48_1 := NB234_222.out
          have hs49 : w'.cell? ⟨gb234, 2, none⟩ = some (.bool false) := (kCC BK234.out 2).trans rfl
          have hfs49 := kFF BK234.out 2
          have hns49_0 := NB221_234.out
          have hns49_1 := NB222_234.out
          have hms49_0 := NB234_221.out
          have hms49_1 := NB234_222.out
          have hs50 : w'.cell? ⟨gb234, 3, none⟩ = some (.int .i64 0) := (kCC BK234.out 3).trans rfl
          have hfs50 := kFF BK234.out 3
          have hns50_0 := NB221_234.out
          have hns50_1 := NB222_234.out
          have hms50_0 := NB234_221.out
          have hms50_1 := NB234_222.out
          have hs51 : w'.cell? ⟨gb234, 4, none⟩ = some (.string (⟨#[]⟩ : ByteArray)) := (kCC BK234.out 4).trans rfl
          have hfs51 := kFF BK234.out 4
          have hns51_0 := NB221_234.out
          have hns51_1 := NB222_234.out
          have hms51_0 := NB234_221.out
          have hms51_1 := NB234_222.out
          have hs53 : w'.cell? ⟨gb234, 5, none⟩ = some (.slice none 0 0) := (kCC BK234.out 5).trans rfl
          have hfs53 := kFF BK234.out 5
          have hns53_0 := NB221_234.out
          have hns53_1 := NB222_234.out
          have hms53_0 := NB234_221.out
          have hms53_1 := NB234_222.out
          refine skip_ (w1 := ?_) (by rfl) rfl ?_ ?_
          rotate_left
          ·go_simp
           rfl
          refine hK.out _ _ ⟨gB_, .slice Ao52 t230.length co52, gb234, m12_, m13_, m14_, m16_, (by rw [ha.out]; exact putSel_none (v := undef) rfl), fun _ h1_ => absurd ((hon 12 (by kernel_rfl)).symm.trans h1_) (by decide), (by refine far6 NB221_234.out ?_; (with_reducible repeat first | apply kNN | apply kDD | apply kAA); exact BK221.out), (by refine far6 NB222_234.out ?_; (with_reducible repeat first | apply kNN | apply kDD | apply kAA); exact BK222.out), (by with_reducible repeat first | exact HB.out | apply bAA | apply bNN | apply bDD | refine bSS ?_ GE221.out | refine bSS ?_ GE222.out | refine bSS ?_ GE234.out), fun _ => (by (with_reducible repeat (first | apply Kd.R_alloc | apply Kd.R_drewN | apply Kd.R_drew)); exact Kd.R_mono (Kd.farR6 (Kd.R_types HO232.out BK234.out (by decide)) (fun _ hk => hk.2)) (fun _ hk => trivial)), fun _ h1_ => absurd ((up_self b 17).symm.trans h1_) (by decide), fun _ => GW234.out, fun _ => GE234.out, fun _ => NB221_234.out, fun _ => NB234_221.out, fun _ => NB222_234.out, fun _ => NB234_222.out, fun _ => (by apply put6; (with_reducible repeat first | apply kNN | apply kDD | apply kAA); exact BK234.out), Q_X12_, Q_X13_, Q_X14_, Q_X16_⟩
         refine steps_cons ?_ ?_
         ·rintro b a w' ⟨gB_, v231, gb234, m12_, m13_, m14_, m16_, ha, Q_BX_, Q_BK221, Q_BK222, Q_HB, Q_HO232, Q_BK234, Q_GW234, Q_GE234, Q_NB221_234, Q_NB234_221, Q_NB222_234, Q_NB234_222, Q_BK234_e17, Q_X12_, Q_X13_, Q_X14_, Q_X16_⟩ hb_ hon hoff
          refine ⟨_, rfl, fun K hK => ?_⟩
          have e37 : a.tmps[37]? = some (.int .i64 t233) := by rw [ha]; exact putSel_on (e := (15, 37, .int .i64 t233)) 11 rfl rfl (hon 15 (by kernel_rfl)) rfl
          replace ha := Azz.mk ha
          have BK221 := Azz.mk Q_BK221
          have BK222 := Azz.mk Q_BK222
          have HB := Azz.mk Q_HB
          have HO232 := Azz.mk (Q_HO232 (hon 12 (by kernel_rfl)))
          have GW234 := Azz.mk (Q_GW234 (hon 16 (by kernel_rfl)))
          have GE234 := Azz.mk (Q_GE234 (hon 16 (by kernel_rfl)))
          have NB221_234 := Azz.mk (Q_NB221_234 (hon 16 (by kernel_rfl)))
          have NB234_221 := Azz.mk (Q_NB234_221 (hon 16 (by kernel_rfl)))
          have NB222_234 := Azz.mk (Q_NB222_234 (hon 16 (by kernel_rfl)))
          have NB234_222 := Azz.mk (Q_NB234_222 (hon 16 (by kernel_rfl)))
          have BK234 := Azz.mk (Q_BK234_e17 (hon 17 (by kernel_rfl)))
          refine value_ (w1 := w') (v := .int .i64 t233) (by rfl) rfl ?_ ?_
          ·go_simp
           (try simp only [i64_w])
           first | rfl | (exact Int.tmod_eq_emod_of_nonneg (Int.natCast_nonneg _)) | skip
          refine hK.out _ _ ⟨gB_, v231, gb234, m12_, m13_, m14_, m16_, (by rw [ha.out]; exact putSel_upk 13 hb_ rfl rfl rfl), Q_BX_, Q_BK221, Q_BK222, Q_HB, Q_HO232, fun _ h1_ => absurd ((hon 17 (by kernel_rfl)).symm.trans h1_) (by decide), Q_GW234, Q_GE234, Q_NB221_234, Q_NB234_221, Q_NB222_234, Q_NB234_222, Q_BK234_e17, Q_X12_, Q_X13_, Q_X14_, Q_X16_⟩
         exact steps_nil
        rintro b a w53 hall ⟨gB_, v231, gb234, m12_, m13_, m14_, m16_, ha, Q_BX_, Q_BK221, Q_BK222, Q_HB, Q_HO232, Q_BK234, Q_GW234, Q_GE234, Q_NB221_234, Q_NB234_221, Q_NB222_234, Q_NB234_222, Q_BK234_e17, Q_X12_, Q_X13_, Q_X14_, Q_X16_⟩
        clear BK221 BK222 HB
        have hb0_ := hall 0 (by kernel_rfl)
        have hb1_ := hall 1 (by kernel_rfl)
        have hb4_ := hall 4 (by kernel_rfl)
        have hb5_ := hall 5 (by kernel_rfl)
        have hb7_ := hall 7 (by kernel_rfl)
        have hb8_ := hall 8 (by kernel_rfl)
        have hb10_ := hall 10 (by kernel_rfl)
        have hb11_ := hall 11 (by kernel_rfl)
        have hb12_ := hall 12 (by kernel_rfl)
        have hb13_ := hall 13 (by kernel_rfl)
        have hb14_ := hall 14 (by kernel_rfl)
        have hb15_ := hall 15 (by kernel_rfl)
        have hb16_ := hall 16 (by kernel_rfl)
        have hb17_ := hall 17 (by kernel_rfl)
        have hb18_ := hall 18 (by kernel_rfl)
        subst ha
        obtain rfl := Q_X12_ hb12_
        obtain rfl := Q_X13_ hb13_
        obtain rfl := Q_X14_ hb14_
        obtain rfl := Q_X16_ hb16_
        simp only [putSel, hb0_, hb1_, hb4_, hb5_, hb7_, hb8_, hb10_, hb11_, hb12_, hb13_, hb14_, hb15_, hb16_, hb17_, hb18_, if_true, Act.put, List.setIfInBounds_toArray, List.set_cons_zero, List.set_cons_succ]
        have BK221 := Azz.mk Q_BK221
        clear Q_BK221
        have BK222 := Azz.mk Q_BK222
        clear Q_BK222
        have HB := Azz.mk Q_HB
        clear Q_HB
        have HO232 := Azz.mk (Q_HO232 hb12_)
        clear Q_HO232
        clear Q_BK234
        have GW234 := Azz.mk (Q_GW234 hb16_)
        clear Q_GW234
        have GE234 := Azz.mk (Q_GE234 hb16_)
        clear Q_GE234
        have NB221_234 := Azz.mk (Q_NB221_234 hb16_)
        clear Q_NB221_234
        have NB234_221 := Azz.mk (Q_NB234_221 hb16_)
        clear Q_NB234_221
        have NB222_234 := Azz.mk (Q_NB222_234 hb16_)
        clear Q_NB222_234
        have NB234_222 := Azz.mk (Q_NB234_222 hb16_)
        clear Q_NB234_222
        have BK234 := Azz.mk (Q_BK234_e17 hb17_)
        clear Q_BK234_e17
        clear hall hb0_ hb1_ hb4_ hb5_ hb7_ hb8_ hb10_ hb11_ hb12_ hb13_ hb14_ hb15_ hb16_ hb17_ hb18_
        have hnb54 := NB222_221.out
        have hnc54 := NB221_222.out
        have hnb55 := NB222_234.out
        have hnc55 := NB234_222.out
        obtain ⟨hcz56_0, hcz56_1, hcz56_2, hcz56_3, hcz56_4, hcz56_5, hfz56_0, hfz56_1, hfz56_2, hfz56_3, hfz56_4, hfz56_5⟩ := cel6 BK222.out
        try go_wp2_with (first | ((with_reducible refine gate_store (t := 24) (p := 4) rfl ?_); refine store_event (t := 24) (p := 4) (v := ?vo_w57) (w1 := ((((((w53.setCell ⟨gb222, 0, none⟩ (.string (⟨#[]⟩ : ByteArray))).setCell ⟨gb222, 1, none⟩ (.int .i64 0)).setCell ⟨gb222, 2, none⟩ (.bool false)).setCell ⟨gb222, 3, none⟩ (.int .i64 0)).setCell ⟨gb222, 4, none⟩ (.string (⟨#[]⟩ : ByteArray))).setCell ⟨gb222, 5, none⟩ (.slice none 0 0))) ?hg ?ho ?hn ?hr ?_; (case ho => rfl); (case hg => rfl); (case hn => rfl); (case hr => first | (go_simp; done) | (go_simp; rfl)); intro w57 hw; have n0_ : Azz (Kd.R k44 44 w57 w.heap.size (fun _ => True) v231 t230) := ⟨(by rw [hw]; exact (by (with_reducible repeat (first | apply Kd.R_alloc | apply Kd.R_drewN | apply Kd.R_drew)); exact Kd.R_mono (Kd.farR6 (Kd.R_types HO232.out BK222.out (by decide)) (fun _ hk => hk.2)) (fun _ hk => trivial)))⟩; have n1_ : Azz (w57.heap[gb221]? = some (.cells #[.string a0_0, .int .i64 a0_1, .bool a0_2, .int .i64 a0_3, .string a0_4, .slice A0_5 l0_5.length c0_5] 24 (0, 0))) := ⟨(by rw [hw]; exact (by refine far6 NB221_222.out ?_; (with_reducible repeat first | apply kNN | apply kDD | apply kAA); exact BK221.out))⟩; have n2_ : Azz (w57.heap[gb222]? = some (.cells #[.string (⟨#[]⟩ : ByteArray), .int .i64 0, .bool false, .int .i64 0, .string (⟨#[]⟩ : ByteArray), .slice none 0 0] 24 (0, 0))) := ⟨(by rw [hw]; exact (by apply put6; (with_reducible repeat first | apply kNN | apply kDD | apply kAA); exact BK222.out))⟩; have n3_ : Azz (w57.heap[gb234]? = some (.cells #[.string t225, .int .i64 t226, .bool t227, .int .i64 t228, .string t229, v231] 24 (0, 0))) := ⟨(by rw [hw]; exact (by refine far6 NB234_222.out ?_; (with_reducible repeat first | apply kNN | apply kDD | apply kAA); exact BK234.out))⟩; have n4_ : Azz (Below w.heap.size w w57) := ⟨(by rw [hw]; exact (by with_reducible repeat first | exact HB.out | apply bAA | apply bNN | apply bDD | refine bSS ?_ GE221.out | refine bSS ?_ GE222.out | refine bSS ?_ GE234.out))⟩; clear hw; clear HO232; clear BK221; clear BK222; clear BK234; clear HB; have HO232 := n0_; have BK221 := n1_; have BK222 := n2_; have BK234 := n3_; have HB := n4_; clear n0_ n1_ n2_ n3_ n4_))
        refine bodyPost_ret (results_ct rfl _ _ gb222 24 #[.string (⟨#[]⟩ : ByteArray), .int .i64 0, .bool false, .int .i64 0, .string (⟨#[]⟩ : ByteArray), .slice none 0 0] (0, 0) _ rfl (by (with_reducible repeat first | apply kNN | apply kDD | apply kAA); exact BK222.out) Tryz.underlying24 rfl (by kernel_rfl)) rfl ?_
        exact ⟨_, by first | rfl | (simp [eNN, eSS] <;> rfl) | (simp only [← hji17]; first | rfl | (simp [eNN, eSS] <;> rfl)) | (simp [*, eNN, eSS] <;> rfl), by first | exact Kd.R_nil _ _ _ _ _ | exact Kd.N_nil _ _ _ _ _ | exact Kd.V_nil _ _ _ _ _ | exact Kd.Q_nil _ _ _ _ _ | exact Kd.S_nil _ _ _ _ _, by repeat (first | (with_reducible first | exact HB.out | apply bAA | apply bNN | apply bDD | refine bSS ?_ GE221.out | refine bSS ?_ GE222.out | refine bSS ?_ GE234.out) | exact HB.out)⟩
     ·rw [if_neg c16] at H
      exact absurd H (by simp)
 ·replace c4 := Bool.eq_false_iff.mpr c4
  subst c4
  rw [if_neg (show ¬ (false = true) by decide)] at H
  simp only [Option.some.injEq, Prod.mk.injEq] at H
  obtain ⟨rfl, rfl, rfl, rfl, rfl, rfl, rfl⟩ := H
  go_enter Tryz.func12, Tryz.ntmps12
  go_wp2_with (first | ((with_reducible refine gate_dst (N := 2) rfl ?_); refine box_event ?hg (N := 2) ?hd (cs := #[.string a0_0, .int .i64 a0_1, .bool a0_2, .int .i64 a0_3, .string a0_4, .slice A0_5 l0_5.length c0_5]) (t := 24) ?hr ?_; (case hd => rfl); (case hg => rfl); (case hr => first | (go_simp; done) | (go_simp; rfl)); intro gb221 hg w58 hbox hb; have n0_ := Azz.mk (bTT (by with_reducible repeat first | exact HB.out | apply bAA | apply bNN | apply bDD) hb); have n1_ := Azz.mk (hbox); have n2_ := Azz.mk ((by rw [hg]; exact (bZZ (by with_reducible repeat first | exact HB.out | apply bAA | apply bNN | apply bDD)) : w.heap.size ≤ gb221)); have n3_ := Azz.mk ((by rw [hg]; exact (bZZ (by with_reducible repeat first | exact HB.out | apply bAA | apply bNN | apply bDD)) : w.heap.size ≤ gb221)); clear HB; have HB := n0_; have BK221 := n1_; have GW221 := n2_; have GE221 := n3_; clear n0_ n1_ n2_ n3_; clear hb hbox hg) | ((with_reducible refine gate_dst (N := 4) rfl ?_); refine box_event ?hg (N := 4) ?hd (cs := #[.string (⟨#[]⟩ : ByteArray), .int .i64 0, .bool false, .int .i64 0, .string (⟨#[]⟩ : ByteArray), .slice none 0 0]) (t := 24) ?hr ?_; (case hd => rfl); (case hg => rfl); (case hr => first | (go_simp; done) | (go_simp; rfl)); intro gb222 hg w59 hbox hb; have n0_ := Azz.mk (blk_b hb BK221.out); have n1_ := Azz.mk (bTT (by with_reducible repeat first | exact HB.out | apply bAA | apply bNN | apply bDD | refine bSS ?_ GE221.out) hb); have n2_ := Azz.mk (hbox); have n3_ := Azz.mk ((by rw [hg]; exact (bZZ (by with_reducible repeat first | exact HB.out | apply bAA | apply bNN | apply bDD | refine bSS ?_ GE221.out)) : w.heap.size ≤ gb222)); have n4_ := Azz.mk ((by rw [hg]; exact (bZZ (by with_reducible repeat first | exact HB.out | apply bAA | apply bNN | apply bDD | refine bSS ?_ GE221.out)) : w.heap.size ≤ gb222)); have n5_ := Azz.mk ((by rw [hg]; exact Nat.ne_of_lt (blk_lt BK221.out) : gb221 ≠ gb222)); have n6_ := Azz.mk ((by rw [hg]; exact Nat.ne_of_gt (blk_lt BK221.out) : gb222 ≠ gb221)); clear BK221; clear HB; have BK221 := n0_; have HB := n1_; have BK222 := n2_; have GW222 := n3_; have GE222 := n4_; have NB221_222 := n5_; have NB222_221 := n6_; clear n0_ n1_ n2_ n3_ n4_ n5_ n6_; clear hb hbox hg; have hnb60 := NB221_222.out; have hnc60 := NB222_221.out; obtain ⟨hcz61_0, hcz61_1, hcz61_2, hcz61_3, hcz61_4, hcz61_5, hfz61_0, hfz61_1, hfz61_2, hfz61_3, hfz61_4, hfz61_5⟩ := cel6 BK221.out) | ((with_reducible refine gate_callee (f := 8) rfl ?_); refine goesL_ (some 10) rfl rfl Tryz.func8 (by kernel_rfl) rfl #[.agg #[.string a0_0, .int .i64 a0_1, .bool a0_2, .int .i64 a0_3, .string a0_4, .slice A0_5 l0_5.length c0_5]] rfl (by (try simp only [List.map_toArray, List.map_cons, List.map_nil]); first | done | rfl | (simp only [List.length_drop, List.length_take]; rfl)) ?_; (with_reducible refine (part_Is.calls k a0_0 a0_1 a0_2 a0_3 a0_4 _ _ l0_5 false _ ?side3 ?side1 ?side2 A3.out).mono ?_); (case side1 => repeat (first | exact (Kd.C_below HR0_5.out HB.out) | (with_reducible refine Kd.C_alloc ?_ _) | (with_reducible refine Kd.C_drewN ?_ _) | (with_reducible refine Kd.C_drew ?_))); (case side2 => exact HC0_5.out); (case side3 => exact Glob.below hG (by with_reducible repeat first | exact HB.out | apply bAA | apply bNN | apply bDD | refine bSS ?_ GE221.out | refine bSS ?_ GE222.out)); rintro e w62 ⟨rfl, hb⟩; refine ⟨_, rfl, ?_⟩; have n0_ := Azz.mk (blk_b hb BK221.out); have n1_ := Azz.mk (blk_b hb BK222.out); have n2_ := Azz.mk (bTT (by with_reducible repeat first | exact HB.out | apply bAA | apply bNN | apply bDD | refine bSS ?_ GE221.out | refine bSS ?_ GE222.out) hb); clear BK221; clear BK222; clear HB; have BK221 := n0_; have BK222 := n1_; have HB := n2_; clear n0_ n1_ n2_; (try clear hb); (try clear hb2); (try clear hk); (try clear hi); obtain ⟨hcz63_0, hcz63_1, hcz63_2, hcz63_3, hcz63_4, hcz63_5, hfz63_0, hfz63_1, hfz63_2, hfz63_3, hfz63_4, hfz63_5⟩ := cel6 BK222.out) | ((with_reducible refine gate_store (t := 24) (p := 4) rfl ?_); refine store_event (t := 24) (p := 4) (v := ?vo_w64) (w1 := ((((((w62.setCell ⟨gb222, 0, none⟩ (.string (⟨#[]⟩ : ByteArray))).setCell ⟨gb222, 1, none⟩ (.int .i64 0)).setCell ⟨gb222, 2, none⟩ (.bool false)).setCell ⟨gb222, 3, none⟩ (.int .i64 0)).setCell ⟨gb222, 4, none⟩ (.string (⟨#[]⟩ : ByteArray))).setCell ⟨gb222, 5, none⟩ (.slice none 0 0))) ?hg ?ho ?hn ?hr ?_; (case ho => rfl); (case hg => rfl); (case hn => rfl); (case hr => first | (go_simp; done) | (go_simp; rfl)); intro w64 hw; have n0_ : Azz (w64.heap[gb221]? = some (.cells #[.string a0_0, .int .i64 a0_1, .bool a0_2, .int .i64 a0_3, .string a0_4, .slice A0_5 l0_5.length c0_5] 24 (0, 0))) := ⟨(by rw [hw]; exact (by refine far6 NB221_222.out ?_; (with_reducible repeat first | apply kNN | apply kDD | apply kAA); exact BK221.out))⟩; have n1_ : Azz (w64.heap[gb222]? = some (.cells #[.string (⟨#[]⟩ : ByteArray), .int .i64 0, .bool false, .int .i64 0, .string (⟨#[]⟩ : ByteArray), .slice none 0 0] 24 (0, 0))) := ⟨(by rw [hw]; exact (by apply put6; (with_reducible repeat first | apply kNN | apply kDD | apply kAA); exact BK222.out))⟩; have n2_ : Azz (Below w.heap.size w w64) := ⟨(by rw [hw]; exact (by with_reducible repeat first | exact HB.out | apply bAA | apply bNN | apply bDD | refine bSS ?_ GE221.out | refine bSS ?_ GE222.out))⟩; clear hw; clear BK221; clear BK222; clear HB; have BK221 := n0_; have BK222 := n1_; have HB := n2_; clear n0_ n1_ n2_))
  refine bodyPost_ret (results_ct rfl _ _ gb222 24 #[.string (⟨#[]⟩ : ByteArray), .int .i64 0, .bool false, .int .i64 0, .string (⟨#[]⟩ : ByteArray), .slice none 0 0] (0, 0) _ rfl (by (with_reducible repeat first | apply kNN | apply kDD | apply kAA); exact BK222.out) Tryz.underlying24 rfl (by kernel_rfl)) rfl ?_
  exact ⟨_, by first | rfl | (simp [eNN, eSS] <;> rfl) | (simp [*, eNN, eSS] <;> rfl), by first | exact Kd.R_nil _ _ _ _ _ | exact Kd.N_nil _ _ _ _ _ | exact Kd.V_nil _ _ _ _ _ | exact Kd.Q_nil _ _ _ _ _ | exact Kd.S_nil _ _ _ _ _, by repeat (first | (with_reducible first | exact HB.out | apply bAA | apply bNN | apply bDD | refine bSS ?_ GE221.out | refine bSS ?_ GE222.out) | exact HB.out)⟩
end Go.Proofs.YtpcdebakiccecaaGreatDoor.P
