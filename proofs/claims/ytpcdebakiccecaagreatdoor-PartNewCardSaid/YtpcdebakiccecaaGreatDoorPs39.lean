/- Walks and plain laws of this claim, a part. -/
import Derived.Test.YtpcdebakiccecaaGreatDoorPs38
namespace Go.Proofs.YtpcdebakiccecaaGreatDoor.P
open Go.RowKit Go.Proofs.YtpcdebakiccecaaGreatDoorW.PrintWords Go.Proofs.YtpcdebakiccecaaGreatDoorW.PrintLast Go.Proofs.YtpcdebakiccecaaGreatDoorW.PrintMore
attribute [local go_sem] max2_int min2_int max_two min_two max_three min_three max_four min_four   -- for this text's walks alone
set_option linter.unusedVariables false
set_option linter.unusedSimpArgs false
mutual
def part_Is.j0 : Nat → Bool → ByteArray → Int → Bool → Int → ByteArray → List (S44) → Option (Bool)
 | 0, _, _, _, _, _, _, _ => none
 | k + 1, x30, x205000, x205001, x205002, x205003, x205004, x205005 => if x30 = true then (some false) else (if (x205004.size : Int) > 4096 then (part_Is.j1 k true x205000 x205001 x205002 x205003 x205004 x205005) else (part_Is.j1 k (decide ((x205005.length : Int) > 64)) x205000 x205001 x205002 x205003 x205004 x205005))
def part_Is.j1 : Nat → Bool → ByteArray → Int → Bool → Int → ByteArray → List (S44) → Option (Bool)
 | 0, _, _, _, _, _, _, _ => none
 | k + 1, x40, x205000, x205001, x205002, x205003, x205004, x205005 => if x40 = true then (some false) else (part_Is.l0 k 0 x205005 (x205005.length : Int) 0 x205000 x205001 x205002 x205003 x205004 x205005)
def part_Is.l0 : Nat → Int → List (S44) → Int → Int → ByteArray → Int → Bool → Int → ByteArray → List (S44) → Option (Bool)
 | 0, _, _, _, _, _, _, _, _, _, _ => none
 | k + 1, x3, x42, x43, x44, x205000, x205001, x205002, x205003, x205004, x205005 => if x44 < x43 then (if 0 ≤ x44 then (if x44 < (x42.length : Int) then (if ((rd_T44 x42 x44).f1) = 1 then (part_Is.j3 k x3 8 x42 x43 x44 x205000 x205001 x205002 x205003 x205004 x205005 ((rd_T44 x42 x44).f0) ((rd_T44 x42 x44).f1) ((rd_T44 x42 x44).f2) ((rd_T44 x42 x44).f3)) else (part_Is.j3 k x3 4 x42 x43 x44 x205000 x205001 x205002 x205003 x205004 x205005 ((rd_T44 x42 x44).f0) ((rd_T44 x42 x44).f1) ((rd_T44 x42 x44).f2) ((rd_T44 x42 x44).f3))) else (none)) else (none)) else (some true)
def part_Is.j3 : Nat → Int → Int → List (S44) → Int → Int → ByteArray → Int → Bool → Int → ByteArray → List (S44) → Int → Int → Int → Int → Option (Bool)
 | 0, _, _, _, _, _, _, _, _, _, _, _, _, _, _, _ => none
 | k + 1, x3, x6, x42, x43, x44, x205000, x205001, x205002, x205003, x205004, x205005, x208000, x208001, x208002, x208003 => if x208000 < x3 then (part_Is.j4 k x6 x42 x43 x44 true x205000 x205001 x205002 x205003 x205004 x205005 x208000 x208001 x208002 x208003) else (if x208000 > (wrap64 ((x205004.size : Int) - x6)) then (part_Is.j4 k x6 x42 x43 x44 true x205000 x205001 x205002 x205003 x205004 x205005 x208000 x208001 x208002 x208003) else (part_Is.j4 k x6 x42 x43 x44 (decide (x208002 < 0)) x205000 x205001 x205002 x205003 x205004 x205005 x208000 x208001 x208002 x208003))
def part_Is.j4 : Nat → Int → List (S44) → Int → Int → Bool → ByteArray → Int → Bool → Int → ByteArray → List (S44) → Int → Int → Int → Int → Option (Bool)
 | 0, _, _, _, _, _, _, _, _, _, _, _, _, _, _, _ => none
 | k + 1, x6, x42, x43, x44, x69, x205000, x205001, x205002, x205003, x205004, x205005, x208000, x208001, x208002, x208003 => if x69 = true then (some false) else (if 0 ≤ x208000 then (if x208000 ≤ (wrap64 (x208000 + x6)) then (if (wrap64 (x208000 + x6)) ≤ (x205004.size : Int) then ((part_over.f k x205001 x208000 x208001 x208002 x208003 (x205004.extract (x208000 : Int).toNat ((wrap64 (x208000 + x6)) : Int).toNat)).bind fun t208 => (if t208 = true then (part_Is.l0 k (wrap64 (x208000 + x6)) x42 x43 (wrap64 (x44 + 1)) x205000 x205001 x205002 x205003 x205004 x205005) else (some false))) else (none)) else (none)) else (none))
end
def part_Is.f (k : Nat) (a0_0 : ByteArray) (a0_1 : Int) (a0_2 : Bool) (a0_3 : Int) (a0_4 : ByteArray) (l0_5 : List (S44)) : Option (Bool) := (local_IsName.f k a0_0).bind fun t205 => (if t205 = true then (if a0_1 < 1 then (part_Is.j0 k true a0_0 a0_1 a0_2 a0_3 a0_4 l0_5) else (if a0_1 > 3 then (part_Is.j0 k true a0_0 a0_1 a0_2 a0_3 a0_4 l0_5) else (if a0_3 < 0 then (part_Is.j0 k true a0_0 a0_1 a0_2 a0_3 a0_4 l0_5) else (part_Is.j0 k (decide (a0_3 > 12)) a0_0 a0_1 a0_2 a0_3 a0_4 l0_5)))) else (part_Is.j0 k true a0_0 a0_1 a0_2 a0_3 a0_4 l0_5))
theorem part_Is.mono_l : ∀ k, (∀ y0 y1 y2 y3 y4 y5 y6, LeO (part_Is.j0 k y0 y1 y2 y3 y4 y5 y6) (part_Is.j0 (k + 1) y0 y1 y2 y3 y4 y5 y6)) ∧ (∀ y0 y1 y2 y3 y4 y5 y6, LeO (part_Is.j1 k y0 y1 y2 y3 y4 y5 y6) (part_Is.j1 (k + 1) y0 y1 y2 y3 y4 y5 y6)) ∧ (∀ y0 y1 y2 y3 y4 y5 y6 y7 y8 y9, LeO (part_Is.l0 k y0 y1 y2 y3 y4 y5 y6 y7 y8 y9) (part_Is.l0 (k + 1) y0 y1 y2 y3 y4 y5 y6 y7 y8 y9)) ∧ (∀ y0 y1 y2 y3 y4 y5 y6 y7 y8 y9 y10 y11 y12 y13 y14, LeO (part_Is.j3 k y0 y1 y2 y3 y4 y5 y6 y7 y8 y9 y10 y11 y12 y13 y14) (part_Is.j3 (k + 1) y0 y1 y2 y3 y4 y5 y6 y7 y8 y9 y10 y11 y12 y13 y14)) ∧ (∀ y0 y1 y2 y3 y4 y5 y6 y7 y8 y9 y10 y11 y12 y13 y14, LeO (part_Is.j4 k y0 y1 y2 y3 y4 y5 y6 y7 y8 y9 y10 y11 y12 y13 y14) (part_Is.j4 (k + 1) y0 y1 y2 y3 y4 y5 y6 y7 y8 y9 y10 y11 y12 y13 y14))
 | 0 => ⟨fun _ _ _ _ _ _ _ r h => by simp [part_Is.j0] at h, fun _ _ _ _ _ _ _ r h => by simp [part_Is.j1] at h, fun _ _ _ _ _ _ _ _ _ _ r h => by simp [part_Is.l0] at h, fun _ _ _ _ _ _ _ _ _ _ _ _ _ _ _ r h => by simp [part_Is.j3] at h, fun _ _ _ _ _ _ _ _ _ _ _ _ _ _ _ r h => by simp [part_Is.j4] at h⟩
 | k + 1 => by
  obtain ⟨ih0, ih1, ih2, ih3, ih4⟩ := part_Is.mono_l k
  refine ⟨?_, ?_, ?_, ?_, ?_⟩
  ·intro y0 y1 y2 y3 y4 y5 y6
   unfold part_Is.j0
   repeat' first
   | (with_reducible exact ih0 _ _ _ _ _ _ _)
   | (with_reducible exact ih1 _ _ _ _ _ _ _)
   | (with_reducible exact ih2 _ _ _ _ _ _ _ _ _ _)
   | (with_reducible exact ih3 _ _ _ _ _ _ _ _ _ _ _ _ _ _ _)
   | (with_reducible exact ih4 _ _ _ _ _ _ _ _ _ _ _ _ _ _ _)
   | (with_reducible exact local_IsName.mono _ _)
   | (with_reducible exact part_over.mono _ _ _ _ _ _ _)
   | (with_reducible exact LeO.refl _)
   | (with_reducible exact LeO.none _)
   | (with_reducible refine LeO.ite ?_ ?_)
   | (with_reducible refine LeO.bind ?_ (fun _ => ?_))
  ·intro y0 y1 y2 y3 y4 y5 y6
   unfold part_Is.j1
   repeat' first
   | (with_reducible exact ih0 _ _ _ _ _ _ _)
   | (with_reducible exact ih1 _ _ _ _ _ _ _)
   | (with_reducible exact ih2 _ _ _ _ _ _ _ _ _ _)
   | (with_reducible exact ih3 _ _ _ _ _ _ _ _ _ _ _ _ _ _ _)
   | (with_reducible exact ih4 _ _ _ _ _ _ _ _ _ _ _ _ _ _ _)
   | (with_reducible exact local_IsName.mono _ _)
   | (with_reducible exact part_over.mono _ _ _ _ _ _ _)
   | (with_reducible exact LeO.refl _)
   | (with_reducible exact LeO.none _)
   | (with_reducible refine LeO.ite ?_ ?_)
   | (with_reducible refine LeO.bind ?_ (fun _ => ?_))
  ·intro y0 y1 y2 y3 y4 y5 y6 y7 y8 y9
   unfold part_Is.l0
   repeat' first
   | (with_reducible exact ih0 _ _ _ _ _ _ _)
   | (with_reducible exact ih1 _ _ _ _ _ _ _)
   | (with_reducible exact ih2 _ _ _ _ _ _ _ _ _ _)
   | (with_reducible exact ih3 _ _ _ _ _ _ _ _ _ _ _ _ _ _ _)
   | (with_reducible exact ih4 _ _ _ _ _ _ _ _ _ _ _ _ _ _ _)
   | (with_reducible exact local_IsName.mono _ _)
   | (with_reducible exact part_over.mono _ _ _ _ _ _ _)
   | (with_reducible exact LeO.refl _)
   | (with_reducible exact LeO.none _)
   | (with_reducible refine LeO.ite ?_ ?_)
   | (with_reducible refine LeO.bind ?_ (fun _ => ?_))
  ·intro y0 y1 y2 y3 y4 y5 y6 y7 y8 y9 y10 y11 y12 y13 y14
   unfold part_Is.j3
   repeat' first
   | (with_reducible exact ih0 _ _ _ _ _ _ _)
   | (with_reducible exact ih1 _ _ _ _ _ _ _)
   | (with_reducible exact ih2 _ _ _ _ _ _ _ _ _ _)
   | (with_reducible exact ih3 _ _ _ _ _ _ _ _ _ _ _ _ _ _ _)
   | (with_reducible exact ih4 _ _ _ _ _ _ _ _ _ _ _ _ _ _ _)
   | (with_reducible exact local_IsName.mono _ _)
   | (with_reducible exact part_over.mono _ _ _ _ _ _ _)
   | (with_reducible exact LeO.refl _)
   | (with_reducible exact LeO.none _)
   | (with_reducible refine LeO.ite ?_ ?_)
   | (with_reducible refine LeO.bind ?_ (fun _ => ?_))
  ·intro y0 y1 y2 y3 y4 y5 y6 y7 y8 y9 y10 y11 y12 y13 y14
   unfold part_Is.j4
   repeat' first
   | (with_reducible exact ih0 _ _ _ _ _ _ _)
   | (with_reducible exact ih1 _ _ _ _ _ _ _)
   | (with_reducible exact ih2 _ _ _ _ _ _ _ _ _ _)
   | (with_reducible exact ih3 _ _ _ _ _ _ _ _ _ _ _ _ _ _ _)
   | (with_reducible exact ih4 _ _ _ _ _ _ _ _ _ _ _ _ _ _ _)
   | (with_reducible exact local_IsName.mono _ _)
   | (with_reducible exact part_over.mono _ _ _ _ _ _ _)
   | (with_reducible exact LeO.refl _)
   | (with_reducible exact LeO.none _)
   | (with_reducible refine LeO.ite ?_ ?_)
   | (with_reducible refine LeO.bind ?_ (fun _ => ?_))
theorem part_Is.mono : ∀ a0 a1 a2 a3 a4 a5 k, LeO (part_Is.f k a0 a1 a2 a3 a4 a5) (part_Is.f (k + 1) a0 a1 a2 a3 a4 a5) := by
 intro a0 a1 a2 a3 a4 a5 k
 obtain ⟨ih0, ih1, ih2, ih3, ih4⟩ := part_Is.mono_l k
 unfold part_Is.f
 repeat' first
  | (with_reducible exact ih0 _ _ _ _ _ _ _)
  | (with_reducible exact ih1 _ _ _ _ _ _ _)
  | (with_reducible exact ih2 _ _ _ _ _ _ _ _ _ _)
  | (with_reducible exact ih3 _ _ _ _ _ _ _ _ _ _ _ _ _ _ _)
  | (with_reducible exact ih4 _ _ _ _ _ _ _ _ _ _ _ _ _ _ _)
  | (with_reducible exact local_IsName.mono _ _)
  | (with_reducible exact part_over.mono _ _ _ _ _ _ _)
  | (with_reducible exact LeO.refl _)
  | (with_reducible exact LeO.none _)
  | (with_reducible refine LeO.ite ?_ ?_)
  | (with_reducible refine LeO.bind ?_ (fun _ => ?_))
def part_Is.T15 : Bool × List (List Nat × List Nat) := (true, [([], []), ([0], [0]), ([], []), ([], []), ([3], [3]), ([], []), ([5], [5]), ([], []), ([4, 6, 7], [4, 6, 7]), ([1, 2, 8], [1, 2, 8]), ([9], [9])])
def part_Is.B15 : List Nat := [0, 1, 0, 0, 8, 0, 32, 0, 248, 511, 1023]
theorem part_Is.tab15 : rtab .any (opsOf Tryz.f8 15) = part_Is.T15 := by kernel_rfl
theorem part_Is.bits15 : waitsOk part_Is.T15.2 part_Is.B15 = true := by kernel_rfl
set_option maxHeartbeats 8000000 in
set_option maxRecDepth 100000 in
theorem part_Is.calls (k : Nat) (a0_0 : ByteArray) (a0_1 : Int) (a0_2 : Bool) (a0_3 : Int) (a0_4 : ByteArray) (A0_5 : Option Addr) (c0_5 : Nat) (l0_5 : List (S44)) (r : Bool) (w : World) (hG : Glob w) (hr0_5 : Kd.C k44 w A0_5 l0_5.length l0_5) (hc0_5 : l0_5.length ≤ c0_5) (h : part_Is.f k a0_0 a0_1 a0_2 a0_3 a0_4 l0_5 = some r) :
 Calls Tryz.prog 8 #[.agg #[.string a0_0, .int .i64 a0_1, .bool a0_2, .int .i64 a0_3, .string a0_4, .slice A0_5 l0_5.length c0_5]] w fun e w' => e = .returned (.bool r) ∧ Below w.heap.size w w' := by
 have hu24 := Tryz.underlying24
 have hu44 := Tryz.underlying44
 have HR0_5 := Azz.mk hr0_5
 have HC0_5 := Azz.mk hc0_5
 clear hr0_5 hc0_5
 have HB := Azz.mk (Below.refl w.heap.size w)
 have H : ((local_IsName.f k a0_0).bind fun t205 => (if t205 = true then (if a0_1 < 1 then (part_Is.j0 k true a0_0 a0_1 a0_2 a0_3 a0_4 l0_5) else (if a0_1 > 3 then (part_Is.j0 k true a0_0 a0_1 a0_2 a0_3 a0_4 l0_5) else (if a0_3 < 0 then (part_Is.j0 k true a0_0 a0_1 a0_2 a0_3 a0_4 l0_5) else (part_Is.j0 k (decide (a0_3 > 12)) a0_0 a0_1 a0_2 a0_3 a0_4 l0_5)))) else (part_Is.j0 k true a0_0 a0_1 a0_2 a0_3 a0_4 l0_5))) = some r := h
 clear h
 have HC2 := Azz.mk H
 clear H
 go_enter Tryz.func8, Tryz.ntmps8
 go_upto_region 1 with (first | ((with_reducible refine gate_dst (N := 1) rfl ?_); (try (refine gate_guard (by rfl) ?_; dsimp only)); refine box_event ?hg (N := 1) ?hd (cs := #[.string a0_0, .int .i64 a0_1, .bool a0_2, .int .i64 a0_3, .string a0_4, .slice A0_5 l0_5.length c0_5]) (t := 24) ?hr ?_; (case hd => rfl); (case hg => rfl); (case hr => first | (go_simp; done) | (go_simp; rfl)); intro gb204 hg w3 hbox hb; have n0_ := Azz.mk (bTT (by with_reducible repeat first | exact HB.out | apply bAA | apply bNN | apply bDD) hb); have n1_ := Azz.mk (hbox); have n2_ := Azz.mk ((by rw [hg]; exact (bZZ (by with_reducible repeat first | exact HB.out | apply bAA | apply bNN | apply bDD)) : w.heap.size ≤ gb204)); have n3_ := Azz.mk ((by rw [hg]; exact (bZZ (by with_reducible repeat first | exact HB.out | apply bAA | apply bNN | apply bDD)) : w.heap.size ≤ gb204)); clear HB; have HB := n0_; have BK204 := n1_; have GW204 := n2_; have GE204 := n3_; clear n0_ n1_ n2_ n3_; clear hb hbox hg))
 (try simp only [Act.put, List.setIfInBounds_toArray, List.set_cons_zero, List.set_cons_succ])
 go_cut [30] (fun v30 wc => ∃ (kq : Nat) (x30_1 : Bool), v30 = .bool x30_1 ∧ Azz (part_Is.j0 kq x30_1 a0_0 a0_1 a0_2 a0_3 a0_4 l0_5 = some r) ∧ Azz (kq ≤ k) ∧ Azz (wc.heap[gb204]? = some (.cells #[.string a0_0, .int .i64 a0_1, .bool a0_2, .int .i64 a0_3, .string a0_4, (.slice A0_5 l0_5.length c0_5)] 24 (0, 0))) ∧ Azz (Below w.heap.size w wc))
 case first =>
  have H := HC2.out
  clear HC2
  replace H := Option.bind_eq_some_iff.mp H
  obtain ⟨t205, A40, H⟩ := H
  (try dsimp only at H)
  have A4 := Azz.mk A40
  clear A40
  by_cases c5 : t205 = true
  ·subst c5
   rw [if_pos rfl] at H
   by_cases c6 : a0_1 < 1
   ·rw [if_pos c6] at H
    have c6b0 := decide_eq_true c6
    clear c6
    (first | rw [c6b0] | (simp only [i64_w, i32_w]; rw [c6b0]) | skip)
    have H' := Azz.mk H
    clear H
    obtain ⟨hcz7_0, hcz7_1, hcz7_2, hcz7_3, hcz7_4, hcz7_5, hfz7_0, hfz7_1, hfz7_2, hfz7_3, hfz7_4, hfz7_5⟩ := cel6 BK204.out
    go_wp2_with (first | ((with_reducible refine gate_callee (f := 9) rfl ?_); refine goesL_ (some 9) rfl rfl Tryz.func9 (by kernel_rfl) rfl #[.string a0_0] rfl (by (try simp only [List.map_toArray, List.map_cons, List.map_nil]); first | done | rfl | (simp only [List.length_drop, List.length_take]; rfl)) ?_; (with_reducible refine (local_IsName.calls k a0_0 true _ A4.out).mono ?_); rintro e w8 ⟨rfl, hb⟩; refine ⟨_, rfl, ?_⟩; have n0_ := Azz.mk (blk_b hb BK204.out); have n1_ := Azz.mk (bTT (by with_reducible repeat first | exact HB.out | apply bAA | apply bNN | apply bDD | refine bSS ?_ GE204.out) hb); clear BK204; clear HB; have BK204 := n0_; have HB := n1_; clear n0_ n1_; (try clear hb); (try clear hb2); (try clear hk); (try clear hi); obtain ⟨hcz9_0, hcz9_1, hcz9_2, hcz9_3, hcz9_4, hcz9_5, hfz9_0, hfz9_1, hfz9_2, hfz9_3, hfz9_4, hfz9_5⟩ := cel6 BK204.out))
    go_meet
    case rel => exact ⟨_, (true), (by first | rfl | (simp; done) | (simp [*]; done)), H', ⟨by first | omega | exact Nat.le_refl _⟩, ⟨by (with_reducible repeat first | apply kNN | apply kDD | apply kAA); exact BK204.out⟩, ⟨by repeat (first | (with_reducible first | exact HB.out | apply bAA | apply bNN | apply bDD | refine bSS ?_ GE204.out) | exact HB.out)⟩⟩
   ·rw [if_neg c6] at H
    have c6b0 := decide_eq_false c6
    clear c6
    (first | rw [c6b0] | (simp only [i64_w, i32_w]; rw [c6b0]) | skip)
    by_cases c10 : a0_1 > 3
    ·rw [if_pos c10] at H
     have c10b0 := decide_eq_true c10
     clear c10
     have H' := Azz.mk H
     clear H
     obtain ⟨hcz11_0, hcz11_1, hcz11_2, hcz11_3, hcz11_4, hcz11_5, hfz11_0, hfz11_1, hfz11_2, hfz11_3, hfz11_4, hfz11_5⟩ := cel6 BK204.out
     go_wp2_with (first | ((with_reducible refine gate_callee (f := 9) rfl ?_); refine goesL_ (some 9) rfl rfl Tryz.func9 (by kernel_rfl) rfl #[.string a0_0] rfl (by (try simp only [List.map_toArray, List.map_cons, List.map_nil]); first | done | rfl | (simp only [List.length_drop, List.length_take]; rfl)) ?_; (with_reducible refine (local_IsName.calls k a0_0 true _ A4.out).mono ?_); rintro e w12 ⟨rfl, hb⟩; refine ⟨_, rfl, ?_⟩; have n0_ := Azz.mk (blk_b hb BK204.out); have n1_ := Azz.mk (bTT (by with_reducible repeat first | exact HB.out | apply bAA | apply bNN | apply bDD | refine bSS ?_ GE204.out) hb); clear BK204; clear HB; have BK204 := n0_; have HB := n1_; clear n0_ n1_; (try clear hb); (try clear hb2); (try clear hk); (try clear hi); obtain ⟨hcz13_0, hcz13_1, hcz13_2, hcz13_3, hcz13_4, hcz13_5, hfz13_0, hfz13_1, hfz13_2, hfz13_3, hfz13_4, hfz13_5⟩ := cel6 BK204.out))
     go_meet
     case rel => exact ⟨_, (true), (by first | rfl | (simp; done) | (simp [*]; done)), H', ⟨by first | omega | exact Nat.le_refl _⟩, ⟨by (with_reducible repeat first | apply kNN | apply kDD | apply kAA); exact BK204.out⟩, ⟨by repeat (first | (with_reducible first | exact HB.out | apply bAA | apply bNN | apply bDD | refine bSS ?_ GE204.out) | exact HB.out)⟩⟩
    ·rw [if_neg c10] at H
     have c10b0 := decide_eq_false c10
     clear c10
     by_cases c14 : a0_3 < 0
     ·rw [if_pos c14] at H
      have c14b0 := decide_eq_true c14
      clear c14
      have H' := Azz.mk H
      clear H
      obtain ⟨hcz15_0, hcz15_1, hcz15_2, hcz15_3, hcz15_4, hcz15_5, hfz15_0, hfz15_1, hfz15_2, hfz15_3, hfz15_4, hfz15_5⟩ := cel6 BK204.out
      go_wp2_with (first | ((with_reducible refine gate_callee (f := 9) rfl ?_); refine goesL_ (some 9) rfl rfl Tryz.func9 (by kernel_rfl) rfl #[.string a0_0] rfl (by (try simp only [List.map_toArray, List.map_cons, List.map_nil]); first | done | rfl | (simp only [List.length_drop, List.length_take]; rfl)) ?_; (with_reducible refine (local_IsName.calls k a0_0 true _ A4.out).mono ?_); rintro e w16 ⟨rfl, hb⟩; refine ⟨_, rfl, ?_⟩; have n0_ := Azz.mk (blk_b hb BK204.out); have n1_ := Azz.mk (bTT (by with_reducible repeat first | exact HB.out | apply bAA | apply bNN | apply bDD | refine bSS ?_ GE204.out) hb); clear BK204; clear HB; have BK204 := n0_; have HB := n1_; clear n0_ n1_; (try clear hb); (try clear hb2); (try clear hk); (try clear hi); obtain ⟨hcz17_0, hcz17_1, hcz17_2, hcz17_3, hcz17_4, hcz17_5, hfz17_0, hfz17_1, hfz17_2, hfz17_3, hfz17_4, hfz17_5⟩ := cel6 BK204.out))
      go_meet
      case rel => exact ⟨_, (true), (by first | rfl | (simp; done) | (simp [*]; done)), H', ⟨by first | omega | exact Nat.le_refl _⟩, ⟨by (with_reducible repeat first | apply kNN | apply kDD | apply kAA); exact BK204.out⟩, ⟨by repeat (first | (with_reducible first | exact HB.out | apply bAA | apply bNN | apply bDD | refine bSS ?_ GE204.out) | exact HB.out)⟩⟩
     ·rw [if_neg c14] at H
      have c14b0 := decide_eq_false c14
      clear c14
      have H' := Azz.mk H
      clear H
      obtain ⟨hcz18_0, hcz18_1, hcz18_2, hcz18_3, hcz18_4, hcz18_5, hfz18_0, hfz18_1, hfz18_2, hfz18_3, hfz18_4, hfz18_5⟩ := cel6 BK204.out
      go_wp2_with (first | ((with_reducible refine gate_callee (f := 9) rfl ?_); refine goesL_ (some 9) rfl rfl Tryz.func9 (by kernel_rfl) rfl #[.string a0_0] rfl (by (try simp only [List.map_toArray, List.map_cons, List.map_nil]); first | done | rfl | (simp only [List.length_drop, List.length_take]; rfl)) ?_; (with_reducible refine (local_IsName.calls k a0_0 true _ A4.out).mono ?_); rintro e w19 ⟨rfl, hb⟩; refine ⟨_, rfl, ?_⟩; have n0_ := Azz.mk (blk_b hb BK204.out); have n1_ := Azz.mk (bTT (by with_reducible repeat first | exact HB.out | apply bAA | apply bNN | apply bDD | refine bSS ?_ GE204.out) hb); clear BK204; clear HB; have BK204 := n0_; have HB := n1_; clear n0_ n1_; (try clear hb); (try clear hb2); (try clear hk); (try clear hi); obtain ⟨hcz20_0, hcz20_1, hcz20_2, hcz20_3, hcz20_4, hcz20_5, hfz20_0, hfz20_1, hfz20_2, hfz20_3, hfz20_4, hfz20_5⟩ := cel6 BK204.out))
      go_meet
      case rel => exact ⟨_, (decide (a0_3 > 12)), (by first | rfl | (simp; done) | (simp [*]; done)), H', ⟨by first | omega | exact Nat.le_refl _⟩, ⟨by (with_reducible repeat first | apply kNN | apply kDD | apply kAA); exact BK204.out⟩, ⟨by repeat (first | (with_reducible first | exact HB.out | apply bAA | apply bNN | apply bDD | refine bSS ?_ GE204.out) | exact HB.out)⟩⟩
  ·replace c5 := Bool.eq_false_iff.mpr c5
   subst c5
   rw [if_neg (show ¬ (false = true) by decide)] at H
   have H' := Azz.mk H
   clear H
   obtain ⟨hcz21_0, hcz21_1, hcz21_2, hcz21_3, hcz21_4, hcz21_5, hfz21_0, hfz21_1, hfz21_2, hfz21_3, hfz21_4, hfz21_5⟩ := cel6 BK204.out
   go_wp2_with (first | ((with_reducible refine gate_callee (f := 9) rfl ?_); refine goesL_ (some 9) rfl rfl Tryz.func9 (by kernel_rfl) rfl #[.string a0_0] rfl (by (try simp only [List.map_toArray, List.map_cons, List.map_nil]); first | done | rfl | (simp only [List.length_drop, List.length_take]; rfl)) ?_; (with_reducible refine (local_IsName.calls k a0_0 false _ A4.out).mono ?_); rintro e w22 ⟨rfl, hb⟩; refine ⟨_, rfl, ?_⟩; have n0_ := Azz.mk (blk_b hb BK204.out); have n1_ := Azz.mk (bTT (by with_reducible repeat first | exact HB.out | apply bAA | apply bNN | apply bDD | refine bSS ?_ GE204.out) hb); clear BK204; clear HB; have BK204 := n0_; have HB := n1_; clear n0_ n1_; (try clear hb); (try clear hb2); (try clear hk); (try clear hi)))
   go_meet
   case rel => exact ⟨_, (true), (by first | rfl | (simp; done) | (simp [*]; done)), H', ⟨by first | omega | exact Nat.le_refl _⟩, ⟨by (with_reducible repeat first | apply kNN | apply kDD | apply kAA); exact BK204.out⟩, ⟨by repeat (first | (with_reducible first | exact HB.out | apply bAA | apply bNN | apply bDD | refine bSS ?_ GE204.out) | exact HB.out)⟩⟩
 case rest =>
  clear HC2
  try clear c1
  try clear p2
  try clear c5
  try clear c6
  try clear c6b0
  try clear c8
  try clear c9
  try clear c10
  try clear c10b0
  try clear c14
  try clear c14b0
  try clear hcz11_0 hcz11_1 hcz11_2 hcz11_3 hcz11_4 hcz11_5 hcz13_0 hcz13_1 hcz13_2 hcz13_3 hcz13_4 hcz13_5 hcz15_0 hcz15_1 hcz15_2 hcz15_3 hcz15_4 hcz15_5 hcz17_0 hcz17_1 hcz17_2 hcz17_3 hcz17_4 hcz17_5 hcz18_0 hcz18_1 hcz18_2 hcz18_3 hcz18_4 hcz18_5 hcz20_0 hcz20_1 hcz20_2 hcz20_3 hcz20_4 hcz20_5 hcz21_0 hcz21_1 hcz21_2 hcz21_3 hcz21_4 hcz21_5 hcz7_0 hcz7_1 hcz7_2 hcz7_3 hcz7_4 hcz7_5 hcz9_0 hcz9_1 hcz9_2 hcz9_3 hcz9_4 hcz9_5 hfz11_0 hfz11_1 hfz11_2 hfz11_3 hfz11_4 hfz11_5 hfz13_0 hfz13_1 hfz13_2 hfz13_3 hfz13_4 hfz13_5 hfz15_0 hfz15_1 hfz15_2 hfz15_3 hfz15_4 hfz15_5 hfz17_0 hfz17_1 hfz17_2 hfz17_3 hfz17_4 hfz17_5 hfz18_0 hfz18_1 hfz18_2 hfz18_3 hfz18_4 hfz18_5 hfz20_0 hfz20_1 hfz20_2 hfz20_3 hfz20_4 hfz20_5 hfz21_0 hfz21_1 hfz21_2 hfz21_3 hfz21_4 hfz21_5 hfz7_0 hfz7_1 hfz7_2 hfz7_3 hfz7_4 hfz7_5 hfz9_0 hfz9_1 hfz9_2 hfz9_3 hfz9_4 hfz9_5
  obtain ⟨kq, x30_1, rfl, HA, HJ1, BK204, HB⟩ := hcut
  cases kq with
  | zero => exact absurd HA.out (by simp [part_Is.j0])
  | succ kj1 =>
   have H := HA.out
   clear HA
   simp only [part_Is.j0] at H
   by_cases c23 : x30_1 = true
   ·subst c23
    rw [if_pos rfl] at H
    obtain rfl := Option.some.inj H
    go_wp2
    go_ret
    exact ⟨by first | rfl | (simp [eNN, eSS] <;> rfl) | (simp [*, eNN, eSS] <;> rfl), by repeat (first | (with_reducible first | exact HB.out | apply bAA | apply bNN | apply bDD | refine bSS ?_ GE204.out) | exact HB.out)⟩
   ·replace c23 := Bool.eq_false_iff.mpr c23
    subst c23
    rw [if_neg (show ¬ (false = true) by decide)] at H
    have HC24 := Azz.mk H
    clear H
    go_upto_region 3 with (fail)
    go_cut [40] (fun v40 wc => ∃ (kq : Nat) (x40_23 : Bool), v40 = .bool x40_23 ∧ Azz (part_Is.j1 kq x40_23 a0_0 a0_1 a0_2 a0_3 a0_4 l0_5 = some r) ∧ Azz (kq ≤ kj1) ∧ Azz (wc.heap[gb204]? = some (.cells #[.string a0_0, .int .i64 a0_1, .bool a0_2, .int .i64 a0_3, .string a0_4, (.slice A0_5 l0_5.length c0_5)] 24 (0, 0))) ∧ Azz (Below w.heap.size w wc))
    case first =>
     have H := HC24.out
     clear HC24
     by_cases c25 : (a0_4.size : Int) > 4096
     ·rw [if_pos c25] at H
      have c25b0 := decide_eq_true c25
      have c25b1 : decide (4096 < a0_4.size) = true := decide_eq_true (by omega)
      clear c25
      (first | rw [c25b0] | (simp only [i64_w, i32_w]; rw [c25b0]) | skip)
      have H' := Azz.mk H
      clear H
      obtain ⟨hcz26_0, hcz26_1, hcz26_2, hcz26_3, hcz26_4, hcz26_5, hfz26_0, hfz26_1, hfz26_2, hfz26_3, hfz26_4, hfz26_5⟩ := cel6 BK204.out
      go_wp2
      go_meet
      case rel => exact ⟨_, (true), (by first | rfl | (simp; done) | (simp [*]; done)), H', ⟨by have := HJ1.out; first | omega | exact Nat.le_refl _⟩, ⟨by (with_reducible repeat first | apply kNN | apply kDD | apply kAA); exact BK204.out⟩, ⟨by repeat (first | (with_reducible first | exact HB.out | apply bAA | apply bNN | apply bDD | refine bSS ?_ GE204.out) | exact HB.out)⟩⟩
     ·rw [if_neg c25] at H
      have c25b0 := decide_eq_false c25
      have c25b1 : decide (4096 < a0_4.size) = false := decide_eq_false (by omega)
      clear c25
      (first | rw [c25b0] | (simp only [i64_w, i32_w]; rw [c25b0]) | skip)
      have H' := Azz.mk H
      clear H
      obtain ⟨hcz27_0, hcz27_1, hcz27_2, hcz27_3, hcz27_4, hcz27_5, hfz27_0, hfz27_1, hfz27_2, hfz27_3, hfz27_4, hfz27_5⟩ := cel6 BK204.out
      go_wp2
      go_meet
      case rel => exact ⟨_, (decide ((l0_5.length : Int) > 64)), (by first | rfl | (simp; done) | (simp [*]; done)), H', ⟨by have := HJ1.out; first | omega | exact Nat.le_refl _⟩, ⟨by (with_reducible repeat first | apply kNN | apply kDD | apply kAA); exact BK204.out⟩, ⟨by repeat (first | (with_reducible first | exact HB.out | apply bAA | apply bNN | apply bDD | refine bSS ?_ GE204.out) | exact HB.out)⟩⟩
    case rest =>
     clear HC24
     try clear c1
     try clear c2
     try clear p2
     try clear c5
     try clear c6
     try clear c6b0
     try clear c8
     try clear c9
     try clear c10
     try clear c10b0
     try clear c14
     try clear c14b0
     try clear c23
     try clear c25
     try clear c25b0
     try clear c25b1
     try clear p2
     try clear hcz11_0 hcz11_1 hcz11_2 hcz11_3 hcz11_4 hcz11_5 hcz13_0 hcz13_1 hcz13_2 hcz13_3 hcz13_4 hcz13_5 hcz15_0 hcz15_1 hcz15_2 hcz15_3 hcz15_4 hcz15_5 hcz17_0 hcz17_1 hcz17_2 hcz17_3 hcz17_4 hcz17_5 hcz18_0 hcz18_1 hcz18_2 hcz18_3 hcz18_4 hcz18_5 hcz20_0 hcz20_1 hcz20_2 hcz20_3 hcz20_4 hcz20_5 hcz21_0 hcz21_1 hcz21_2 hcz21_3 hcz21_4 hcz21_5 hcz26_0 hcz26_1 hcz26_2 hcz26_3 hcz26_4 hcz26_5 hcz27_0 hcz27_1 hcz27_2 hcz27_3 hcz27_4 hcz27_5 hcz7_0 hcz7_1 hcz7_2 hcz7_3 hcz7_4 hcz7_5 hcz9_0 hcz9_1 hcz9_2 hcz9_3 hcz9_4 hcz9_5 hfz11_0 hfz11_1 hfz11_2 hfz11_3 hfz11_4 hfz11_5 hfz13_0 hfz13_1 hfz13_2 hfz13_3 hfz13_4 hfz13_5 hfz15_0 hfz15_1 hfz15_2 hfz15_3 hfz15_4 hfz15_5 hfz17_0 hfz17_1 hfz17_2 hfz17_3 hfz17_4 hfz17_5 hfz18_0 hfz18_1 hfz18_2 hfz18_3 hfz18_4 hfz18_5 hfz20_0 hfz20_1 hfz20_2 hfz20_3 hfz20_4 hfz20_5 hfz21_0 hfz21_1 hfz21_2 hfz21_3 hfz21_4 hfz21_5 hfz26_0 hfz26_1 hfz26_2 hfz26_3 hfz26_4 hfz26_5 hfz27_0 hfz27_1 hfz27_2 hfz27_3 hfz27_4 hfz27_5 hfz7_0 hfz7_1 hfz7_2 hfz7_3 hfz7_4 hfz7_5 hfz9_0 hfz9_1 hfz9_2 hfz9_3 hfz9_4 hfz9_5
     obtain ⟨kq, x40_23, rfl, HA, HJ23, BK204, HB⟩ := hcut
     cases kq with
     | zero => exact absurd HA.out (by simp [part_Is.j1])
     | succ kj23 =>
      have H := HA.out
      clear HA
      simp only [part_Is.j1] at H
      by_cases c28 : x40_23 = true
      ·subst c28
       rw [if_pos rfl] at H
       obtain rfl := Option.some.inj H
       go_wp2
       go_ret
       exact ⟨by first | rfl | (simp [eNN, eSS] <;> rfl) | (simp [*, eNN, eSS] <;> rfl), by repeat (first | (with_reducible first | exact HB.out | apply bAA | apply bNN | apply bDD | refine bSS ?_ GE204.out) | exact HB.out)⟩
      ·replace c28 := Bool.eq_false_iff.mpr c28
       subst c28
       rw [if_neg (show ¬ (false = true) by decide)] at H
       have H' := Azz.mk H
       clear H
       obtain ⟨hcz29_0, hcz29_1, hcz29_2, hcz29_3, hcz29_4, hcz29_5, hfz29_0, hfz29_1, hfz29_2, hfz29_3, hfz29_4, hfz29_5⟩ := cel6 BK204.out
       go_wp2
       go_loopg [3, 44] kj23 (fun kq v3 v44 w' => ∃ (x3_3 : Int) (x44_3 : Int), v3 = .int .i64 x3_3 ∧ v44 = .int .i64 x44_3 ∧ Azz (part_Is.l0 kq x3_3 l0_5 (l0_5.length : Int) x44_3 a0_0 a0_1 a0_2 a0_3 a0_4 l0_5 = some r) ∧ Azz (kq ≤ kj23) ∧ Azz (w'.heap[gb204]? = some (.cells #[.string a0_0, .int .i64 a0_1, .bool a0_2, .int .i64 a0_3, .string a0_4, (.slice A0_5 l0_5.length c0_5)] 24 (0, 0))) ∧ Azz (Below w.heap.size w w'))
       case atStart => exact ⟨(0), (0), (by first | rfl | (simp; done) | (simp [*]; done)), (by first | rfl | (simp; done) | (simp [*]; done)), H', ⟨Nat.le_refl _⟩, ⟨by (with_reducible repeat first | apply kNN | apply kDD | apply kAA); exact BK204.out⟩, ⟨by repeat (first | (with_reducible first | exact HB.out | apply bAA | apply bNN | apply bDD | refine bSS ?_ GE204.out) | exact HB.out)⟩⟩
       case round =>
        clear H'
        try clear c1
        try clear c2
        try clear p2
        try clear c5
        try clear c6
        try clear c6b0
        try clear c8
        try clear c9
        try clear c10
        try clear c10b0
        try clear c14
        try clear c14b0
        try clear c23
        try clear c25
        try clear c25b0
        try clear c25b1
        try clear c28
        try clear p2
        try clear hcz11_0 hcz11_1 hcz11_2 hcz11_3 hcz11_4 hcz11_5 hcz13_0 hcz13_1 hcz13_2 hcz13_3 hcz13_4 hcz13_5 hcz15_0 hcz15_1 hcz15_2 hcz15_3 hcz15_4 hcz15_5 hcz17_0 hcz17_1 hcz17_2 hcz17_3 hcz17_4 hcz17_5 hcz18_0 hcz18_1 hcz18_2 hcz18_3 hcz18_4 hcz18_5 hcz20_0 hcz20_1 hcz20_2 hcz20_3 hcz20_4 hcz20_5 hcz21_0 hcz21_1 hcz21_2 hcz21_3 hcz21_4 hcz21_5 hcz26_0 hcz26_1 hcz26_2 hcz26_3 hcz26_4 hcz26_5 hcz27_0 hcz27_1 hcz27_2 hcz27_3 hcz27_4 hcz27_5 hcz29_0 hcz29_1 hcz29_2 hcz29_3 hcz29_4 hcz29_5 hcz7_0 hcz7_1 hcz7_2 hcz7_3 hcz7_4 hcz7_5 hcz9_0 hcz9_1 hcz9_2 hcz9_3 hcz9_4 hcz9_5 hfz11_0 hfz11_1 hfz11_2 hfz11_3 hfz11_4 hfz11_5 hfz13_0 hfz13_1 hfz13_2 hfz13_3 hfz13_4 hfz13_5 hfz15_0 hfz15_1 hfz15_2 hfz15_3 hfz15_4 hfz15_5 hfz17_0 hfz17_1 hfz17_2 hfz17_3 hfz17_4 hfz17_5 hfz18_0 hfz18_1 hfz18_2 hfz18_3 hfz18_4 hfz18_5 hfz20_0 hfz20_1 hfz20_2 hfz20_3 hfz20_4 hfz20_5 hfz21_0 hfz21_1 hfz21_2 hfz21_3 hfz21_4 hfz21_5 hfz26_0 hfz26_1 hfz26_2 hfz26_3 hfz26_4 hfz26_5 hfz27_0 hfz27_1 hfz27_2 hfz27_3 hfz27_4 hfz27_5 hfz29_0 hfz29_1 hfz29_2 hfz29_3 hfz29_4 hfz29_5 hfz7_0 hfz7_1 hfz7_2 hfz7_3 hfz7_4 hfz7_5 hfz9_0 hfz9_1 hfz9_2 hfz9_3 hfz9_4 hfz9_5
        obtain ⟨x3_3, x44_3, rfl, rfl, HA, HK3, BK204, HB⟩ := hrel
        cases gk with
        | zero => exact absurd HA.out (by simp [part_Is.l0])
        | succ k3 =>
         have H := HA.out
         clear HA
         simp only [part_Is.l0] at H
         by_cases c30 : x44_3 < (l0_5.length : Int)
         ·rw [if_pos c30] at H
          have c30b0 := decide_eq_true c30
          clear c30
          by_cases c31 : 0 ≤ x44_3
          ·rw [if_pos c31] at H
           have c31b0 := decide_eq_true c31
           clear c31
           by_cases c32 : x44_3 < (l0_5.length : Int)
           ·rw [if_pos c32] at H
            have c32b0 := decide_eq_true c32
            clear c32
            have HC33 := Azz.mk H
            clear H
            have p206 : 0 ≤ (x44_3 : Int) := of_decide_eq_true (by first | (with_reducible assumption) | assumption)
            have q206 : x44_3 < (l0_5.length : Int) := of_decide_eq_true (by first | (with_reducible assumption) | assumption)
            obtain ⟨ad206, e206, hx206_0, hx206_1, hx206_2, hx206_3⟩ := at_T44 HR0_5.out x44_3 p206 q206
            cases e206
            replace hx206_0 := (HB.out.cell (World.block_lt_of_cell? w _ hx206_0)).trans hx206_0
            replace hx206_1 := (HB.out.cell (World.block_lt_of_cell? w _ hx206_1)).trans hx206_1
            replace hx206_2 := (HB.out.cell (World.block_lt_of_cell? w _ hx206_2)).trans hx206_2
            replace hx206_3 := (HB.out.cell (World.block_lt_of_cell? w _ hx206_3)).trans hx206_3
            replace p206 := eq_true p206
            replace q206 := eq_true q206
            go_upto_if 50 with (first | ((with_reducible refine gate_dst (N := 5) rfl ?_); (try (refine gate_guard (by rfl) ?_; dsimp only)); refine box_event ?hg (N := 5) ?hd (cs := #[.int .i64 0, .int .i64 0, .int .i64 0, .int .i64 0]) (t := 44) ?hr ?_; (case hd => rfl); (case hg => rfl); (case hr => first | (go_simp; done) | (go_simp; rfl)); intro gb207 hg w34 hbox hb; have n0_ := Azz.mk (blk_b hb BK204.out); have n1_ := Azz.mk (bTT (by with_reducible repeat first | exact HB.out | apply bAA | apply bNN | apply bDD | refine bSS ?_ GE204.out) hb); have n2_ := Azz.mk (hbox); have n3_ := Azz.mk ((by rw [hg]; exact (bZZ (by with_reducible repeat first | exact HB.out | apply bAA | apply bNN | apply bDD | refine bSS ?_ GE204.out)) : w.heap.size ≤ gb207)); have n4_ := Azz.mk ((by rw [hg]; exact (bZZ (by with_reducible repeat first | exact HB.out | apply bAA | apply bNN | apply bDD | refine bSS ?_ GE204.out)) : w.heap.size ≤ gb207)); have n5_ := Azz.mk ((by rw [hg]; exact Nat.ne_of_lt (blk_lt BK204.out) : gb204 ≠ gb207)); have n6_ := Azz.mk ((by rw [hg]; exact Nat.ne_of_gt (blk_lt BK204.out) : gb207 ≠ gb204)); clear BK204; clear HB; have BK204 := n0_; have HB := n1_; have BK207 := n2_; have GW207 := n3_; have GE207 := n4_; have NB204_207 := n5_; have NB207_204 := n6_; clear n0_ n1_ n2_ n3_ n4_ n5_ n6_; clear hb hbox hg; have hnb35 := NB207_204.out; have hnc35 := NB204_207.out; obtain ⟨hcz36_0, hcz36_1, hcz36_2, hcz36_3, hfz36_0, hfz36_1, hfz36_2, hfz36_3⟩ := cel4 BK207.out))
            (try simp only [Act.put, List.setIfInBounds_toArray, List.set_cons_zero, List.set_cons_succ])
            go_cut [6] (fun v6 wc => ∃ (kq : Nat) (x6_32 : Int), v6 = .int .i64 x6_32 ∧ Azz (part_Is.j3 kq x3_3 x6_32 l0_5 (l0_5.length : Int) x44_3 a0_0 a0_1 a0_2 a0_3 a0_4 l0_5 ((rd_T44 l0_5 x44_3).f0) ((rd_T44 l0_5 x44_3).f1) ((rd_T44 l0_5 x44_3).f2) ((rd_T44 l0_5 x44_3).f3) = some r) ∧ Azz (kq ≤ k3) ∧ Azz (wc.heap[gb204]? = some (.cells #[.string a0_0, .int .i64 a0_1, .bool a0_2, .int .i64 a0_3, .string a0_4, (.slice (some ad206) l0_5.length c0_5)] 24 (0, 0))) ∧ Azz (wc.heap[gb207]? = some (.cells #[.int .i64 ((rd_T44 l0_5 x44_3).f0), .int .i64 ((rd_T44 l0_5 x44_3).f1), .int .i64 ((rd_T44 l0_5 x44_3).f2), .int .i64 ((rd_T44 l0_5 x44_3).f3)] 44 (0, 0))) ∧ Azz (Below w.heap.size w wc))
            case first =>
             have H := HC33.out
             clear HC33
             by_cases c37 : ((rd_T44 l0_5 x44_3).f1) = 1
             ·rw [if_pos c37] at H
              have c37b0 := beq_iff_eq.mpr c37
              have c37b1 := bne_eq_false_iff_eq.mpr c37
              clear c37
              (first | rw [c37b0] | (simp only [i64_w, i32_w]; rw [c37b0]) | skip)
              have H' := Azz.mk H
              clear H
              go_wp2
              go_meet
              case rel => exact ⟨_, (8), (by first | rfl | (simp; done) | (simp [*]; done)), H', ⟨by have := HJ1.out; have := HJ23.out; have := HK3.out; first | omega | exact Nat.le_refl _⟩, ⟨by (with_reducible repeat first | apply kNN | apply kDD | apply kAA); refine blk_far ?_ NB204_207.out _; (with_reducible repeat first | apply kNN | apply kDD | apply kAA); refine blk_far ?_ NB204_207.out _; (with_reducible repeat first | apply kNN | apply kDD | apply kAA); refine blk_far ?_ NB204_207.out _; (with_reducible repeat first | apply kNN | apply kDD | apply kAA); refine blk_far ?_ NB204_207.out _; (with_reducible repeat first | apply kNN | apply kDD | apply kAA); exact BK204.out⟩, ⟨by (with_reducible repeat first | apply kNN | apply kDD | apply kAA); refine blk_put (cs := #[.int .i64 ((rd_T44 l0_5 x44_3).f0), .int .i64 ((rd_T44 l0_5 x44_3).f1), .int .i64 ((rd_T44 l0_5 x44_3).f2), .int .i64 0]) ?_ 3 _ rfl; (with_reducible repeat first | apply kNN | apply kDD | apply kAA); refine blk_put (cs := #[.int .i64 ((rd_T44 l0_5 x44_3).f0), .int .i64 ((rd_T44 l0_5 x44_3).f1), .int .i64 0, .int .i64 0]) ?_ 2 _ rfl; (with_reducible repeat first | apply kNN | apply kDD | apply kAA); refine blk_put (cs := #[.int .i64 ((rd_T44 l0_5 x44_3).f0), .int .i64 0, .int .i64 0, .int .i64 0]) ?_ 1 _ rfl; (with_reducible repeat first | apply kNN | apply kDD | apply kAA); refine blk_put (cs := #[.int .i64 0, .int .i64 0, .int .i64 0, .int .i64 0]) ?_ 0 _ rfl; (with_reducible repeat first | apply kNN | apply kDD | apply kAA); exact BK207.out⟩, ⟨by repeat (first | (with_reducible first | exact HB.out | apply bAA | apply bNN | apply bDD | refine bSS ?_ GE204.out | refine bSS ?_ GE207.out) | exact HB.out)⟩⟩
             ·rw [if_neg c37] at H
              have c37b0 := beq_eq_false_iff_ne.mpr c37
              have c37b1 := bne_iff_ne.mpr c37
              (first | rw [c37b0] | (simp only [i64_w, i32_w]; rw [c37b0]) | skip)
              have H' := Azz.mk H
              clear H
              go_wp2
              go_meet
              case rel => exact ⟨_, (4), (by first | rfl | (simp; done) | (simp [*]; done)), H', ⟨by have := HJ1.out; have := HJ23.out; have := HK3.out; first | omega | exact Nat.le_refl _⟩, ⟨by (with_reducible repeat first | apply kNN | apply kDD | apply kAA); refine blk_far ?_ NB204_207.out _; (with_reducible repeat first | apply kNN | apply kDD | apply kAA); refine blk_far ?_ NB204_207.out _; (with_reducible repeat first | apply kNN | apply kDD | apply kAA); refine blk_far ?_ NB204_207.out _; (with_reducible repeat first | apply kNN | apply kDD | apply kAA); refine blk_far ?_ NB204_207.out _; (with_reducible repeat first | apply kNN | apply kDD | apply kAA); exact BK204.out⟩, ⟨by (with_reducible repeat first | apply kNN | apply kDD | apply kAA); refine blk_put (cs := #[.int .i64 ((rd_T44 l0_5 x44_3).f0), .int .i64 ((rd_T44 l0_5 x44_3).f1), .int .i64 ((rd_T44 l0_5 x44_3).f2), .int .i64 0]) ?_ 3 _ rfl; (with_reducible repeat first | apply kNN | apply kDD | apply kAA); refine blk_put (cs := #[.int .i64 ((rd_T44 l0_5 x44_3).f0), .int .i64 ((rd_T44 l0_5 x44_3).f1), .int .i64 0, .int .i64 0]) ?_ 2 _ rfl; (with_reducible repeat first | apply kNN | apply kDD | apply kAA); refine blk_put (cs := #[.int .i64 ((rd_T44 l0_5 x44_3).f0), .int .i64 0, .int .i64 0, .int .i64 0]) ?_ 1 _ rfl; (with_reducible repeat first | apply kNN | apply kDD | apply kAA); refine blk_put (cs := #[.int .i64 0, .int .i64 0, .int .i64 0, .int .i64 0]) ?_ 0 _ rfl; (with_reducible repeat first | apply kNN | apply kDD | apply kAA); exact BK207.out⟩, ⟨by repeat (first | (with_reducible first | exact HB.out | apply bAA | apply bNN | apply bDD | refine bSS ?_ GE204.out | refine bSS ?_ GE207.out) | exact HB.out)⟩⟩
            case rest =>
             clear HC33
             try clear c1
             try clear c2
             try clear p2
             try clear q2
             try clear hx2
             try clear c3
             try clear c5
             try clear c6
             try clear c6b0
             try clear c8
             try clear c9
             try clear c10
             try clear c10b0
             try clear c14
             try clear c14b0
             try clear p20
             try clear q20
             try clear hx20
             try clear c23
             try clear c25
             try clear c25b0
             try clear c25b1
             try clear c28
             try clear c30
             try clear c30b0
             try clear c31
             try clear c31b0
             try clear c32
             try clear c32b0
             try clear c35
             try clear c37
             try clear c37b0
             try clear c37b1
             try clear hx206_0
             try clear hx206_1
             try clear hx206_2
             try clear hx206_3
             try clear p2
             try clear p206
             try clear q206
             try clear hcz11_0 hcz11_1 hcz11_2 hcz11_3 hcz11_4 hcz11_5 hcz13_0 hcz13_1 hcz13_2 hcz13_3 hcz13_4 hcz13_5 hcz15_0 hcz15_1 hcz15_2 hcz15_3 hcz15_4 hcz15_5 hcz17_0 hcz17_1 hcz17_2 hcz17_3 hcz17_4 hcz17_5 hcz18_0 hcz18_1 hcz18_2 hcz18_3 hcz18_4 hcz18_5 hcz20_0 hcz20_1 hcz20_2 hcz20_3 hcz20_4 hcz20_5 hcz21_0 hcz21_1 hcz21_2 hcz21_3 hcz21_4 hcz21_5 hcz26_0 hcz26_1 hcz26_2 hcz26_3 hcz26_4 hcz26_5 hcz27_0 hcz27_1 hcz27_2 hcz27_3 hcz27_4 hcz27_5 hcz29_0 hcz29_1 hcz29_2 hcz29_3 hcz29_4 hcz29_5 hcz36_0 hcz36_1 hcz36_2 hcz36_3 hcz7_0 hcz7_1 hcz7_2 hcz7_3 hcz7_4 hcz7_5 hcz9_0 hcz9_1 hcz9_2 hcz9_3 hcz9_4 hcz9_5 hfz11_0 hfz11_1 hfz11_2 hfz11_3 hfz11_4 hfz11_5 hfz13_0 hfz13_1 hfz13_2 hfz13_3 hfz13_4 hfz13_5 hfz15_0 hfz15_1 hfz15_2 hfz15_3 hfz15_4 hfz15_5 hfz17_0 hfz17_1 hfz17_2 hfz17_3 hfz17_4 hfz17_5 hfz18_0 hfz18_1 hfz18_2 hfz18_3 hfz18_4 hfz18_5 hfz20_0 hfz20_1 hfz20_2 hfz20_3 hfz20_4 hfz20_5 hfz21_0 hfz21_1 hfz21_2 hfz21_3 hfz21_4 hfz21_5 hfz26_0 hfz26_1 hfz26_2 hfz26_3 hfz26_4 hfz26_5 hfz27_0 hfz27_1 hfz27_2 hfz27_3 hfz27_4 hfz27_5 hfz29_0 hfz29_1 hfz29_2 hfz29_3 hfz29_4 hfz29_5 hfz36_0 hfz36_1 hfz36_2 hfz36_3 hfz7_0 hfz7_1 hfz7_2 hfz7_3 hfz7_4 hfz7_5 hfz9_0 hfz9_1 hfz9_2 hfz9_3 hfz9_4 hfz9_5
             obtain ⟨kq, x6_32, rfl, HA, HJ32, BK204, BK207, HB⟩ := hcut
             cases kq with
             | zero => exact absurd HA.out (by simp [part_Is.j3])
             | succ kj32 =>
              have H := HA.out
              clear HA
              simp only [part_Is.j3] at H
              have HC38 := Azz.mk H
              clear H
              go_upto_region 12 with (fail)
              go_cut [69] (fun v69 wc => ∃ (kq : Nat) (x69_37 : Bool), v69 = .bool x69_37 ∧ Azz (part_Is.j4 kq x6_32 l0_5 (l0_5.length : Int) x44_3 x69_37 a0_0 a0_1 a0_2 a0_3 a0_4 l0_5 ((rd_T44 l0_5 x44_3).f0) ((rd_T44 l0_5 x44_3).f1) ((rd_T44 l0_5 x44_3).f2) ((rd_T44 l0_5 x44_3).f3) = some r) ∧ Azz (kq ≤ kj32) ∧ Azz (wc.heap[gb204]? = some (.cells #[.string a0_0, .int .i64 a0_1, .bool a0_2, .int .i64 a0_3, .string a0_4, (.slice (some ad206) l0_5.length c0_5)] 24 (0, 0))) ∧ Azz (wc.heap[gb207]? = some (.cells #[.int .i64 ((rd_T44 l0_5 x44_3).f0), .int .i64 ((rd_T44 l0_5 x44_3).f1), .int .i64 ((rd_T44 l0_5 x44_3).f2), .int .i64 ((rd_T44 l0_5 x44_3).f3)] 44 (0, 0))) ∧ Azz (Below w.heap.size w wc))
              case first =>
               have H := HC38.out
               clear HC38
               by_cases c39 : ((rd_T44 l0_5 x44_3).f0) < x3_3
               ·rw [if_pos c39] at H
                have c39b0 := decide_eq_true c39
                clear c39
                (first | rw [c39b0] | (simp only [i64_w, i32_w]; rw [c39b0]) | skip)
                have H' := Azz.mk H
                clear H
                have hnb40 := NB207_204.out
                have hnc40 := NB204_207.out
                obtain ⟨hcz41_0, hcz41_1, hcz41_2, hcz41_3, hfz41_0, hfz41_1, hfz41_2, hfz41_3⟩ := cel4 BK207.out
                go_wp2
                go_meet
                case rel => exact ⟨_, (true), (by first | rfl | (simp; done) | (simp [*]; done)), H', ⟨by have := HJ1.out; have := HJ23.out; have := HK3.out; have := HJ32.out; first | omega | exact Nat.le_refl _⟩, ⟨by (with_reducible repeat first | apply kNN | apply kDD | apply kAA); exact BK204.out⟩, ⟨by (with_reducible repeat first | apply kNN | apply kDD | apply kAA); exact BK207.out⟩, ⟨by repeat (first | (with_reducible first | exact HB.out | apply bAA | apply bNN | apply bDD | refine bSS ?_ GE204.out | refine bSS ?_ GE207.out) | exact HB.out)⟩⟩
               ·rw [if_neg c39] at H
                have c39b0 := decide_eq_false c39
                clear c39
                (first | rw [c39b0] | (simp only [i64_w, i32_w]; rw [c39b0]) | skip)
                by_cases c42 : ((rd_T44 l0_5 x44_3).f0) > (wrap64 ((a0_4.size : Int) - x6_32))
                ·rw [if_pos c42] at H
                 have c42b0 := decide_eq_true c42
                 clear c42
                 have H' := Azz.mk H
                 clear H
                 have hnb43 := NB207_204.out
                 have hnc43 := NB204_207.out
                 obtain ⟨hcz44_0, hcz44_1, hcz44_2, hcz44_3, hfz44_0, hfz44_1, hfz44_2, hfz44_3⟩ := cel4 BK207.out
                 obtain ⟨hcz45_0, hcz45_1, hcz45_2, hcz45_3, hcz45_4, hcz45_5, hfz45_0, hfz45_1, hfz45_2, hfz45_3, hfz45_4, hfz45_5⟩ := cel6 BK204.out
                 go_wp2
                 go_meet
                 case rel => exact ⟨_, (true), (by first | rfl | (simp; done) | (simp [*]; done)), H', ⟨by have := HJ1.out; have := HJ23.out; have := HK3.out; have := HJ32.out; first | omega | exact Nat.le_refl _⟩, ⟨by (with_reducible repeat first | apply kNN | apply kDD | apply kAA); exact BK204.out⟩, ⟨by (with_reducible repeat first | apply kNN | apply kDD | apply kAA); exact BK207.out⟩, ⟨by repeat (first | (with_reducible first | exact HB.out | apply bAA | apply bNN | apply bDD | refine bSS ?_ GE204.out | refine bSS ?_ GE207.out) | exact HB.out)⟩⟩
                ·rw [if_neg c42] at H
                 have c42b0 := decide_eq_false c42
                 clear c42
                 have H' := Azz.mk H
                 clear H
                 have hnb46 := NB207_204.out
                 have hnc46 := NB204_207.out
                 obtain ⟨hcz47_0, hcz47_1, hcz47_2, hcz47_3, hfz47_0, hfz47_1, hfz47_2, hfz47_3⟩ := cel4 BK207.out
                 obtain ⟨hcz48_0, hcz48_1, hcz48_2, hcz48_3, hcz48_4, hcz48_5, hfz48_0, hfz48_1, hfz48_2, hfz48_3, hfz48_4, hfz48_5⟩ := cel6 BK204.out
                 go_wp2
                 go_meet
                 case rel => exact ⟨_, (decide (((rd_T44 l0_5 x44_3).f2) < 0)), (by first | rfl | (simp; done) | (simp [*]; done)), H', ⟨by have := HJ1.out; have := HJ23.out; have := HK3.out; have := HJ32.out; first | omega | exact Nat.le_refl _⟩, ⟨by (with_reducible repeat first | apply kNN | apply kDD | apply kAA); exact BK204.out⟩, ⟨by (with_reducible repeat first | apply kNN | apply kDD | apply kAA); exact BK207.out⟩, ⟨by repeat (first | (with_reducible first | exact HB.out | apply bAA | apply bNN | apply bDD | refine bSS ?_ GE204.out | refine bSS ?_ GE207.out) | exact HB.out)⟩⟩
              case rest =>
               clear HC38
               try clear c1
               try clear c2
               try clear p2
               try clear q2
               try clear hx2
               try clear c3
               try clear c4
               try clear c5
               try clear c6
               try clear c6b0
               try clear p6
               try clear c8
               try clear c9
               try clear c10
               try clear c10b0
               try clear c14
               try clear c14b0
               try clear p20
               try clear q20
               try clear hx20
               try clear c23
               try clear c25
               try clear c25b0
               try clear c25b1
               try clear c28
               try clear c30
               try clear c30b0
               try clear c31
               try clear c31b0
               try clear c32
               try clear c32b0
               try clear c35
               try clear c37
               try clear c37b0
               try clear c37b1
               try clear c39
               try clear c39b0
               try clear c40
               try clear c42
               try clear c42b0
               try clear c43
               try clear c46
               try clear hx206_0
               try clear hx206_1
               try clear hx206_2
               try clear hx206_3
               try clear p2
               try clear p20
               try clear p206
               try clear q2
               try clear q20
               try clear q206
               try clear hcz11_0 hcz11_1 hcz11_2 hcz11_3 hcz11_4 hcz11_5 hcz13_0 hcz13_1 hcz13_2 hcz13_3 hcz13_4 hcz13_5 hcz15_0 hcz15_1 hcz15_2 hcz15_3 hcz15_4 hcz15_5 hcz17_0 hcz17_1 hcz17_2 hcz17_3 hcz17_4 hcz17_5 hcz18_0 hcz18_1 hcz18_2 hcz18_3 hcz18_4 hcz18_5 hcz20_0 hcz20_1 hcz20_2 hcz20_3 hcz20_4 hcz20_5 hcz21_0 hcz21_1 hcz21_2 hcz21_3 hcz21_4 hcz21_5 hcz26_0 hcz26_1 hcz26_2 hcz26_3 hcz26_4 hcz26_5 hcz27_0 hcz27_1 hcz27_2 hcz27_3 hcz27_4 hcz27_5 hcz29_0 hcz29_1 hcz29_2 hcz29_3 hcz29_4 hcz29_5 hcz36_0 hcz36_1 hcz36_2 hcz36_3 hcz41_0 hcz41_1 hcz41_2 hcz41_3 hcz44_0 hcz44_1 hcz44_2 hcz44_3 hcz45_0 hcz45_1 hcz45_2 hcz45_3 hcz45_4 hcz45_5 hcz47_0 hcz47_1 hcz47_2 hcz47_3 hcz48_0 hcz48_1 hcz48_2 hcz48_3 hcz48_4 hcz48_5 hcz7_0 hcz7_1 hcz7_2 hcz7_3 hcz7_4 hcz7_5 hcz9_0 hcz9_1 hcz9_2 hcz9_3 hcz9_4 hcz9_5 hfz11_0 hfz11_1 hfz11_2 hfz11_3 hfz11_4 hfz11_5 hfz13_0 hfz13_1 hfz13_2 hfz13_3 hfz13_4 hfz13_5 hfz15_0 hfz15_1 hfz15_2 hfz15_3 hfz15_4 hfz15_5 hfz17_0 hfz17_1 hfz17_2 hfz17_3 hfz17_4 hfz17_5 hfz18_0 hfz18_1 hfz18_2 hfz18_3 hfz18_4 hfz18_5 hfz20_0 hfz20_1 hfz20_2 hfz20_3 hfz20_4 hfz20_5 hfz21_0 hfz21_1 hfz21_2 hfz21_3 hfz21_4 hfz21_5 hfz26_0 hfz26_1 hfz26_2 hfz26_3 hfz26_4 hfz26_5 hfz27_0 hfz27_1 hfz27_2 hfz27_3 hfz27_4 hfz27_5 hfz29_0 hfz29_1 hfz29_2 hfz29_3 hfz29_4 hfz29_5 hfz36_0 hfz36_1 hfz36_2 hfz36_3 hfz41_0 hfz41_1 hfz41_2 hfz41_3 hfz44_0 hfz44_1 hfz44_2 hfz44_3 hfz45_0 hfz45_1 hfz45_2 hfz45_3 hfz45_4 hfz45_5 hfz47_0 hfz47_1 hfz47_2 hfz47_3 hfz48_0 hfz48_1 hfz48_2 hfz48_3 hfz48_4 hfz48_5 hfz7_0 hfz7_1 hfz7_2 hfz7_3 hfz7_4 hfz7_5 hfz9_0 hfz9_1 hfz9_2 hfz9_3 hfz9_4 hfz9_5
               obtain ⟨kq, x69_37, rfl, HA, HJ37, BK204, BK207, HB⟩ := hcut
               cases kq with
               | zero => exact absurd HA.out (by simp [part_Is.j4])
               | succ kj37 =>
                have H := HA.out
                clear HA
                simp only [part_Is.j4] at H
                by_cases c49 : x69_37 = true
                ·subst c49
                 rw [if_pos rfl] at H
                 obtain rfl := Option.some.inj H
                 go_wp2
                 go_ret
                 exact ⟨by first | rfl | (simp [eNN, eSS] <;> rfl) | (simp [*, eNN, eSS] <;> rfl), by repeat (first | (with_reducible first | exact HB.out | apply bAA | apply bNN | apply bDD | refine bSS ?_ GE204.out | refine bSS ?_ GE207.out) | exact HB.out)⟩
                ·replace c49 := Bool.eq_false_iff.mpr c49
                 subst c49
                 rw [if_neg (show ¬ (false = true) by decide)] at H
                 by_cases c50 : 0 ≤ ((rd_T44 l0_5 x44_3).f0)
                 ·rw [if_pos c50] at H
                  have c50b0 := eq_true c50
                  have c50b1 := decide_eq_true c50
                  clear c50
                  by_cases c51 : ((rd_T44 l0_5 x44_3).f0) ≤ (wrap64 (((rd_T44 l0_5 x44_3).f0) + x6_32))
                  ·rw [if_pos c51] at H
                   have c51b0 := eq_true c51
                   have c51b1 := decide_eq_true c51
                   by_cases c52 : (wrap64 (((rd_T44 l0_5 x44_3).f0) + x6_32)) ≤ (a0_4.size : Int)
                   ·rw [if_pos c52] at H
                    have c52b0 := eq_true c52
                    have c52b1 := decide_eq_true c52
                    replace H := Option.bind_eq_some_iff.mp H
                    obtain ⟨t208, A530, H⟩ := H
                    (try dsimp only at H)
                    have A53 := Azz.mk A530
                    clear A530
                    by_cases c54 : t208 = true
                    ·subst c54
                     rw [if_pos rfl] at H
                     have H' := Azz.mk H
                     clear H
                     have hnb55 := NB207_204.out
                     have hnc55 := NB204_207.out
                     obtain ⟨hcz56_0, hcz56_1, hcz56_2, hcz56_3, hfz56_0, hfz56_1, hfz56_2, hfz56_3⟩ := cel4 BK207.out
                     try go_wp2
                     have n0_ := Azz.mk (kDD BK204.out)
                     have n1_ := Azz.mk (kDD BK207.out)
                     have n2_ := Azz.mk (bDD HB.out)
                     clear BK204
                     clear BK207
                     clear HB
                     have BK204 := n0_
                     have BK207 := n1_
                     have HB := n2_
                     clear n0_ n1_ n2_
                     refine start_ (n := 11) (S := fun w' => w'.cell? ⟨gb204, 0, none⟩ = some (.string a0_0) ∧ w'.cell? ⟨gb204, 1, none⟩ = some (.int .i64 a0_1) ∧ w'.cell? ⟨gb204, 2, none⟩ = some (.bool a0_2) ∧ w'.cell? ⟨gb204, 3, none⟩ = some (.int .i64 a0_3) ∧ w'.cell? ⟨gb204, 4, none⟩ = some (.string a0_4) ∧ w'.cell? ⟨gb204, 5, none⟩ = some (.slice (some ad206) l0_5.length c0_5) ∧ w'.cell? ⟨gb207, 0, none⟩ = some (.int .i64 ((rd_T44 l0_5 x44_3).f0)) ∧ w'.cell? ⟨gb207, 1, none⟩ = some (.int .i64 ((rd_T44 l0_5 x44_3).f1)) ∧ w'.cell? ⟨gb207, 2, none⟩ = some (.int .i64 ((rd_T44 l0_5 x44_3).f2)) ∧ w'.cell? ⟨gb207, 3, none⟩ = some (.int .i64 ((rd_T44 l0_5 x44_3).f3))) (ds := []) #[false, false, false, false, false, false, false, false, false, false, false] (by kernel_rfl) rfl rfl ⟨(kCC BK204.out 0).trans rfl, (kCC BK204.out 1).trans rfl, (kCC BK204.out 2).trans rfl, (kCC BK204.out 3).trans rfl, (kCC BK204.out 4).trans rfl, (kCC BK204.out 5).trans rfl, (kCC BK207.out 0).trans rfl, (kCC BK207.out 1).trans rfl, (kCC BK207.out 2).trans rfl, (kCC BK207.out 3).trans rfl⟩ (fun hHeld => ?_); refine with_tabW part_Is.tab15 part_Is.bits15 (fun HT_ HW_ => ?_)
                     generalize wc.drew = w57 at BK204 BK207 HB hHeld ⊢
                     refine pure_ (i := 0) (N := some 74) (v := ?_) (a' := ?_) #[true, false, false, false, false, false, false, false, false, false, false] rfl rfl (any_of HT_.out (by kernel_rfl)) (fun _ _ _ h => h) (Or.inl ⟨by rfl, ?_⟩) ?_ ?_
                     rotate_left
                     ·intro w'
                      go_simp
                      with_reducible rfl
                     rotate_left
                     ·simp only [Act.put, List.setIfInBounds_toArray, List.set_cons_zero, List.set_cons_succ, i64_w, i32_w]
                      rfl
                     refine pure_ (i := 3) (N := some 77) (v := ?_) (a' := ?_) #[true, false, false, true, false, false, false, false, false, false, false] rfl rfl (any_of HT_.out (by kernel_rfl)) (fun _ _ _ h => h) (Or.inl ⟨by rfl, ?_⟩) ?_ ?_
                     rotate_left
                     ·intro w'
                      go_simp
                      with_reducible rfl
                     rotate_left
                     ·simp only [Act.put, List.setIfInBounds_toArray, List.set_cons_zero, List.set_cons_succ, i64_w, i32_w]
                      rfl
                     refine pure_ (i := 5) (N := some 79) (v := ?_) (a' := ?_) #[true, false, false, true, false, true, false, false, false, false, false] rfl rfl (any_of HT_.out (by kernel_rfl)) (fun _ _ _ h => h) (Or.inl ⟨by rfl, ?_⟩) ?_ ?_
                     rotate_left
                     ·intro w'
                      go_simp
                      with_reducible rfl
                     rotate_left
                     ·simp only [Act.put, List.setIfInBounds_toArray, List.set_cons_zero, List.set_cons_succ, i64_w, i32_w]
                      rfl
                     refine pure_ (i := 7) (N := some 81) (v := ?_) (a' := ?_) #[true, false, false, true, false, true, false, true, false, false, false] rfl rfl (any_of HT_.out (by kernel_rfl)) (fun _ _ _ h => h) (Or.inl ⟨by rfl, ?_⟩) ?_ ?_
                     rotate_left
                     ·intro w'
                      go_simp
                      with_reducible rfl
                     rotate_left
                     ·simp only [Act.put, List.setIfInBounds_toArray, List.set_cons_zero, List.set_cons_succ, i64_w, i32_w]
                      rfl
                     refine take_ (i := 1) (N := some 75) (v := ?_) (a' := ?_) #[true, true, false, true, false, true, false, true, false, false, false] rfl rfl (take_ofW HT_.out HW_.out (by kernel_rfl)) (fun _ _ _ h => h) (Or.inl ⟨by rfl, ?_⟩) hHeld ?_ ?_
                     rotate_left
                     ·rintro w' ⟨s0, s1, s2, s3, s4, s5, s6, s7, s8, s9⟩
                      go_simp
                      with_reducible rfl
                     rotate_left
                     ·simp only [Act.put, List.setIfInBounds_toArray, List.set_cons_zero, List.set_cons_succ, i64_w, i32_w]
                      rfl
                     refine take_ (i := 2) (N := some 76) (v := ?_) (a' := ?_) #[true, true, true, true, false, true, false, true, false, false, false] rfl rfl (take_ofW HT_.out HW_.out (by kernel_rfl)) (fun _ _ _ h => h) (Or.inl ⟨by rfl, ?_⟩) hHeld ?_ ?_
                     rotate_left
                     ·rintro w' ⟨s0, s1, s2, s3, s4, s5, s6, s7, s8, s9⟩
                      go_simp
                      with_reducible rfl
                     rotate_left
                     ·simp only [Act.put, List.setIfInBounds_toArray, List.set_cons_zero, List.set_cons_succ, i64_w, i32_w]
                      rfl
                     refine take_ (i := 4) (N := some 78) (v := ?_) (a' := ?_) #[true, true, true, true, true, true, false, true, false, false, false] rfl rfl (take_ofW HT_.out HW_.out (by kernel_rfl)) (fun _ _ _ h => h) (Or.inl ⟨by rfl, ?_⟩) hHeld ?_ ?_
                     rotate_left
                     ·rintro w' ⟨s0, s1, s2, s3, s4, s5, s6, s7, s8, s9⟩
                      go_simp
                      with_reducible rfl
                     rotate_left
                     ·simp only [Act.put, List.setIfInBounds_toArray, List.set_cons_zero, List.set_cons_succ, i64_w, i32_w]
                      rfl
                     refine take_ (i := 6) (N := some 80) (v := ?_) (a' := ?_) #[true, true, true, true, true, true, true, true, false, false, false] rfl rfl (take_ofW HT_.out HW_.out (by kernel_rfl)) (fun _ _ _ h => h) (Or.inl ⟨by rfl, ?_⟩) hHeld ?_ ?_
                     rotate_left
                     ·rintro w' ⟨s0, s1, s2, s3, s4, s5, s6, s7, s8, s9⟩
                      go_simp
                      with_reducible rfl
                     rotate_left
                     ·simp only [Act.put, List.setIfInBounds_toArray, List.set_cons_zero, List.set_cons_succ, i64_w, i32_w]
                      rfl
                     refine pure_ (i := 8) (N := some 82) (v := ?_) (a' := ?_) #[true, true, true, true, true, true, true, true, true, false, false] rfl rfl (any_of HT_.out (by kernel_rfl)) (fun _ _ _ h => h) (Or.inl ⟨by rfl, ?_⟩) ?_ ?_
                     rotate_left
                     ·intro w'
                      go_simp
                      with_reducible rfl
                     rotate_left
                     ·simp only [Act.put, List.setIfInBounds_toArray, List.set_cons_zero, List.set_cons_succ, i64_w, i32_w]
                      rfl
                     refine one_ (i := 9) (N := some 83) #[true, true, true, true, true, true, true, true, true, true, false] rfl rfl (one_of HT_.out (by kernel_rfl)) (by decide) (fun K hK => ?_)
                     refine goes_ Tryz.func17 (by kernel_rfl) rfl #[.int .i64 a0_1, .agg #[.int .i64 ((rd_T44 l0_5 x44_3).f0), .int .i64 ((rd_T44 l0_5 x44_3).f1), .int .i64 ((rd_T44 l0_5 x44_3).f2), .int .i64 ((rd_T44 l0_5 x44_3).f3)], .string (a0_4.extract (((rd_T44 l0_5 x44_3).f0) : Int).toNat ((wrap64 (((rd_T44 l0_5 x44_3).f0) + x6_32)) : Int).toNat)] (by rfl) rfl rfl (by (try simp only [List.map_toArray, List.map_cons, List.map_nil]); first | done | rfl | (simp only [List.length_drop, List.length_take]; rfl)) ?_
                     with_reducible refine (part_over.calls kj37 a0_1 ((rd_T44 l0_5 x44_3).f0) ((rd_T44 l0_5 x44_3).f1) ((rd_T44 l0_5 x44_3).f2) ((rd_T44 l0_5 x44_3).f3) (a0_4.extract (((rd_T44 l0_5 x44_3).f0) : Int).toNat ((wrap64 (((rd_T44 l0_5 x44_3).f0) + x6_32)) : Int).toNat) true _ ?side1 A53.out).mono ?_
                     (case side1 => exact Glob.below hG (by with_reducible repeat first | exact HB.out | apply bAA | apply bNN | apply bDD | refine bSS ?_ GE204.out | refine bSS ?_ GE207.out))
                     rintro e w58 ⟨rfl, hb⟩
                     refine ⟨_, rfl, ?_⟩
                     have n0_ := Azz.mk (blk_b hb BK204.out)
                     have n1_ := Azz.mk (blk_b hb BK207.out)
                     have n2_ := Azz.mk (bTT (by with_reducible repeat first | exact HB.out | apply bAA | apply bNN | apply bDD | refine bSS ?_ GE204.out | refine bSS ?_ GE207.out) hb)
                     clear BK204
                     clear BK207
                     clear HB
                     have BK204 := n0_
                     have BK207 := n1_
                     have HB := n2_
                     clear n0_ n1_ n2_
                     (try clear hb)
                     (try clear hb2)
                     (try clear hk)
                     (try clear hi)
                     refine hK.out _ _ ⟨(kCC BK204.out 0).trans rfl, (kCC BK204.out 1).trans rfl, (kCC BK204.out 2).trans rfl, (kCC BK204.out 3).trans rfl, (kCC BK204.out 4).trans rfl, (kCC BK204.out 5).trans rfl, (kCC BK207.out 0).trans rfl, (kCC BK207.out 1).trans rfl, (kCC BK207.out 2).trans rfl, (kCC BK207.out 3).trans rfl⟩ (fun hHeld => ?_)
                     clear hK K
                     refine norm_ (a' := ?_) ?_ ?_
                     rotate_left
                     ·show Act.put _ (some 83) _ = _
                      simp only [Act.put, List.setIfInBounds_toArray, List.set_cons_zero, List.set_cons_succ, i64_w, i32_w]
                      rfl
                     refine pure_ (i := 10) (N := some 84) (v := ?_) (a' := ?_) #[true, true, true, true, true, true, true, true, true, true, true] rfl rfl (any_of HT_.out (by kernel_rfl)) (fun _ _ _ h => h) (Or.inl ⟨by rfl, ?_⟩) ?_ ?_
                     rotate_left
                     ·intro w'
                      go_simp
                      with_reducible rfl
                     rotate_left
                     ·simp only [Act.put, List.setIfInBounds_toArray, List.set_cons_zero, List.set_cons_succ, i64_w, i32_w]
                      rfl
                     refine done_ (done_of HT_.out (by kernel_rfl)) ?_
                     try go_wp2
                     go_roundg kj37
                     case measure => have := HJ1.out; have := HJ23.out; have := HK3.out; have := HJ32.out; have := HJ37.out; omega
                     case rel => exact ⟨(wrap64 (((rd_T44 l0_5 x44_3).f0) + x6_32)), (wrap64 (x44_3 + 1)), (by first | rfl | (simp; done) | (simp [*]; done)), (by first | rfl | (simp; done) | (simp [*]; done)), H', ⟨by have := HJ1.out; have := HJ23.out; have := HK3.out; have := HJ32.out; have := HJ37.out; omega⟩, ⟨by (with_reducible repeat first | apply kNN | apply kDD | apply kAA); exact BK204.out⟩, ⟨by repeat (first | (with_reducible first | exact HB.out | apply bAA | apply bNN | apply bDD | refine bSS ?_ GE204.out | refine bSS ?_ GE207.out) | exact HB.out)⟩⟩
                    ·replace c54 := Bool.eq_false_iff.mpr c54
                     subst c54
                     rw [if_neg (show ¬ (false = true) by decide)] at H
                     obtain rfl := Option.some.inj H
                     have hnb59 := NB207_204.out
                     have hnc59 := NB204_207.out
                     obtain ⟨hcz60_0, hcz60_1, hcz60_2, hcz60_3, hfz60_0, hfz60_1, hfz60_2, hfz60_3⟩ := cel4 BK207.out
                     try go_wp2
                     have n0_ := Azz.mk (kDD BK204.out)
                     have n1_ := Azz.mk (kDD BK207.out)
                     have n2_ := Azz.mk (bDD HB.out)
                     clear BK204
                     clear BK207
                     clear HB
                     have BK204 := n0_
                     have BK207 := n1_
                     have HB := n2_
                     clear n0_ n1_ n2_
                     refine start_ (n := 11) (S := fun w' => w'.cell? ⟨gb204, 0, none⟩ = some (.string a0_0) ∧ w'.cell? ⟨gb204, 1, none⟩ = some (.int .i64 a0_1) ∧ w'.cell? ⟨gb204, 2, none⟩ = some (.bool a0_2) ∧ w'.cell? ⟨gb204, 3, none⟩ = some (.int .i64 a0_3) ∧ w'.cell? ⟨gb204, 4, none⟩ = some (.string a0_4) ∧ w'.cell? ⟨gb204, 5, none⟩ = some (.slice (some ad206) l0_5.length c0_5) ∧ w'.cell? ⟨gb207, 0, none⟩ = some (.int .i64 ((rd_T44 l0_5 x44_3).f0)) ∧ w'.cell? ⟨gb207, 1, none⟩ = some (.int .i64 ((rd_T44 l0_5 x44_3).f1)) ∧ w'.cell? ⟨gb207, 2, none⟩ = some (.int .i64 ((rd_T44 l0_5 x44_3).f2)) ∧ w'.cell? ⟨gb207, 3, none⟩ = some (.int .i64 ((rd_T44 l0_5 x44_3).f3))) (ds := []) #[false, false, false, false, false, false, false, false, false, false, false] (by kernel_rfl) rfl rfl ⟨(kCC BK204.out 0).trans rfl, (kCC BK204.out 1).trans rfl, (kCC BK204.out 2).trans rfl, (kCC BK204.out 3).trans rfl, (kCC BK204.out 4).trans rfl, (kCC BK204.out 5).trans rfl, (kCC BK207.out 0).trans rfl, (kCC BK207.out 1).trans rfl, (kCC BK207.out 2).trans rfl, (kCC BK207.out 3).trans rfl⟩ (fun hHeld => ?_); refine with_tabW part_Is.tab15 part_Is.bits15 (fun HT_ HW_ => ?_)
                     generalize wc.drew = w61 at BK204 BK207 HB hHeld ⊢
                     refine pure_ (i := 0) (N := some 74) (v := ?_) (a' := ?_) #[true, false, false, false, false, false, false, false, false, false, false] rfl rfl (any_of HT_.out (by kernel_rfl)) (fun _ _ _ h => h) (Or.inl ⟨by rfl, ?_⟩) ?_ ?_
                     rotate_left
                     ·intro w'
                      go_simp
                      with_reducible rfl
                     rotate_left
                     ·simp only [Act.put, List.setIfInBounds_toArray, List.set_cons_zero, List.set_cons_succ, i64_w, i32_w]
                      rfl
                     refine pure_ (i := 3) (N := some 77) (v := ?_) (a' := ?_) #[true, false, false, true, false, false, false, false, false, false, false] rfl rfl (any_of HT_.out (by kernel_rfl)) (fun _ _ _ h => h) (Or.inl ⟨by rfl, ?_⟩) ?_ ?_
                     rotate_left
                     ·intro w'
                      go_simp
                      with_reducible rfl
                     rotate_left
                     ·simp only [Act.put, List.setIfInBounds_toArray, List.set_cons_zero, List.set_cons_succ, i64_w, i32_w]
                      rfl
                     refine pure_ (i := 5) (N := some 79) (v := ?_) (a' := ?_) #[true, false, false, true, false, true, false, false, false, false, false] rfl rfl (any_of HT_.out (by kernel_rfl)) (fun _ _ _ h => h) (Or.inl ⟨by rfl, ?_⟩) ?_ ?_
                     rotate_left
                     ·intro w'
                      go_simp
                      with_reducible rfl
                     rotate_left
                     ·simp only [Act.put, List.setIfInBounds_toArray, List.set_cons_zero, List.set_cons_succ, i64_w, i32_w]
                      rfl
                     refine pure_ (i := 7) (N := some 81) (v := ?_) (a' := ?_) #[true, false, false, true, false, true, false, true, false, false, false] rfl rfl (any_of HT_.out (by kernel_rfl)) (fun _ _ _ h => h) (Or.inl ⟨by rfl, ?_⟩) ?_ ?_
                     rotate_left
                     ·intro w'
                      go_simp
                      with_reducible rfl
                     rotate_left
                     ·simp only [Act.put, List.setIfInBounds_toArray, List.set_cons_zero, List.set_cons_succ, i64_w, i32_w]
                      rfl
                     refine take_ (i := 1) (N := some 75) (v := ?_) (a' := ?_) #[true, true, false, true, false, true, false, true, false, false, false] rfl rfl (take_ofW HT_.out HW_.out (by kernel_rfl)) (fun _ _ _ h => h) (Or.inl ⟨by rfl, ?_⟩) hHeld ?_ ?_
                     rotate_left
                     ·rintro w' ⟨s0, s1, s2, s3, s4, s5, s6, s7, s8, s9⟩
                      go_simp
                      with_reducible rfl
                     rotate_left
                     ·simp only [Act.put, List.setIfInBounds_toArray, List.set_cons_zero, List.set_cons_succ, i64_w, i32_w]
                      rfl
                     refine take_ (i := 2) (N := some 76) (v := ?_) (a' := ?_) #[true, true, true, true, false, true, false, true, false, false, false] rfl rfl (take_ofW HT_.out HW_.out (by kernel_rfl)) (fun _ _ _ h => h) (Or.inl ⟨by rfl, ?_⟩) hHeld ?_ ?_
                     rotate_left
                     ·rintro w' ⟨s0, s1, s2, s3, s4, s5, s6, s7, s8, s9⟩
                      go_simp
                      with_reducible rfl
                     rotate_left
                     ·simp only [Act.put, List.setIfInBounds_toArray, List.set_cons_zero, List.set_cons_succ, i64_w, i32_w]
                      rfl
                     refine take_ (i := 4) (N := some 78) (v := ?_) (a' := ?_) #[true, true, true, true, true, true, false, true, false, false, false] rfl rfl (take_ofW HT_.out HW_.out (by kernel_rfl)) (fun _ _ _ h => h) (Or.inl ⟨by rfl, ?_⟩) hHeld ?_ ?_
                     rotate_left
                     ·rintro w' ⟨s0, s1, s2, s3, s4, s5, s6, s7, s8, s9⟩
                      go_simp
                      with_reducible rfl
                     rotate_left
                     ·simp only [Act.put, List.setIfInBounds_toArray, List.set_cons_zero, List.set_cons_succ, i64_w, i32_w]
                      rfl
                     refine take_ (i := 6) (N := some 80) (v := ?_) (a' := ?_) #[true, true, true, true, true, true, true, true, false, false, false] rfl rfl (take_ofW HT_.out HW_.out (by kernel_rfl)) (fun _ _ _ h => h) (Or.inl ⟨by rfl, ?_⟩) hHeld ?_ ?_
                     rotate_left
                     ·rintro w' ⟨s0, s1, s2, s3, s4, s5, s6, s7, s8, s9⟩
                      go_simp
                      with_reducible rfl
                     rotate_left
                     ·simp only [Act.put, List.setIfInBounds_toArray, List.set_cons_zero, List.set_cons_succ, i64_w, i32_w]
                      rfl
                     refine pure_ (i := 8) (N := some 82) (v := ?_) (a' := ?_) #[true, true, true, true, true, true, true, true, true, false, false] rfl rfl (any_of HT_.out (by kernel_rfl)) (fun _ _ _ h => h) (Or.inl ⟨by rfl, ?_⟩) ?_ ?_
                     rotate_left
                     ·intro w'
                      go_simp
                      with_reducible rfl
                     rotate_left
                     ·simp only [Act.put, List.setIfInBounds_toArray, List.set_cons_zero, List.set_cons_succ, i64_w, i32_w]
                      rfl
                     refine one_ (i := 9) (N := some 83) #[true, true, true, true, true, true, true, true, true, true, false] rfl rfl (one_of HT_.out (by kernel_rfl)) (by decide) (fun K hK => ?_)
                     refine goes_ Tryz.func17 (by kernel_rfl) rfl #[.int .i64 a0_1, .agg #[.int .i64 ((rd_T44 l0_5 x44_3).f0), .int .i64 ((rd_T44 l0_5 x44_3).f1), .int .i64 ((rd_T44 l0_5 x44_3).f2), .int .i64 ((rd_T44 l0_5 x44_3).f3)], .string (a0_4.extract (((rd_T44 l0_5 x44_3).f0) : Int).toNat ((wrap64 (((rd_T44 l0_5 x44_3).f0) + x6_32)) : Int).toNat)] (by rfl) rfl rfl (by (try simp only [List.map_toArray, List.map_cons, List.map_nil]); first | done | rfl | (simp only [List.length_drop, List.length_take]; rfl)) ?_
                     with_reducible refine (part_over.calls kj37 a0_1 ((rd_T44 l0_5 x44_3).f0) ((rd_T44 l0_5 x44_3).f1) ((rd_T44 l0_5 x44_3).f2) ((rd_T44 l0_5 x44_3).f3) (a0_4.extract (((rd_T44 l0_5 x44_3).f0) : Int).toNat ((wrap64 (((rd_T44 l0_5 x44_3).f0) + x6_32)) : Int).toNat) false _ ?side1 A53.out).mono ?_
                     (case side1 => exact Glob.below hG (by with_reducible repeat first | exact HB.out | apply bAA | apply bNN | apply bDD | refine bSS ?_ GE204.out | refine bSS ?_ GE207.out))
                     rintro e w62 ⟨rfl, hb⟩
                     refine ⟨_, rfl, ?_⟩
                     have n0_ := Azz.mk (blk_b hb BK204.out)
                     have n1_ := Azz.mk (blk_b hb BK207.out)
                     have n2_ := Azz.mk (bTT (by with_reducible repeat first | exact HB.out | apply bAA | apply bNN | apply bDD | refine bSS ?_ GE204.out | refine bSS ?_ GE207.out) hb)
                     clear BK204
                     clear BK207
                     clear HB
                     have BK204 := n0_
                     have BK207 := n1_
                     have HB := n2_
                     clear n0_ n1_ n2_
                     (try clear hb)
                     (try clear hb2)
                     (try clear hk)
                     (try clear hi)
                     refine hK.out _ _ ⟨(kCC BK204.out 0).trans rfl, (kCC BK204.out 1).trans rfl, (kCC BK204.out 2).trans rfl, (kCC BK204.out 3).trans rfl, (kCC BK204.out 4).trans rfl, (kCC BK204.out 5).trans rfl, (kCC BK207.out 0).trans rfl, (kCC BK207.out 1).trans rfl, (kCC BK207.out 2).trans rfl, (kCC BK207.out 3).trans rfl⟩ (fun hHeld => ?_)
                     clear hK K
                     refine norm_ (a' := ?_) ?_ ?_
                     rotate_left
                     ·show Act.put _ (some 83) _ = _
                      simp only [Act.put, List.setIfInBounds_toArray, List.set_cons_zero, List.set_cons_succ, i64_w, i32_w]
                      rfl
                     refine pure_ (i := 10) (N := some 84) (v := ?_) (a' := ?_) #[true, true, true, true, true, true, true, true, true, true, true] rfl rfl (any_of HT_.out (by kernel_rfl)) (fun _ _ _ h => h) (Or.inl ⟨by rfl, ?_⟩) ?_ ?_
                     rotate_left
                     ·intro w'
                      go_simp
                      with_reducible rfl
                     rotate_left
                     ·simp only [Act.put, List.setIfInBounds_toArray, List.set_cons_zero, List.set_cons_succ, i64_w, i32_w]
                      rfl
                     refine done_ (done_of HT_.out (by kernel_rfl)) ?_
                     try go_wp2
                     go_ret
                     exact ⟨by first | rfl | (simp [eNN, eSS] <;> rfl) | (simp [*, eNN, eSS] <;> rfl), by repeat (first | (with_reducible first | exact HB.out | apply bAA | apply bNN | apply bDD | refine bSS ?_ GE204.out | refine bSS ?_ GE207.out) | exact HB.out)⟩
                   ·rw [if_neg c52] at H
                    exact absurd H (by simp)
                  ·rw [if_neg c51] at H
                   exact absurd H (by simp)
                 ·rw [if_neg c50] at H
                  exact absurd H (by simp)
           ·rw [if_neg c32] at H
            exact absurd H (by simp)
          ·rw [if_neg c31] at H
           exact absurd H (by simp)
         ·rw [if_neg c30] at H
          have c30b0 := decide_eq_false c30
          clear c30
          obtain rfl := Option.some.inj H
          go_wp2
          go_ret
          exact ⟨by first | rfl | (simp [eNN, eSS] <;> rfl) | (simp [*, eNN, eSS] <;> rfl), by repeat (first | (with_reducible first | exact HB.out | apply bAA | apply bNN | apply bDD | refine bSS ?_ GE204.out) | exact HB.out)⟩
end Go.Proofs.YtpcdebakiccecaaGreatDoor.P
