/- Walks and plain laws of this claim, a part. -/
import Derived.Test.YtngmipfodjgmmaaGreatDoorFz31
set_option maxRecDepth 100000
set_option maxHeartbeats 8000000
set_option linter.unusedVariables false
set_option linter.unusedSimpArgs false
namespace Go.Proofs.YtngmipfodjgmmaaGreatDoor.P
open Go.RowKit Wa Wb Wc
attribute [local go_sem] max2_int min2_int max_two min_two max_three min_three max_four min_four
attribute [local go_sem high] eqA197
def mask_part.f (k : Nat) (a0_0 : Int) (a0_1 : Int) (a0_2 : Int) : Option (Int) := (bits_Low.f 18446744073709551615 a0_2).bind fun t122 => ((bits_Rotate.f k t122 a0_1 a0_0).bind fun bt123 => (some bt123.1))
theorem mask_part.mono : ∀ a0 a1 a2 k, LeO (mask_part.f k a0 a1 a2) (mask_part.f (k + 1) a0 a1 a2) := by
 intro a0 a1 a2 k
 unfold mask_part.f
 repeat' first
  | (with_reducible exact bits_Rotate.mono _ _ _ _)
  | (with_reducible exact LeO.refl _)
  | (with_reducible exact LeO.none _)
  | (with_reducible refine LeO.ite ?_ ?_)
  | (with_reducible refine LeO.bind ?_ (fun _ => ?_))
theorem mask_part.calls (k : Nat) (a0_0 : Int) (a0_1 : Int) (a0_2 : Int) (r : Int) (w : World) (h : mask_part.f k a0_0 a0_1 a0_2 = some r) :
 Calls Tryz.prog 165 #[.agg #[.int .i64 a0_0, .int .i64 a0_1, .int .i64 a0_2]] w fun e w' => e = .returned (.int .u64 r) ∧ Below w.heap.size w w' := by
 have hu197 := Tryz.underlying197
 have HB := Azz.mk (Below.refl w.heap.size w)
 have H : ((bits_Low.f 18446744073709551615 a0_2).bind fun t122 => ((bits_Rotate.f k t122 a0_1 a0_0).bind fun bt123 => (some bt123.1))) = some r := h
 clear h
 obtain ⟨t122, A2, H⟩ := bnd H
 (try dsimp only at H)
 obtain ⟨⟨t123, t124⟩, A3, H⟩ := bnd H
 (try dsimp only at H)
 obtain rfl := sI H
 go_enter Tryz.func165, Tryz.ntmps165
 go_wp2_with (first | ((with_reducible refine gate_dst (N := 1) rfl ?_); refine bxE (N := 1) (by with_reducible repeat first | exact HB.out | apply bAA | apply bNN | apply bDD) (cs := #[.int .i64 a0_0, .int .i64 a0_1, .int .i64 a0_2]) (t := 197) ?_; intro gb121 w4 n0_ BK121 GE121; clear HB; have HB := n0_; have GW121 := GE121; clear n0_; obtain ⟨hcz5_0, hcz5_1, hcz5_2, hfz5_0, hfz5_1, hfz5_2⟩ := cel3 BK121.out) | (go_at_call 167; (with_reducible refine (bits_Low.calls 18446744073709551615 a0_2 t122 _ A2.out).mono ?_); rintro e w' ⟨rfl, ⟨nd, rfl⟩⟩; (try first | exact ⟨rfl, _, dd2⟩ | exact ⟨rfl, _, dd3⟩)) | (go_at_call 180; (with_reducible refine (bits_Rotate.calls k t122 a0_1 a0_0 t123 t124 _ A3.out).mono ?_); rintro e w' ⟨rfl, ⟨nd, rfl⟩⟩; (try first | exact ⟨rfl, _, dd2⟩ | exact ⟨rfl, _, dd3⟩)))
 repeat (go_quiet (first | ((with_reducible refine gate_dst (N := 1) rfl ?_); refine bxE (N := 1) (by with_reducible repeat first | exact HB.out | apply bAA | apply bNN | apply bDD) (cs := #[.int .i64 a0_0, .int .i64 a0_1, .int .i64 a0_2]) (t := 197) ?_; intro gb121 w4 n0_ BK121 GE121; clear HB; have HB := n0_; have GW121 := GE121; clear n0_; obtain ⟨hcz5_0, hcz5_1, hcz5_2, hfz5_0, hfz5_1, hfz5_2⟩ := cel3 BK121.out) | (go_at_call 167; (with_reducible refine (bits_Low.calls 18446744073709551615 a0_2 t122 _ A2.out).mono ?_); rintro e w' ⟨rfl, ⟨nd, rfl⟩⟩; (try first | exact ⟨rfl, _, dd2⟩ | exact ⟨rfl, _, dd3⟩)) | (go_at_call 180; (with_reducible refine (bits_Rotate.calls k t122 a0_1 a0_0 t123 t124 _ A3.out).mono ?_); rintro e w' ⟨rfl, ⟨nd, rfl⟩⟩; (try first | exact ⟨rfl, _, dd2⟩ | exact ⟨rfl, _, dd3⟩))); try go_wp2_with (first | ((with_reducible refine gate_dst (N := 1) rfl ?_); refine bxE (N := 1) (by with_reducible repeat first | exact HB.out | apply bAA | apply bNN | apply bDD) (cs := #[.int .i64 a0_0, .int .i64 a0_1, .int .i64 a0_2]) (t := 197) ?_; intro gb121 w4 n0_ BK121 GE121; clear HB; have HB := n0_; have GW121 := GE121; clear n0_; obtain ⟨hcz5_0, hcz5_1, hcz5_2, hfz5_0, hfz5_1, hfz5_2⟩ := cel3 BK121.out) | (go_at_call 167; (with_reducible refine (bits_Low.calls 18446744073709551615 a0_2 t122 _ A2.out).mono ?_); rintro e w' ⟨rfl, ⟨nd, rfl⟩⟩; (try first | exact ⟨rfl, _, dd2⟩ | exact ⟨rfl, _, dd3⟩)) | (go_at_call 180; (with_reducible refine (bits_Rotate.calls k t122 a0_1 a0_0 t123 t124 _ A3.out).mono ?_); rintro e w' ⟨rfl, ⟨nd, rfl⟩⟩; (try first | exact ⟨rfl, _, dd2⟩ | exact ⟨rfl, _, dd3⟩))))
 go_ret
 exact ⟨eqB, by repeat (first | (with_reducible first | exact HB.out | apply bAA | apply bNN | apply bDD | refine bSS ?_ GE121.out) | exact HB.out)⟩
mutual
def mask_Decode.j0 : Nat → Int → Int → Int → Bool → Option (Int × Int)
 | 0, _, _, _, _ => none
 | k + 1, x0, x1, x2, x33 => if x33 = true then (some (0, 1)) else ((mask_read.f x0 x1 x2).bind fun bt125 => (if (bt125.1 == 0 && (bt125.2.1 == 0 && (bt125.2.2 == 0))) = true then (some (0, 3)) else ((mask_part.f k bt125.1 bt125.2.1 bt125.2.2).bind fun t129 => (mask_Decode.l0 k t129 0 0 bt125.1 bt125.2.1 bt125.2.2))))
def mask_Decode.l0 : Nat → Int → Int → Int → Int → Int → Int → Option (Int × Int)
 | 0, _, _, _, _, _, _ => none
 | k + 1, x9, x10, x11, x129000, x129001, x129002 => if x11 < 64 then (if 0 ≤ x11 then (mask_Decode.l0 k x9 (Go.bits .or .u64 x10 (shl .u64 x9 x11)) (wrap64 (x11 + x129000)) x129000 x129001 x129002) else (none)) else (some (x10, 0))
end
def mask_Decode.f (k : Nat) (a0 : Int) (a1 : Int) (a2 : Int) : Option (Int × Int) := if a0 < 0 then (mask_Decode.j0 k a0 a1 a2 true) else (if a0 > 1 then (mask_Decode.j0 k a0 a1 a2 true) else (if a1 < 0 then (mask_Decode.j0 k a0 a1 a2 true) else (if a1 > 63 then (mask_Decode.j0 k a0 a1 a2 true) else (if a2 < 0 then (mask_Decode.j0 k a0 a1 a2 true) else (mask_Decode.j0 k a0 a1 a2 (decide (a2 > 63)))))))
theorem mask_Decode.mono_l : ∀ k, (∀ y0 y1 y2 y3, LeO (mask_Decode.j0 k y0 y1 y2 y3) (mask_Decode.j0 (k + 1) y0 y1 y2 y3)) ∧ (∀ y0 y1 y2 y3 y4 y5, LeO (mask_Decode.l0 k y0 y1 y2 y3 y4 y5) (mask_Decode.l0 (k + 1) y0 y1 y2 y3 y4 y5))
 | 0 => ⟨fun _ _ _ _ r h => by simp [mask_Decode.j0] at h, fun _ _ _ _ _ _ r h => by simp [mask_Decode.l0] at h⟩
 | k + 1 => by
  obtain ⟨ih0, ih1⟩ := mask_Decode.mono_l k
  refine ⟨?_, ?_⟩
  ·intro y0 y1 y2 y3
   unfold mask_Decode.j0
   repeat' first
   | (with_reducible exact ih0 _ _ _ _)
   | (with_reducible exact ih1 _ _ _ _ _ _)
   | (with_reducible exact mask_part.mono _ _ _ _)
   | (with_reducible exact LeO.refl _)
   | (with_reducible exact LeO.none _)
   | (with_reducible refine LeO.ite ?_ ?_)
   | (with_reducible refine LeO.bind ?_ (fun _ => ?_))
  intro y0 y1 y2 y3 y4 y5
  unfold mask_Decode.l0
  repeat' first
  | (with_reducible exact ih0 _ _ _ _)
  | (with_reducible exact ih1 _ _ _ _ _ _)
  | (with_reducible exact mask_part.mono _ _ _ _)
  | (with_reducible exact LeO.refl _)
  | (with_reducible exact LeO.none _)
  | (with_reducible refine LeO.ite ?_ ?_)
  | (with_reducible refine LeO.bind ?_ (fun _ => ?_))
theorem mask_Decode.mono : ∀ a0 a1 a2 k, LeO (mask_Decode.f k a0 a1 a2) (mask_Decode.f (k + 1) a0 a1 a2) := by
 intro a0 a1 a2 k
 obtain ⟨ih0, ih1⟩ := mask_Decode.mono_l k
 unfold mask_Decode.f
 repeat' first
  | (with_reducible exact ih0 _ _ _ _)
  | (with_reducible exact ih1 _ _ _ _ _ _)
  | (with_reducible exact mask_part.mono _ _ _ _)
  | (with_reducible exact LeO.refl _)
  | (with_reducible exact LeO.none _)
  | (with_reducible refine LeO.ite ?_ ?_)
  | (with_reducible refine LeO.bind ?_ (fun _ => ?_))
theorem mask_Decode.calls (k : Nat) (a0 : Int) (a1 : Int) (a2 : Int) (r1 : Int) (r2 : Int) (w : World) (h : mask_Decode.f k a0 a1 a2 = some (r1, r2)) :
 Calls Tryz.prog 147 #[.int .i64 a0, .int .i64 a1, .int .i64 a2] w fun e w' => e = .returned (.tuple #[.int .u64 r1, .int .i64 r2]) ∧ Below w.heap.size w w' := by
 have hu197 := Tryz.underlying197
 have HB := Azz.mk (Below.refl w.heap.size w)
 have H : (if a0 < 0 then (mask_Decode.j0 k a0 a1 a2 true) else (if a0 > 1 then (mask_Decode.j0 k a0 a1 a2 true) else (if a1 < 0 then (mask_Decode.j0 k a0 a1 a2 true) else (if a1 > 63 then (mask_Decode.j0 k a0 a1 a2 true) else (if a2 < 0 then (mask_Decode.j0 k a0 a1 a2 true) else (mask_Decode.j0 k a0 a1 a2 (decide (a2 > 63)))))))) = some (r1, r2) := h
 clear h
 have HC4 := Azz.mk H
 clear H
 go_enter Tryz.func147, Tryz.ntmps147
 go_upto_region 1 with (fail)
 go_cut [33] (fun v33 wc => ∃ (kq : Nat) (x33_3 : Bool), v33 = .bool x33_3 ∧ Azz (mask_Decode.j0 kq a0 a1 a2 x33_3 = some (r1, r2)) ∧ Azz (kq ≤ k) ∧ Azz (Below w.heap.size w wc))
 case first =>
  have H := HC4.out
  clear HC4
  by_cases c5 : a0 < 0
  ·rw [if_pos c5] at H
   have c5b0 := dT_ c5
   clear c5
   (first | rw [c5b0] | (simp only [i64_w, i32_w]; rw [c5b0]) | skip)
   have H' := Azz.mk H
   clear H
   go_wp2
   go_meet
   case rel => exact ⟨_, (true), eqS, H', ⟨leS⟩, ⟨by repeat (first | (with_reducible first | exact HB.out | apply bAA | apply bNN | apply bDD) | exact HB.out)⟩⟩
  rw [if_neg c5] at H
  have c5b0 := dF_ c5
  clear c5
  (first | rw [c5b0] | (simp only [i64_w, i32_w]; rw [c5b0]) | skip)
  by_cases c6 : a0 > 1
  ·rw [if_pos c6] at H
   have c6b0 := dT_ c6
   clear c6
   have H' := Azz.mk H
   clear H
   go_wp2
   go_meet
   case rel => exact ⟨_, (true), eqS, H', ⟨leS⟩, ⟨by repeat (first | (with_reducible first | exact HB.out | apply bAA | apply bNN | apply bDD) | exact HB.out)⟩⟩
  rw [if_neg c6] at H
  have c6b0 := dF_ c6
  clear c6
  by_cases c7 : a1 < 0
  ·rw [if_pos c7] at H
   have c7b0 := dT_ c7
   clear c7
   have H' := Azz.mk H
   clear H
   go_wp2
   go_meet
   case rel => exact ⟨_, (true), eqS, H', ⟨leS⟩, ⟨by repeat (first | (with_reducible first | exact HB.out | apply bAA | apply bNN | apply bDD) | exact HB.out)⟩⟩
  rw [if_neg c7] at H
  have c7b0 := dF_ c7
  clear c7
  by_cases c8 : a1 > 63
  ·rw [if_pos c8] at H
   have c8b0 := dT_ c8
   clear c8
   have H' := Azz.mk H
   clear H
   go_wp2
   go_meet
   case rel => exact ⟨_, (true), eqS, H', ⟨leS⟩, ⟨by repeat (first | (with_reducible first | exact HB.out | apply bAA | apply bNN | apply bDD) | exact HB.out)⟩⟩
  rw [if_neg c8] at H
  have c8b0 := dF_ c8
  clear c8
  by_cases c9 : a2 < 0
  ·rw [if_pos c9] at H
   have c9b0 := dT_ c9
   clear c9
   have H' := Azz.mk H
   clear H
   go_wp2
   go_meet
   case rel => exact ⟨_, (true), eqS, H', ⟨leS⟩, ⟨by repeat (first | (with_reducible first | exact HB.out | apply bAA | apply bNN | apply bDD) | exact HB.out)⟩⟩
  rw [if_neg c9] at H
  have c9b0 := dF_ c9
  clear c9
  have H' := Azz.mk H
  clear H
  go_wp2
  go_meet
  case rel => exact ⟨_, (decide (a2 > 63)), eqS, H', ⟨leS⟩, ⟨by repeat (first | (with_reducible first | exact HB.out | apply bAA | apply bNN | apply bDD) | exact HB.out)⟩⟩
 case rest =>
  clear HC4
  try clear c1
  try clear p2
  try clear c5
  try clear c5b0
  try clear c6
  try clear c6b0
  try clear c7
  try clear c7b0
  try clear c8
  try clear c8b0
  try clear c9
  try clear c9b0
  obtain ⟨kq, x33_3, rfl, HA, HJ3, HB⟩ := hcut
  cases kq with
  | zero => exact absurd HA.out (by simp [mask_Decode.j0])
  | succ kj3 =>
   have H := HA.out
   clear HA
   simp only [mask_Decode.j0] at H
   by_cases c10 : x33_3 = true
   ·subst c10
    rw [if_pos rfl] at H
    simp only [sJ_, pJ_] at H
    obtain ⟨rfl, rfl⟩ := H
    go_wp2
    go_ret2
    exact ⟨eqB, by repeat (first | (with_reducible first | exact HB.out | apply bAA | apply bNN | apply bDD) | exact HB.out)⟩
   replace c10 := Bool.eq_false_iff.mpr c10
   subst c10
   rw [if_neg nFT] at H
   obtain ⟨⟨t125, t126, t127⟩, A11, H⟩ := bnd H
   (try dsimp only at H)
   by_cases c12 : (t125 == 0 && (t126 == 0 && (t127 == 0))) = true
   ·rw [if_pos c12] at H
    have c12b0 : (t125 == 0 && (t126 == 0 && (t127 == 0))) = true := c12
    (try (have c12b1 : decide (t125 = 0 && (t126 == 0 && (t127 == 0))) = true := by simpa using c12))
    (try (have c12b2 : (t125 == 0 && (t126 == 0 && (t127 == 0))) = true := by simpa using c12))
    clear c12
    simp only [sJ_, pJ_] at H
    obtain ⟨rfl, rfl⟩ := H
    go_wp2_with (first | ((with_reducible refine g_c (f := 164) rfl ?_); refine gM (some 37) rfl rfl Tryz.func164 #[.int .i64 a0, .int .i64 a1, .int .i64 a2] rfl ?_; (with_reducible refine (mask_read.calls a0 a1 a2 t125 t126 t127 _ A11.out).mono ?_); rintro e w13 ⟨rfl, hb⟩; refine ⟨_, rfl, ?_⟩; have n0_ := Azz.mk (bTT (by with_reducible repeat first | exact HB.out | apply bAA | apply bNN | apply bDD) hb); clear HB; have HB := n0_; clear n0_; (try clear hb); (try clear hb2); (try clear hk); (try clear hi)) | ((with_reducible refine gate_dst (N := 8) rfl ?_); refine bxE (N := 8) (by with_reducible repeat first | exact HB.out | apply bAA | apply bNN | apply bDD) (cs := #[.int .i64 0, .int .i64 0, .int .i64 0]) (t := 197) ?_; intro gb128 w14 n0_ BK128 GE128; clear HB; have HB := n0_; have GW128 := GE128; clear n0_; obtain ⟨hcz15_0, hcz15_1, hcz15_2, hfz15_0, hfz15_1, hfz15_2⟩ := cel3 BK128.out))
    go_ret2
    exact ⟨eqB, by repeat (first | (with_reducible first | exact HB.out | apply bAA | apply bNN | apply bDD | refine bSS ?_ GE128.out) | exact HB.out)⟩
   rw [if_neg c12] at H
   have c12b0 : (t125 == 0 && (t126 == 0 && (t127 == 0))) = false := by simpa using c12
   (try (have c12b1 : decide (t125 = 0 && (t126 == 0 && (t127 == 0))) = false := by simpa using c12))
   (try (have c12b2 : (t125 == 0 && (t126 == 0 && (t127 == 0))) = false := by simpa using c12))
   (try (have c12b3 : ¬ (t125 = 0 && (t126 == 0 && (t127 == 0))) := by simpa using c12))
   clear c12
   obtain ⟨t129, A16, H⟩ := bnd H
   (try dsimp only at H)
   have H' := Azz.mk H
   clear H
   go_wp2_with (first | ((with_reducible refine g_c (f := 164) rfl ?_); refine gM (some 37) rfl rfl Tryz.func164 #[.int .i64 a0, .int .i64 a1, .int .i64 a2] rfl ?_; (with_reducible refine (mask_read.calls a0 a1 a2 t125 t126 t127 _ A11.out).mono ?_); rintro e w17 ⟨rfl, hb⟩; refine ⟨_, rfl, ?_⟩; have n0_ := Azz.mk (bTT (by with_reducible repeat first | exact HB.out | apply bAA | apply bNN | apply bDD) hb); clear HB; have HB := n0_; clear n0_; (try clear hb); (try clear hb2); (try clear hk); (try clear hi)) | ((with_reducible refine gate_dst (N := 8) rfl ?_); refine bxE (N := 8) (by with_reducible repeat first | exact HB.out | apply bAA | apply bNN | apply bDD) (cs := #[.int .i64 0, .int .i64 0, .int .i64 0]) (t := 197) ?_; intro gb128 w18 n0_ BK128 GE128; clear HB; have HB := n0_; have GW128 := GE128; clear n0_; obtain ⟨hcz19_0, hcz19_1, hcz19_2, hfz19_0, hfz19_1, hfz19_2⟩ := cel3 BK128.out) | ((with_reducible refine g_c (f := 165) rfl ?_); refine gM (some 42) rfl rfl Tryz.func165 #[.agg #[.int .i64 t125, .int .i64 t126, .int .i64 t127]] rfl ?_; (with_reducible refine (mask_part.calls kj3 t125 t126 t127 t129 _ A16.out).mono ?_); rintro e w20 ⟨rfl, hb⟩; refine ⟨_, rfl, ?_⟩; have n0_ := Azz.mk (kBB (g := gb128) (o := .cells #[.int .i64 t125, .int .i64 t126, .int .i64 t127] 197 (0, 0)) (by apply put3; (with_reducible repeat first | apply kNN | apply kDD | apply kAA); exact BK128.out) hb); have n1_ := Azz.mk (bTT (by with_reducible repeat first | exact HB.out | apply bAA | apply bNN | apply bDD | refine bSS ?_ GE128.out) hb); clear BK128; clear HB; have BK128 := n0_; have HB := n1_; clear n0_ n1_; (try clear hb); (try clear hb2); (try clear hk); (try clear hi)))
   go_loopg [10, 11] kj3 (fun kq v10 v11 w' => ∃ (x10_2 : Int) (x11_2 : Int), v10 = .int .u64 x10_2 ∧ v11 = .int .i64 x11_2 ∧ Azz (mask_Decode.l0 kq t129 x10_2 x11_2 t125 t126 t127 = some (r1, r2)) ∧ Azz (kq ≤ kj3) ∧ Azz (w'.heap[gb128]? = some (.cells #[.int .i64 t125, .int .i64 t126, .int .i64 t127] 197 (0, 0))) ∧ Azz (Below w.heap.size w w'))
   case atStart => exact ⟨(0), (0), eqS, eqS, H', ⟨Nat.le_refl _⟩, ⟨by (with_reducible repeat first | apply kNN | apply kDD | apply kAA); exact BK128.out⟩, ⟨by repeat (first | (with_reducible first | exact HB.out | apply bAA | apply bNN | apply bDD | refine bSS ?_ GE128.out) | exact HB.out)⟩⟩
   case round =>
    clear H'
    try clear c1
    try clear p2
    try clear c5
    try clear c5b0
    try clear c6
    try clear c6b0
    try clear c7
    try clear c7b0
    try clear c8
    try clear c8b0
    try clear c9
    try clear c9b0
    try clear c10
    try clear c12
    try clear c12b0
    try clear c12b1
    try clear c12b2
    try clear c14
    try clear c16
    try clear p2
    try clear hcz15_0 hcz15_1 hcz15_2 hcz19_0 hcz19_1 hcz19_2 hfz15_0 hfz15_1 hfz15_2 hfz19_0 hfz19_1 hfz19_2
    obtain ⟨x10_2, x11_2, rfl, rfl, HA, HK2, BK128, HB⟩ := hrel
    cases gk with
    | zero => exact absurd HA.out (by simp [mask_Decode.l0])
    | succ k2 =>
     have H := HA.out
     clear HA
     simp only [mask_Decode.l0] at H
     by_cases c21 : x11_2 < 64
     ·rw [if_pos c21] at H
      have c21b0 := dT_ c21
      clear c21
      by_cases c22 : 0 ≤ x11_2
      ·rw [if_pos c22] at H
       have c22b0 := eq_true c22
       have c22b1 := dT_ c22
       clear c22
       obtain ⟨ji23, hji23⟩ : ∃ j_ : Int, (shl .u64 t129 x11_2) = j_ := ⟨_, rfl⟩
       replace H : (mask_Decode.l0 k2 t129 (Go.bits .or .u64 x10_2 (ji23)) (wrap64 (x11_2 + t125)) t125 t126 t127) = some (r1, r2) := by first | (rw [hji23] at H; exact H) | (simp only [hji23] at H ⊢; exact H)
       have hji23_ : (IntKind.u64.wrap (t129 * 2 ^ min x11_2.toNat 64)) = ji23 := hji23
       have hji23z : x11_2 ≤ 64 → (IntKind.u64.wrap (t129 * 2 ^ x11_2.toNat)) = ji23 := shl_small hji23
       have H' := Azz.mk H
       clear H
       obtain ⟨hcz24_0, hcz24_1, hcz24_2, hfz24_0, hfz24_1, hfz24_2⟩ := cel3 BK128.out
       go_wp2
       go_roundg k2
       case measure => have := HJ3.out; have := HK2.out; omega
       case rel => exact ⟨(Go.bits .or .u64 x10_2 (ji23)), (wrap64 (x11_2 + t125)), (by first | rfl | (simp; done) | (simp only [← hji23] <;> (first | rfl | simp)) | (simp [*]; done)), eqS, H', ⟨by have := HJ3.out; have := HK2.out; omega⟩, ⟨by (with_reducible repeat first | apply kNN | apply kDD | apply kAA); exact BK128.out⟩, ⟨by repeat (first | (with_reducible first | exact HB.out | apply bAA | apply bNN | apply bDD | refine bSS ?_ GE128.out) | exact HB.out)⟩⟩
      rw [if_neg c22] at H
      exact absurd H (by simp)
     rw [if_neg c21] at H
     have c21b0 := dF_ c21
     clear c21
     simp only [sJ_, pJ_] at H
     obtain ⟨rfl, rfl⟩ := H
     go_wp2
     go_ret2
     exact ⟨eqB, by repeat (first | (with_reducible first | exact HB.out | apply bAA | apply bNN | apply bDD | refine bSS ?_ GE128.out) | exact HB.out)⟩
def code_masked.f (k : Nat) (a0 : Int) : Option (Int) := (code_part.f a0 22 1).bind fun t130 => ((code_part.f a0 16 6).bind fun t131 => ((code_part.f a0 10 6).bind fun t132 => ((mask_Decode.f k t130 t131 t132).bind fun bt133 => (if bt133.2 = 0 then (some bt133.1) else (none)))))
theorem code_masked.mono : ∀ a0 k, LeO (code_masked.f k a0) (code_masked.f (k + 1) a0) := by
 intro a0 k
 unfold code_masked.f
 repeat' first
  | (with_reducible exact mask_Decode.mono _ _ _ _)
  | (with_reducible exact LeO.refl _)
  | (with_reducible exact LeO.none _)
  | (with_reducible refine LeO.ite ?_ ?_)
  | (with_reducible refine LeO.bind ?_ (fun _ => ?_))
theorem code_masked.calls (k : Nat) (a0 : Int) (r : Int) (w : World) (h : code_masked.f k a0 = some r) :
 Calls Tryz.prog 119 #[.int .u32 a0] w fun e w' => e = .returned (.int .u64 r) ∧ Below w.heap.size w w' := by
 have HB := Azz.mk (Below.refl w.heap.size w)
 have H : ((code_part.f a0 22 1).bind fun t130 => ((code_part.f a0 16 6).bind fun t131 => ((code_part.f a0 10 6).bind fun t132 => ((mask_Decode.f k t130 t131 t132).bind fun bt133 => (if bt133.2 = 0 then (some bt133.1) else (none)))))) = some r := h
 clear h
 obtain ⟨t130, A2, H⟩ := bnd H
 (try dsimp only at H)
 obtain ⟨t131, A3, H⟩ := bnd H
 (try dsimp only at H)
 obtain ⟨t132, A4, H⟩ := bnd H
 (try dsimp only at H)
 obtain ⟨⟨t133, t134⟩, A5, H⟩ := bnd H
 (try dsimp only at H)
 by_cases c6 : t134 = 0
 ·rw [if_pos c6] at H
  obtain ⟨c6b0, c6b1⟩ := be_ c6
  clear c6
  obtain rfl := sI H
  go_enter Tryz.func119, Tryz.ntmps119
  go_wp2_with (first | ((with_reducible refine g_c (f := 117) rfl ?_); refine gM (some 7) rfl rfl Tryz.func117 #[.int .u32 a0, .int .i64 22, .int .i64 1] rfl ?_; (with_reducible refine (code_part.calls a0 22 1 t130 _ A2.out).mono ?_); rintro e w' ⟨rfl, ⟨nd, rfl⟩⟩; refine ⟨_, rfl, ?_⟩) | ((with_reducible refine g_c (f := 117) rfl ?_); refine gM (some 9) rfl rfl Tryz.func117 #[.int .u32 a0, .int .i64 16, .int .i64 6] rfl ?_; (with_reducible refine (code_part.calls a0 16 6 t131 _ A3.out).mono ?_); rintro e w' ⟨rfl, ⟨nd, rfl⟩⟩; refine ⟨_, rfl, ?_⟩) | ((with_reducible refine g_c (f := 117) rfl ?_); refine gM (some 11) rfl rfl Tryz.func117 #[.int .u32 a0, .int .i64 10, .int .i64 6] rfl ?_; (with_reducible refine (code_part.calls a0 10 6 t132 _ A4.out).mono ?_); rintro e w' ⟨rfl, ⟨nd, rfl⟩⟩; refine ⟨_, rfl, ?_⟩) | ((with_reducible refine g_c (f := 147) rfl ?_); refine gM (some 12) rfl rfl Tryz.func147 #[.int .i64 t130, .int .i64 t131, .int .i64 t132] rfl ?_; (with_reducible refine (mask_Decode.calls k t130 t131 t132 t133 t134 _ A5.out).mono ?_); rintro e w7 ⟨rfl, hb⟩; refine ⟨_, rfl, ?_⟩; have n0_ := Azz.mk (bTT (by with_reducible repeat first | exact HB.out | apply bAA | apply bNN | apply bDD) hb); clear HB; have HB := n0_; clear n0_; (try clear hb); (try clear hb2); (try clear hk); (try clear hi)))
  go_ret
  exact ⟨eqB, by repeat (first | (with_reducible first | exact HB.out | apply bAA | apply bNN | apply bDD) | exact HB.out)⟩
 rw [if_neg c6] at H
 exact absurd H (by simp)
def bits_Signed.j0 : Nat → Int → Int → Bool → Option (Int × Int)
 | 0, _, _, _ => none
 | k + 1, x0, x1, x12 => if x12 = true then (some (0, 1)) else (if 0 ≤ x1 then (if (shr .u32 x0 x1) = 0 then (if 0 ≤ (wrap64 (x1 - 1)) then (if (shr .u32 x0 (wrap64 (x1 - 1))) = 1 then (some (wrap64 ((wrap64 (x0)) - (shl .i64 1 x1)), 0)) else (some (wrap64 (x0), 0))) else (none)) else (some (0, 4))) else (none))
def bits_Signed.f (k : Nat) (a0 : Int) (a1 : Int) : Option (Int × Int) := if a1 < 1 then (bits_Signed.j0 k a0 a1 true) else (bits_Signed.j0 k a0 a1 (decide (a1 > 32)))
theorem bits_Signed.calls (k : Nat) (a0 : Int) (a1 : Int) (r1 : Int) (r2 : Int) (w : World) (h : bits_Signed.f k a0 a1 = some (r1, r2)) :
 Calls Tryz.prog 121 #[.int .u32 a0, .int .i64 a1] w fun e w' => e = .returned (.tuple #[.int .i64 r1, .int .i64 r2]) ∧ Drawn0 w w' := by
 have H : (if a1 < 1 then (bits_Signed.j0 k a0 a1 true) else (bits_Signed.j0 k a0 a1 (decide (a1 > 32)))) = some (r1, r2) := h
 clear h
 have HC3 := Azz.mk H
 clear H
 go_enter Tryz.func121, Tryz.ntmps121
 go_upto_region 1 with (fail)
 go_cut [12] (fun v12 wc => ∃ (kq : Nat) (x12_2 : Bool), v12 = .bool x12_2 ∧ Azz (bits_Signed.j0 kq a0 a1 x12_2 = some (r1, r2)) ∧ Azz (kq ≤ k) ∧ Drawn0 w wc)
 case first =>
  have H := HC3.out
  clear HC3
  by_cases c4 : a1 < 1
  ·rw [if_pos c4] at H
   have c4b0 := dT_ c4
   clear c4
   (first | rw [c4b0] | (simp only [i64_w, i32_w]; rw [c4b0]) | skip)
   have H' := Azz.mk H
   clear H
   go_wp2
   go_meet
   case rel => exact ⟨_, (true), eqS, H', ⟨leS⟩, d0S⟩
  rw [if_neg c4] at H
  have c4b0 := dF_ c4
  clear c4
  (first | rw [c4b0] | (simp only [i64_w, i32_w]; rw [c4b0]) | skip)
  have H' := Azz.mk H
  clear H
  go_wp2
  go_meet
  case rel => exact ⟨_, (decide (a1 > 32)), eqS, H', ⟨leS⟩, d0S⟩
 case rest =>
  clear HC3
  try clear c1
  try clear p2
  try clear c4
  try clear c4b0
  obtain ⟨kq, x12_2, rfl, HA, HJ2, ⟨mc2, rfl⟩⟩ := hcut
  cases kq with
  | zero => exact absurd HA.out (by simp [bits_Signed.j0])
  | succ kj2 =>
   have H := HA.out
   clear HA
   simp only [bits_Signed.j0] at H
   by_cases c5 : x12_2 = true
   ·subst c5
    rw [if_pos rfl] at H
    simp only [sJ_, pJ_] at H
    obtain ⟨rfl, rfl⟩ := H
    go_wp2
    go_ret2
    exact ⟨by first | rfl | (simp; done) | (simp [*]; done), d0S⟩
   replace c5 := Bool.eq_false_iff.mpr c5
   subst c5
   rw [if_neg nFT] at H
   by_cases c6 : 0 ≤ a1
   rotate_left
   ·rw [if_neg c6] at H
    exact absurd H (by simp)
   rw [if_pos c6] at H
   have c6b0 := eq_true c6
   have c6b1 := dT_ c6
   clear c6
   obtain ⟨ji7, hji7⟩ : ∃ j_ : Int, (shr .u32 a0 a1) = j_ := ⟨_, rfl⟩
   replace H : (if (ji7) = 0 then (if 0 ≤ (wrap64 (a1 - 1)) then (if (shr .u32 a0 (wrap64 (a1 - 1))) = 1 then (some (wrap64 ((wrap64 (a0)) - (shl .i64 1 a1)), 0)) else (some (wrap64 (a0), 0))) else (none)) else (some (0, 4))) = some (r1, r2) := by first | (rw [hji7] at H; exact H) | (simp only [hji7] at H ⊢; exact H)
   have hji7_ : (a0 / 2 ^ min a1.toNat 32) = ji7 := hji7
   have hji7z : a1 ≤ 32 → (a0 / 2 ^ a1.toNat) = ji7 := shr_small hji7
   by_cases c8 : (ji7) = 0
   rotate_left
   ·rw [if_neg c8] at H
    obtain ⟨c8b0, c8b1⟩ := bn_ c8
    simp only [sJ_, pJ_] at H
    obtain ⟨rfl, rfl⟩ := H
    go_wp2
    go_ret2
    exact ⟨by first | rfl | (simp; done) | (simp only [← hji7] <;> (first | rfl | simp)) | (simp [*]; done), d0S⟩
   rw [if_pos c8] at H
   obtain ⟨c8b0, c8b1⟩ := be_ c8
   clear c8
   obtain ⟨ji9, hji9⟩ : ∃ j_ : Int, (wrap64 (a1 - 1)) = j_ := ⟨_, rfl⟩
   replace H : (if 0 ≤ (ji9) then (if (shr .u32 a0 (ji9)) = 1 then (some (wrap64 ((wrap64 (a0)) - (shl .i64 1 a1)), 0)) else (some (wrap64 (a0), 0))) else (none)) = some (r1, r2) := by first | (rw [hji9] at H; exact H) | (simp only [hji9] at H ⊢; exact H)
   have hji9w : (IntKind.i64.wrap (a1 - 1)) = ji9 := (i64_w _).trans hji9
   by_cases c10 : 0 ≤ (ji9)
   rotate_left
   ·rw [if_neg c10] at H
    exact absurd H (by simp)
   rw [if_pos c10] at H
   have c10b0 := eq_true c10
   have c10b1 := dT_ c10
   clear c10
   obtain ⟨ji11, hji11⟩ : ∃ j_ : Int, (shr .u32 a0 (ji9)) = j_ := ⟨_, rfl⟩
   replace H : (if (ji11) = 1 then (some (wrap64 ((wrap64 (a0)) - (shl .i64 1 a1)), 0)) else (some (wrap64 (a0), 0))) = some (r1, r2) := by first | (rw [hji11] at H; exact H) | (simp only [hji11] at H ⊢; exact H)
   have hji11_ : (a0 / 2 ^ min (ji9).toNat 32) = ji11 := hji11
   have hji11z : (ji9) ≤ 32 → (a0 / 2 ^ (ji9).toNat) = ji11 := shr_small hji11
   by_cases c12 : (ji11) = 1
   ·rw [if_pos c12] at H
    obtain ⟨c12b0, c12b1⟩ := be_ c12
    clear c12
    have c13b0 := eq_true (of_decide_eq_true (by first | (with_reducible assumption) | assumption) : 0 ≤ a1)
    obtain ⟨ji14, hji14⟩ : ∃ j_ : Int, (shl .i64 1 a1) = j_ := ⟨_, rfl⟩
    replace H : (some (wrap64 ((wrap64 (a0)) - (ji14)), 0)) = some (r1, r2) := by first | (rw [hji14] at H; exact H) | (simp only [hji14] at H ⊢; exact H)
    have hji14_ : (IntKind.i64.wrap (1 * 2 ^ min a1.toNat 64)) = ji14 := hji14
    have hji14z : a1 ≤ 64 → (IntKind.i64.wrap (1 * 2 ^ a1.toNat)) = ji14 := shl_small hji14
    have hji14u : (IntKind.i64.wrap (2 ^ min a1.toNat 64)) = ji14 := by have h_ := hji14_; rw [Int.one_mul] at h_; exact h_
    have hji14v : a1 ≤ 64 → (IntKind.i64.wrap (2 ^ a1.toNat)) = ji14 := fun hle_ => by have h_ := hji14z hle_; rw [Int.one_mul] at h_; exact h_
    have hji14y : (wrap64 (1 * 2 ^ min a1.toNat 64)) = ji14 := (i64_w _).symm.trans hji14_
    have hji14x : a1 ≤ 64 → (wrap64 (1 * 2 ^ a1.toNat)) = ji14 := fun h_ => (i64_w _).symm.trans (hji14z h_)
    simp only [sJ_, pJ_] at H
    obtain ⟨rfl, rfl⟩ := H
    go_wp2
    go_ret2
    exact ⟨by first | rfl | (simp; done) | (simp only [← hji7, ← hji9, ← hji11, ← hji14] <;> (first | rfl | simp)) | (simp [*]; done), d0S⟩
   rw [if_neg c12] at H
   obtain ⟨c12b0, c12b1⟩ := bn_ c12
   simp only [sJ_, pJ_] at H
   obtain ⟨rfl, rfl⟩ := H
   go_wp2
   go_ret2
   exact ⟨by first | rfl | (simp; done) | (simp only [← hji7, ← hji9, ← hji11] <;> (first | rfl | simp)) | (simp [*]; done), d0S⟩
def code_signed.f (k : Nat) (a0 : Int) (a1 : Int) (a2 : Int) : Option (Int) := (bits_Field.f a0 a1 a2).bind fun bt135 => ((bits_Signed.f k bt135.1 a2).bind fun bt137 => (some bt137.1))
theorem code_signed.calls (k : Nat) (a0 : Int) (a1 : Int) (a2 : Int) (r : Int) (w : World) (h : code_signed.f k a0 a1 a2 = some r) :
 Calls Tryz.prog 120 #[.int .u32 a0, .int .i64 a1, .int .i64 a2] w fun e w' => e = .returned (.int .i64 r) ∧ Drawn0 w w' := by
 have H : ((bits_Field.f a0 a1 a2).bind fun bt135 => ((bits_Signed.f k bt135.1 a2).bind fun bt137 => (some bt137.1))) = some r := h
 clear h
 obtain ⟨⟨t135, t136⟩, A4, H⟩ := bnd H
 (try dsimp only at H)
 obtain ⟨⟨t137, t138⟩, A5, H⟩ := bnd H
 (try dsimp only at H)
 obtain rfl := sI H
 go_enter Tryz.func120, Tryz.ntmps120
 go_wp2_with (first | ((with_reducible refine g_c (f := 146) rfl ?_); refine gM (some 15) rfl rfl Tryz.func146 #[.int .u32 a0, .int .i64 a1, .int .i64 a2] rfl ?_; (with_reducible refine (bits_Field.calls a0 a1 a2 t135 t136 _ A4.out).mono ?_); rintro e w' ⟨rfl, ⟨nd, rfl⟩⟩; refine ⟨_, rfl, ?_⟩) | ((with_reducible refine g_c (f := 121) rfl ?_); refine gM (some 21) rfl rfl Tryz.func121 #[.int .u32 t135, .int .i64 a2] rfl ?_; (with_reducible refine (bits_Signed.calls k t135 a2 t137 t138 _ A5.out).mono ?_); rintro e w' ⟨rfl, ⟨nd, rfl⟩⟩; refine ⟨_, rfl, ?_⟩))
 go_ret
 exact ⟨by first | rfl | (simp; done) | (simp [*]; done), d0S⟩
end Go.Proofs.YtngmipfodjgmmaaGreatDoor.P
