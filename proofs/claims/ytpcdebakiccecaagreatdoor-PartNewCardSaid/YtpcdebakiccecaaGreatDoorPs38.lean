/- Walks and plain laws of this claim, a part. -/
import Derived.Test.YtpcdebakiccecaaGreatDoorPs37
namespace Go.Proofs.YtpcdebakiccecaaGreatDoor.P
open Go.RowKit Go.Proofs.YtpcdebakiccecaaGreatDoorW.PrintWords Go.Proofs.YtpcdebakiccecaaGreatDoorW.PrintLast Go.Proofs.YtpcdebakiccecaaGreatDoorW.PrintMore
attribute [local go_sem] max2_int min2_int max_two min_two max_three min_three max_four min_four   -- for this text's walks alone
set_option linter.unusedVariables false
set_option linter.unusedSimpArgs false
mutual
def part_over.j0 : Nat → ByteArray → Bool → Int → Int → Int → Int → Option (Bool)
 | 0, _, _, _, _, _, _ => none
 | k + 1, x2, x24, x202000, x202001, x202002, x202003 => if x24 = true then (some false) else (part_over.l0 k x2 0 0 x202000 x202001 x202002 x202003)
def part_over.l0 : Nat → ByteArray → Int → Int → Int → Int → Int → Int → Option (Bool)
 | 0, _, _, _, _, _, _, _ => none
 | k + 1, x2, x7, x25, x202000, x202001, x202002, x202003 => if x25 < 4 then (if 0 ≤ x25 then (if x25 < (x2.size : Int) then (if 0 ≤ (wrap64 (8 * x25)) then (part_over.l0 k x2 (Go.bits .or .u32 x7 (shl .u32 ((bt x2 x25) % 4294967296) (wrap64 (8 * x25)))) (wrap64 (x25 + 1)) x202000 x202001 x202002 x202003) else (none)) else (none)) else (none)) else ((part_Fits.f k x202001 x7).bind fun t203 => (some t203))
end
def part_over.f (k : Nat) (a0 : Int) (a1_0 : Int) (a1_1 : Int) (a1_2 : Int) (a1_3 : Int) (a2 : ByteArray) : Option (Bool) := if a1_1 = 1 then ((strings_Count.f a2 (⟨#[0]⟩ : ByteArray)).bind fun t202 => (some (t202 == (a2.size : Int)))) else (if a0 = 1 then (part_over.j0 k a2 ((Int.tmod a1_0 4) != 0) a1_0 a1_1 a1_2 a1_3) else (part_over.j0 k a2 true a1_0 a1_1 a1_2 a1_3))
theorem part_over.mono_l : ∀ k, (∀ y0 y1 y2 y3 y4 y5, LeO (part_over.j0 k y0 y1 y2 y3 y4 y5) (part_over.j0 (k + 1) y0 y1 y2 y3 y4 y5)) ∧ (∀ y0 y1 y2 y3 y4 y5 y6, LeO (part_over.l0 k y0 y1 y2 y3 y4 y5 y6) (part_over.l0 (k + 1) y0 y1 y2 y3 y4 y5 y6))
 | 0 => ⟨fun _ _ _ _ _ _ r h => by simp [part_over.j0] at h, fun _ _ _ _ _ _ _ r h => by simp [part_over.l0] at h⟩
 | k + 1 => by
  obtain ⟨ih0, ih1⟩ := part_over.mono_l k
  refine ⟨?_, ?_⟩
  ·intro y0 y1 y2 y3 y4 y5
   unfold part_over.j0
   repeat' first
   | (with_reducible exact ih0 _ _ _ _ _ _)
   | (with_reducible exact ih1 _ _ _ _ _ _ _)
   | (with_reducible exact part_Fits.mono _ _ _)
   | (with_reducible exact LeO.refl _)
   | (with_reducible exact LeO.none _)
   | (with_reducible refine LeO.ite ?_ ?_)
   | (with_reducible refine LeO.bind ?_ (fun _ => ?_))
  ·intro y0 y1 y2 y3 y4 y5 y6
   unfold part_over.l0
   repeat' first
   | (with_reducible exact ih0 _ _ _ _ _ _)
   | (with_reducible exact ih1 _ _ _ _ _ _ _)
   | (with_reducible exact part_Fits.mono _ _ _)
   | (with_reducible exact LeO.refl _)
   | (with_reducible exact LeO.none _)
   | (with_reducible refine LeO.ite ?_ ?_)
   | (with_reducible refine LeO.bind ?_ (fun _ => ?_))
theorem part_over.mono : ∀ a0 a1 a2 a3 a4 a5 k, LeO (part_over.f k a0 a1 a2 a3 a4 a5) (part_over.f (k + 1) a0 a1 a2 a3 a4 a5) := by
 intro a0 a1 a2 a3 a4 a5 k
 obtain ⟨ih0, ih1⟩ := part_over.mono_l k
 unfold part_over.f
 repeat' first
  | (with_reducible exact ih0 _ _ _ _ _ _)
  | (with_reducible exact ih1 _ _ _ _ _ _ _)
  | (with_reducible exact part_Fits.mono _ _ _)
  | (with_reducible exact LeO.refl _)
  | (with_reducible exact LeO.none _)
  | (with_reducible refine LeO.ite ?_ ?_)
  | (with_reducible refine LeO.bind ?_ (fun _ => ?_))
set_option maxHeartbeats 8000000 in
set_option maxRecDepth 100000 in
theorem part_over.calls (k : Nat) (a0 : Int) (a1_0 : Int) (a1_1 : Int) (a1_2 : Int) (a1_3 : Int) (a2 : ByteArray) (r : Bool) (w : World) (hG : Glob w) (h : part_over.f k a0 a1_0 a1_1 a1_2 a1_3 a2 = some r) :
 Calls Tryz.prog 17 #[.int .i64 a0, .agg #[.int .i64 a1_0, .int .i64 a1_1, .int .i64 a1_2, .int .i64 a1_3], .string a2] w fun e w' => e = .returned (.bool r) ∧ Below w.heap.size w w' := by
 have hu44 := Tryz.underlying44
 have HB := Azz.mk (Below.refl w.heap.size w)
 have H : (if a1_1 = 1 then ((strings_Count.f a2 (⟨#[0]⟩ : ByteArray)).bind fun t202 => (some (t202 == (a2.size : Int)))) else (if a0 = 1 then (part_over.j0 k a2 ((Int.tmod a1_0 4) != 0) a1_0 a1_1 a1_2 a1_3) else (part_over.j0 k a2 true a1_0 a1_1 a1_2 a1_3))) = some r := h
 clear h
 by_cases c4 : a1_1 = 1
 ·rw [if_pos c4] at H
  have c4b0 := beq_iff_eq.mpr c4
  have c4b1 := bne_eq_false_iff_eq.mpr c4
  clear c4
  replace H := Option.bind_eq_some_iff.mp H
  obtain ⟨t202, A50, H⟩ := H
  (try dsimp only at H)
  have A5 := Azz.mk A50
  clear A50
  obtain rfl := Option.some.inj H
  go_enter Tryz.func17, Tryz.ntmps17
  go_wp2_with (first | ((with_reducible refine gate_dst (N := 4) rfl ?_); refine box_event ?hg (N := 4) ?hd (cs := #[.int .i64 a1_0, .int .i64 a1_1, .int .i64 a1_2, .int .i64 a1_3]) (t := 44) ?hr ?_; (case hd => rfl); (case hg => rfl); (case hr => first | (go_simp; done) | (go_simp; rfl)); intro gb201 hg w6 hbox hb; have n0_ := Azz.mk (bTT (by with_reducible repeat first | exact HB.out | apply bAA | apply bNN | apply bDD) hb); have n1_ := Azz.mk (hbox); have n2_ := Azz.mk ((by rw [hg]; exact (bZZ (by with_reducible repeat first | exact HB.out | apply bAA | apply bNN | apply bDD)) : w.heap.size ≤ gb201)); have n3_ := Azz.mk ((by rw [hg]; exact (bZZ (by with_reducible repeat first | exact HB.out | apply bAA | apply bNN | apply bDD)) : w.heap.size ≤ gb201)); clear HB; have HB := n0_; have BK201 := n1_; have GW201 := n2_; have GE201 := n3_; clear n0_ n1_ n2_ n3_; clear hb hbox hg; obtain ⟨hcz7_0, hcz7_1, hcz7_2, hcz7_3, hfz7_0, hfz7_1, hfz7_2, hfz7_3⟩ := cel4 BK201.out) | ((with_reducible refine gate_callee (f := 27) rfl ?_); refine goesL_ (some 13) rfl rfl Tryz.func27 (by kernel_rfl) rfl #[.string a2, .string (⟨#[0]⟩ : ByteArray)] rfl (by (try simp only [List.map_toArray, List.map_cons, List.map_nil]); first | done | rfl | (simp only [List.length_drop, List.length_take]; rfl)) ?_; (with_reducible refine (strings_Count.calls a2 (⟨#[0]⟩ : ByteArray) t202 _ A5.out).mono ?_); rintro e w' ⟨rfl, ⟨nd, rfl⟩⟩; refine ⟨_, rfl, ?_⟩))
  go_ret
  exact ⟨by first | rfl | (simp [eNN, eSS] <;> rfl) | (simp [*, eNN, eSS] <;> rfl), by repeat (first | (with_reducible first | exact HB.out | apply bAA | apply bNN | apply bDD | refine bSS ?_ GE201.out) | exact HB.out)⟩
 ·rw [if_neg c4] at H
  have c4b0 := beq_eq_false_iff_ne.mpr c4
  have c4b1 := bne_iff_ne.mpr c4
  have HC8 := Azz.mk H
  clear H
  go_enter Tryz.func17, Tryz.ntmps17
  go_upto_region 3 with (first | ((with_reducible refine gate_dst (N := 4) rfl ?_); refine box_event ?hg (N := 4) ?hd (cs := #[.int .i64 a1_0, .int .i64 a1_1, .int .i64 a1_2, .int .i64 a1_3]) (t := 44) ?hr ?_; (case hd => rfl); (case hg => rfl); (case hr => first | (go_simp; done) | (go_simp; rfl)); intro gb201 hg w9 hbox hb; have n0_ := Azz.mk (bTT (by with_reducible repeat first | exact HB.out | apply bAA | apply bNN | apply bDD) hb); have n1_ := Azz.mk (hbox); have n2_ := Azz.mk ((by rw [hg]; exact (bZZ (by with_reducible repeat first | exact HB.out | apply bAA | apply bNN | apply bDD)) : w.heap.size ≤ gb201)); have n3_ := Azz.mk ((by rw [hg]; exact (bZZ (by with_reducible repeat first | exact HB.out | apply bAA | apply bNN | apply bDD)) : w.heap.size ≤ gb201)); clear HB; have HB := n0_; have BK201 := n1_; have GW201 := n2_; have GE201 := n3_; clear n0_ n1_ n2_ n3_; clear hb hbox hg; obtain ⟨hcz10_0, hcz10_1, hcz10_2, hcz10_3, hfz10_0, hfz10_1, hfz10_2, hfz10_3⟩ := cel4 BK201.out))
  (try simp only [Act.put, List.setIfInBounds_toArray, List.set_cons_zero, List.set_cons_succ])
  go_cut [24] (fun v24 wc => ∃ (kq : Nat) (x24_7 : Bool), v24 = .bool x24_7 ∧ Azz (part_over.j0 kq a2 x24_7 a1_0 a1_1 a1_2 a1_3 = some r) ∧ Azz (kq ≤ k) ∧ Azz (wc.heap[gb201]? = some (.cells #[.int .i64 a1_0, .int .i64 a1_1, .int .i64 a1_2, .int .i64 a1_3] 44 (0, 0))) ∧ Azz (Below w.heap.size w wc))
  case first =>
   have H := HC8.out
   clear HC8
   by_cases c11 : a0 = 1
   ·rw [if_pos c11] at H
    have c11b0 := beq_iff_eq.mpr c11
    have c11b1 := bne_eq_false_iff_eq.mpr c11
    clear c11
    (first | rw [c11b0] | (simp only [i64_w, i32_w]; rw [c11b0]) | skip)
    have H' := Azz.mk H
    clear H
    obtain ⟨hcz12_0, hcz12_1, hcz12_2, hcz12_3, hfz12_0, hfz12_1, hfz12_2, hfz12_3⟩ := cel4 BK201.out
    go_wp2
    go_meet
    case rel => exact ⟨_, (((Int.tmod a1_0 4) != 0)), (by first | rfl | (simp; done) | (simp [*]; done)), H', ⟨by first | omega | exact Nat.le_refl _⟩, ⟨by (with_reducible repeat first | apply kNN | apply kDD | apply kAA); exact BK201.out⟩, ⟨by repeat (first | (with_reducible first | exact HB.out | apply bAA | apply bNN | apply bDD | refine bSS ?_ GE201.out) | exact HB.out)⟩⟩
   ·rw [if_neg c11] at H
    have c11b0 := beq_eq_false_iff_ne.mpr c11
    have c11b1 := bne_iff_ne.mpr c11
    (first | rw [c11b0] | (simp only [i64_w, i32_w]; rw [c11b0]) | skip)
    have H' := Azz.mk H
    clear H
    go_wp2
    go_meet
    case rel => exact ⟨_, (true), (by first | rfl | (simp; done) | (simp [*]; done)), H', ⟨by first | omega | exact Nat.le_refl _⟩, ⟨by (with_reducible repeat first | apply kNN | apply kDD | apply kAA); exact BK201.out⟩, ⟨by repeat (first | (with_reducible first | exact HB.out | apply bAA | apply bNN | apply bDD | refine bSS ?_ GE201.out) | exact HB.out)⟩⟩
  case rest =>
   clear HC8
   try clear c1
   try clear c2
   try clear p2
   try clear c4
   try clear c4b0
   try clear c4b1
   try clear c11
   try clear c11b0
   try clear c11b1
   try clear hcz10_0 hcz10_1 hcz10_2 hcz10_3 hcz12_0 hcz12_1 hcz12_2 hcz12_3 hcz7_0 hcz7_1 hcz7_2 hcz7_3 hfz10_0 hfz10_1 hfz10_2 hfz10_3 hfz12_0 hfz12_1 hfz12_2 hfz12_3 hfz7_0 hfz7_1 hfz7_2 hfz7_3
   obtain ⟨kq, x24_7, rfl, HA, HJ7, BK201, HB⟩ := hcut
   cases kq with
   | zero => exact absurd HA.out (by simp [part_over.j0])
   | succ kj7 =>
    have H := HA.out
    clear HA
    simp only [part_over.j0] at H
    by_cases c13 : x24_7 = true
    ·subst c13
     rw [if_pos rfl] at H
     obtain rfl := Option.some.inj H
     go_wp2
     go_ret
     exact ⟨by first | rfl | (simp [eNN, eSS] <;> rfl) | (simp [*, eNN, eSS] <;> rfl), by repeat (first | (with_reducible first | exact HB.out | apply bAA | apply bNN | apply bDD | refine bSS ?_ GE201.out) | exact HB.out)⟩
    ·replace c13 := Bool.eq_false_iff.mpr c13
     subst c13
     rw [if_neg (show ¬ (false = true) by decide)] at H
     have H' := Azz.mk H
     clear H
     go_wp2
     go_loopg [7, 25] kj7 (fun kq v7 v25 w' => ∃ (x7_2 : Int) (x25_2 : Int), v7 = .int .u32 x7_2 ∧ v25 = .int .i64 x25_2 ∧ Azz (part_over.l0 kq a2 x7_2 x25_2 a1_0 a1_1 a1_2 a1_3 = some r) ∧ Azz (kq ≤ kj7) ∧ Azz (w'.heap[gb201]? = some (.cells #[.int .i64 a1_0, .int .i64 a1_1, .int .i64 a1_2, .int .i64 a1_3] 44 (0, 0))) ∧ Azz (Below w.heap.size w w'))
     case atStart => exact ⟨(0), (0), (by first | rfl | (simp; done) | (simp [*]; done)), (by first | rfl | (simp; done) | (simp [*]; done)), H', ⟨Nat.le_refl _⟩, ⟨by (with_reducible repeat first | apply kNN | apply kDD | apply kAA); exact BK201.out⟩, ⟨by repeat (first | (with_reducible first | exact HB.out | apply bAA | apply bNN | apply bDD | refine bSS ?_ GE201.out) | exact HB.out)⟩⟩
     case round =>
      clear H'
      try clear c1
      try clear c2
      try clear p2
      try clear c4
      try clear c4b0
      try clear c4b1
      try clear c11
      try clear c11b0
      try clear c11b1
      try clear c13
      try clear p2
      try clear hcz10_0 hcz10_1 hcz10_2 hcz10_3 hcz12_0 hcz12_1 hcz12_2 hcz12_3 hcz7_0 hcz7_1 hcz7_2 hcz7_3 hfz10_0 hfz10_1 hfz10_2 hfz10_3 hfz12_0 hfz12_1 hfz12_2 hfz12_3 hfz7_0 hfz7_1 hfz7_2 hfz7_3
      obtain ⟨x7_2, x25_2, rfl, rfl, HA, HK2, BK201, HB⟩ := hrel
      cases gk with
      | zero => exact absurd HA.out (by simp [part_over.l0])
      | succ k2 =>
       have H := HA.out
       clear HA
       simp only [part_over.l0] at H
       by_cases c14 : x25_2 < 4
       ·rw [if_pos c14] at H
        have c14b0 := decide_eq_true c14
        clear c14
        by_cases c15 : 0 ≤ x25_2
        ·rw [if_pos c15] at H
         have c15b0 := decide_eq_true c15
         clear c15
         by_cases c16 : x25_2 < (a2.size : Int)
         ·rw [if_pos c16] at H
          have c16b0 := decide_eq_true c16
          clear c16
          obtain ⟨ji18, hji18⟩ : ∃ j_ : Int, (wrap64 (8 * x25_2)) = j_ := ⟨_, rfl⟩
          replace H : (if 0 ≤ (ji18) then (part_over.l0 k2 a2 (Go.bits .or .u32 x7_2 (shl .u32 ((bt a2 x25_2) % 4294967296) (ji18))) (wrap64 (x25_2 + 1)) a1_0 a1_1 a1_2 a1_3) else (none)) = some r := by first | (rw [hji18] at H; exact H) | (simp only [hji18] at H ⊢; exact H)
          have hji18w : (IntKind.i64.wrap (8 * x25_2)) = ji18 := (i64_w _).trans hji18
          by_cases c19 : 0 ≤ (ji18)
          ·rw [if_pos c19] at H
           have c19b0 := eq_true c19
           have c19b1 := decide_eq_true c19
           clear c19
           obtain ⟨ji20, hji20⟩ : ∃ j_ : Int, (shl .u32 ((bt a2 x25_2) % 4294967296) (ji18)) = j_ := ⟨_, rfl⟩
           replace H : (part_over.l0 k2 a2 (Go.bits .or .u32 x7_2 (ji20)) (wrap64 (x25_2 + 1)) a1_0 a1_1 a1_2 a1_3) = some r := by first | (rw [hji20] at H; exact H) | (simp only [hji20] at H ⊢; exact H)
           have hji20_ : (IntKind.u32.wrap (((bt a2 x25_2) % 4294967296) * 2 ^ min (ji18).toNat 32)) = ji20 := hji20
           have hji20z : (ji18) ≤ 32 → (IntKind.u32.wrap (((bt a2 x25_2) % 4294967296) * 2 ^ (ji18).toNat)) = ji20 := shl_small hji20
           have H' := Azz.mk H
           clear H
           have p17 : 0 ≤ (x25_2 : Int) := of_decide_eq_true (by first | (with_reducible assumption) | assumption)
           have q17 : x25_2 < (a2.size : Int) := of_decide_eq_true (by first | (with_reducible assumption) | assumption)
           have hx17 := bt_at a2 x25_2
           replace p17 := eq_true p17
           replace q17 := eq_true q17
           go_wp2
           go_roundg k2
           case measure => have := HJ7.out; have := HK2.out; omega
           case rel => exact ⟨(Go.bits .or .u32 x7_2 (ji20)), (wrap64 (x25_2 + 1)), (by first | rfl | (simp; done) | (simp only [← hji20] <;> (first | rfl | simp)) | (simp [*]; done)), (by first | rfl | (simp; done) | (simp [*]; done)), H', ⟨by have := HJ7.out; have := HK2.out; omega⟩, ⟨by (with_reducible repeat first | apply kNN | apply kDD | apply kAA); exact BK201.out⟩, ⟨by repeat (first | (with_reducible first | exact HB.out | apply bAA | apply bNN | apply bDD | refine bSS ?_ GE201.out) | exact HB.out)⟩⟩
          ·rw [if_neg c19] at H
           exact absurd H (by simp)
         ·rw [if_neg c16] at H
          exact absurd H (by simp)
        ·rw [if_neg c15] at H
         exact absurd H (by simp)
       ·rw [if_neg c14] at H
        have c14b0 := decide_eq_false c14
        clear c14
        replace H := Option.bind_eq_some_iff.mp H
        obtain ⟨t203, A210, H⟩ := H
        (try dsimp only at H)
        have A21 := Azz.mk A210
        clear A210
        obtain rfl := Option.some.inj H
        obtain ⟨hcz22_0, hcz22_1, hcz22_2, hcz22_3, hfz22_0, hfz22_1, hfz22_2, hfz22_3⟩ := cel4 BK201.out
        go_wp2_with (first | ((with_reducible refine gate_callee (f := 16) rfl ?_); refine goesL_ (some 41) rfl rfl Tryz.func16 (by kernel_rfl) rfl #[.int .i64 a1_1, .int .u32 x7_2] rfl (by (try simp only [List.map_toArray, List.map_cons, List.map_nil]); first | done | rfl | (simp only [List.length_drop, List.length_take]; rfl)) ?_; (with_reducible refine (part_Fits.calls k2 a1_1 x7_2 t203 _ ?side1 A21.out).mono ?_); (case side1 => exact Glob.below hG (by with_reducible repeat first | exact HB.out | apply bAA | apply bNN | apply bDD | refine bSS ?_ GE201.out)); rintro e w23 ⟨rfl, hb⟩; refine ⟨_, rfl, ?_⟩; have n0_ := Azz.mk (blk_b hb BK201.out); have n1_ := Azz.mk (bTT (by with_reducible repeat first | exact HB.out | apply bAA | apply bNN | apply bDD | refine bSS ?_ GE201.out) hb); clear BK201; clear HB; have BK201 := n0_; have HB := n1_; clear n0_ n1_; (try clear hb); (try clear hb2); (try clear hk); (try clear hi)))
        go_ret
        exact ⟨by first | rfl | (simp [eNN, eSS] <;> rfl) | (simp [*, eNN, eSS] <;> rfl), by repeat (first | (with_reducible first | exact HB.out | apply bAA | apply bNN | apply bDD | refine bSS ?_ GE201.out) | exact HB.out)⟩
end Go.Proofs.YtpcdebakiccecaaGreatDoor.P
