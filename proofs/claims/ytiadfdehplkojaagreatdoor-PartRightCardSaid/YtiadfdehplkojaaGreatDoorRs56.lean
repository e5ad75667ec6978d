/- Walks and plain laws of this claim, a part. -/
import Derived.Test.YtiadfdehplkojaaGreatDoorRs42
namespace Go.Proofs.YtiadfdehplkojaaGreatDoor.P
open Go.RowKit Go.Proofs.YtiadfdehplkojaaGreatDoorW.PrintWords Go.Proofs.YtiadfdehplkojaaGreatDoorW.PrintLast Go.Proofs.YtiadfdehplkojaaGreatDoorW.PrintMore
attribute [local go_sem] max2_int min2_int max_two min_two max_three min_three max_four min_four   -- for this text's walks alone
set_option linter.unusedVariables false
set_option linter.unusedSimpArgs false
def part_Quad.f (k : Nat) (a0_0 : ByteArray) (a0_1 : Int) (a0_2 : Bool) (a0_3 : Int) (a0_4 : ByteArray) (l0_5 : List (S61)) (a1 : Int) (a2 : Int) (a3 : Int) : Option (ByteArray × Int × Bool × Int × ByteArray × (List (S61)) × Int) := (part_Is.f k a0_0 a0_1 a0_2 a0_3 a0_4 l0_5).bind fun t259 => (if t259 = true then (if a2 < 0 then ((part_little.f k a1 8).bind fun t260 => ((part_grow.f t260 ([] : List (S61)) a0_0 a0_1 a0_2 a0_3 a0_4 l0_5).bind fun bt261 => (some (bt261.1, bt261.2.1, bt261.2.2.1, bt261.2.2.2.1, bt261.2.2.2.2.1, bt261.2.2.2.2.2.1, bt261.2.2.2.2.2.2)))) else ((part_little.f k 0 8).bind fun t270 => ((part_grow.f t270 (([(⟨(a0_4.size : Int), 1, a2, a3⟩ : S61)] : List (S61))) a0_0 a0_1 a0_2 a0_3 a0_4 l0_5).bind fun bt274 => (some (bt274.1, bt274.2.1, bt274.2.2.1, bt274.2.2.2.1, bt274.2.2.2.2.1, bt274.2.2.2.2.2.1, bt274.2.2.2.2.2.2))))) else (some ((⟨#[]⟩ : ByteArray), 0, false, 0, (⟨#[]⟩ : ByteArray), ([] : List (S61)), 1)))
def part_Quad.T5 : Bool × List (List Nat × List Nat) := (true, [([], []), ([0], [0]), ([1], []), ([], []), ([3], [3]), ([4], [4]), ([], []), ([], []), ([5, 6, 7], [5, 6, 7]), ([8], [8]), ([1, 2, 9, 2], [1, 2, 9]), ([10], [10]), ([10], [10]), ([11, 10, 0, 1, 2, 3, 4, 5, 6, 7, 8, 9, 10, 11, 12], [11]), ([12, 13, 0, 1, 2, 3, 4, 5, 6, 7, 8, 9, 10, 11, 12, 13], [12])])
def part_Quad.B5 : List Nat := [0, 1, 3, 0, 8, 24, 0, 0, 248, 504, 1023, 2047, 2047, 8191, 16383]
theorem part_Quad.tab5 : rtab .any (opsOf Tryz.f34 5) = part_Quad.T5 := by kernel_rfl
theorem part_Quad.bits5 : waitsOk part_Quad.T5.2 part_Quad.B5 = true := by kernel_rfl
set_option maxHeartbeats 8000000 in
set_option maxRecDepth 100000 in
theorem part_Quad.calls (k : Nat) (a0_0 : ByteArray) (a0_1 : Int) (a0_2 : Bool) (a0_3 : Int) (a0_4 : ByteArray) (A0_5 : Option Addr) (c0_5 : Nat) (l0_5 : List (S61)) (a1 : Int) (a2 : Int) (a3 : Int) (r1 : ByteArray) (r2 : Int) (r3 : Bool) (r4 : Int) (r5 : ByteArray) (r6 : List (S61)) (r7 : Int) (w : World) (hG : Glob w) (hr0_5 : Kd.C k61 w A0_5 l0_5.length l0_5) (hc0_5 : l0_5.length ≤ c0_5) (h : part_Quad.f k a0_0 a0_1 a0_2 a0_3 a0_4 l0_5 a1 a2 a3 = some (r1, r2, r3, r4, r5, r6, r7)) :
 Calls Tryz.prog 34 #[.agg #[.string a0_0, .int .i64 a0_1, .bool a0_2, .int .i64 a0_3, .string a0_4, .slice A0_5 l0_5.length c0_5], .int .u64 a1, .int .i64 a2, .int .i64 a3] w fun e w' => ∃ v5_ : Value, e = .returned (.tuple #[.agg #[.string r1, .int .i64 r2, .bool r3, .int .i64 r4, .string r5, v5_], .int .i64 r7]) ∧ Kd.R k61 61 w' w.heap.size (fun _ => True) v5_ r6 ∧ Below w.heap.size w w' := by
 have hu44 := Tryz.underlying44
 have hu61 := Tryz.underlying61
 have HR0_5 := Azz.mk hr0_5
 have HC0_5 := Azz.mk hc0_5
 clear hr0_5 hc0_5
 have HB := Azz.mk (Below.refl w.heap.size w)
 have H : ((part_Is.f k a0_0 a0_1 a0_2 a0_3 a0_4 l0_5).bind fun t259 => (if t259 = true then (if a2 < 0 then ((part_little.f k a1 8).bind fun t260 => ((part_grow.f t260 ([] : List (S61)) a0_0 a0_1 a0_2 a0_3 a0_4 l0_5).bind fun bt261 => (some (bt261.1, bt261.2.1, bt261.2.2.1, bt261.2.2.2.1, bt261.2.2.2.2.1, bt261.2.2.2.2.2.1, bt261.2.2.2.2.2.2)))) else ((part_little.f k 0 8).bind fun t270 => ((part_grow.f t270 (([(⟨(a0_4.size : Int), 1, a2, a3⟩ : S61)] : List (S61))) a0_0 a0_1 a0_2 a0_3 a0_4 l0_5).bind fun bt274 => (some (bt274.1, bt274.2.1, bt274.2.2.1, bt274.2.2.2.1, bt274.2.2.2.2.1, bt274.2.2.2.2.2.1, bt274.2.2.2.2.2.2))))) else (some ((⟨#[]⟩ : ByteArray), 0, false, 0, (⟨#[]⟩ : ByteArray), ([] : List (S61)), 1)))) = some (r1, r2, r3, r4, r5, r6, r7) := h
 clear h
 replace H := Option.bind_eq_some_iff.mp H
 obtain ⟨t259, A50, H⟩ := H
 replace H : (if t259 = true then (if a2 < 0 then ((part_little.f k a1 8).bind fun t260 => ((part_grow.f t260 ([] : List (S61)) a0_0 a0_1 a0_2 a0_3 a0_4 l0_5).bind fun bt261 => (some (bt261.1, bt261.2.1, bt261.2.2.1, bt261.2.2.2.1, bt261.2.2.2.2.1, bt261.2.2.2.2.2.1, bt261.2.2.2.2.2.2)))) else ((part_little.f k 0 8).bind fun t270 => ((part_grow.f t270 (([(⟨(a0_4.size : Int), 1, a2, a3⟩ : S61)] : List (S61))) a0_0 a0_1 a0_2 a0_3 a0_4 l0_5).bind fun bt274 => (some (bt274.1, bt274.2.1, bt274.2.2.1, bt274.2.2.2.1, bt274.2.2.2.2.1, bt274.2.2.2.2.2.1, bt274.2.2.2.2.2.2))))) else (some ((⟨#[]⟩ : ByteArray), 0, false, 0, (⟨#[]⟩ : ByteArray), ([] : List (S61)), 1))) = some (r1, r2, r3, r4, r5, r6, r7) := H
 have A5 := Azz.mk A50
 clear A50
 by_cases c6 : t259 = true
 ·subst c6
  have H1 : (if a2 < 0 then ((part_little.f k a1 8).bind fun t260 => ((part_grow.f t260 ([] : List (S61)) a0_0 a0_1 a0_2 a0_3 a0_4 l0_5).bind fun bt261 => (some (bt261.1, bt261.2.1, bt261.2.2.1, bt261.2.2.2.1, bt261.2.2.2.2.1, bt261.2.2.2.2.2.1, bt261.2.2.2.2.2.2)))) else ((part_little.f k 0 8).bind fun t270 => ((part_grow.f t270 (([(⟨(a0_4.size : Int), 1, a2, a3⟩ : S61)] : List (S61))) a0_0 a0_1 a0_2 a0_3 a0_4 l0_5).bind fun bt274 => (some (bt274.1, bt274.2.1, bt274.2.2.1, bt274.2.2.2.1, bt274.2.2.2.2.1, bt274.2.2.2.2.2.1, bt274.2.2.2.2.2.2))))) = some (r1, r2, r3, r4, r5, r6, r7) := by rw [if_pos rfl] at H; exact H
  clear H
  have H := H1
  clear H1
  by_cases c7 : a2 < 0
  ·rw [if_pos c7] at H
   have c7b0 : decide (a2 < 0) = true := decide_eq_true c7
   clear c7
   replace H := Option.bind_eq_some_iff.mp H
   obtain ⟨t260, A80, H⟩ := H
   replace H : ((part_grow.f t260 ([] : List (S61)) a0_0 a0_1 a0_2 a0_3 a0_4 l0_5).bind fun bt261 => (some (bt261.1, bt261.2.1, bt261.2.2.1, bt261.2.2.2.1, bt261.2.2.2.2.1, bt261.2.2.2.2.2.1, bt261.2.2.2.2.2.2))) = some (r1, r2, r3, r4, r5, r6, r7) := H
   have A8 := Azz.mk A80
   clear A80
   replace H := Option.bind_eq_some_iff.mp H
   obtain ⟨⟨t261, t262, t263, t264, t265, t266, t269⟩, A90, H⟩ := H
   replace H : (some (t261, t262, t263, t264, t265, t266, t269)) = some (r1, r2, r3, r4, r5, r6, r7) := H
   have A9 := Azz.mk A90
   clear A90
   simp only [Option.some.injEq, Prod.mk.injEq] at H
   obtain ⟨rfl, rfl, rfl, rfl, rfl, rfl, rfl⟩ := H
   go_enter Tryz.func34, Tryz.ntmps34
   go_wp2_with (first | ((with_reducible refine gate_dst (N := 4) rfl ?_); refine box_event ?hg (N := 4) ?hd (cs := #[.string a0_0, .int .i64 a0_1, .bool a0_2, .int .i64 a0_3, .string a0_4, .slice A0_5 l0_5.length c0_5]) (t := 44) ?hr ?_; (case hd => rfl); (case hg => rfl); (case hr => first | (go_simp; done) | (go_simp; rfl)); intro gb257 hg w10 hbox hb; have n0_ := Azz.mk (bTT (by repeat (first | (with_reducible first | exact HB.out | apply bAA | apply bNN | apply bDD) | exact HB.out)) hb); have n1_ := Azz.mk (hbox); have n2_ := Azz.mk ((by rw [hg]; exact (bZZ (by repeat (first | (with_reducible first | exact HB.out | apply bAA | apply bNN | apply bDD) | exact HB.out))) : w.heap.size ≤ gb257)); have n3_ := Azz.mk ((by rw [hg]; exact (bZZ (by repeat (first | (with_reducible first | exact HB.out | apply bAA | apply bNN | apply bDD) | exact HB.out))) : w.heap.size ≤ gb257)); clear HB; have HB := n0_; have BK257 := n1_; have GW257 := n2_; have GE257 := n3_; clear n0_ n1_ n2_ n3_; clear hb hbox hg) | ((with_reducible refine gate_dst (N := 8) rfl ?_); refine box_event ?hg (N := 8) ?hd (cs := #[.string (⟨#[]⟩ : ByteArray), .int .i64 0, .bool false, .int .i64 0, .string (⟨#[]⟩ : ByteArray), .slice none 0 0]) (t := 44) ?hr ?_; (case hd => rfl); (case hg => rfl); (case hr => first | (go_simp; done) | (go_simp; rfl)); intro gb258 hg w11 hbox hb; have n0_ := Azz.mk (kBB (g := gb257) (o := .cells #[.string a0_0, .int .i64 a0_1, .bool a0_2, .int .i64 a0_3, .string a0_4, .slice A0_5 l0_5.length c0_5] 44 (0, 0)) (by (with_reducible repeat first | apply kNN | apply kDD | apply kAA); exact BK257.out) hb); have n1_ := Azz.mk (bTT (by repeat (first | (with_reducible first | exact HB.out | apply bAA | apply bNN | apply bDD | refine bSS ?_ GE257.out) | exact HB.out)) hb); have n2_ := Azz.mk (hbox); have n3_ := Azz.mk ((by rw [hg]; exact (bZZ (by repeat (first | (with_reducible first | exact HB.out | apply bAA | apply bNN | apply bDD | refine bSS ?_ GE257.out) | exact HB.out))) : w.heap.size ≤ gb258)); have n4_ := Azz.mk ((by rw [hg]; exact (bZZ (by repeat (first | (with_reducible first | exact HB.out | apply bAA | apply bNN | apply bDD | refine bSS ?_ GE257.out) | exact HB.out))) : w.heap.size ≤ gb258)); have n5_ := Azz.mk ((by rw [hg]; exact Nat.ne_of_lt (blk_lt (g := gb257) (o := .cells #[.string a0_0, .int .i64 a0_1, .bool a0_2, .int .i64 a0_3, .string a0_4, .slice A0_5 l0_5.length c0_5] 44 (0, 0)) (by (with_reducible repeat first | apply kNN | apply kDD | apply kAA); exact BK257.out)) : gb257 ≠ gb258)); have n6_ := Azz.mk ((by rw [hg]; exact Nat.ne_of_gt (blk_lt (g := gb257) (o := .cells #[.string a0_0, .int .i64 a0_1, .bool a0_2, .int .i64 a0_3, .string a0_4, .slice A0_5 l0_5.length c0_5] 44 (0, 0)) (by (with_reducible repeat first | apply kNN | apply kDD | apply kAA); exact BK257.out)) : gb258 ≠ gb257)); clear BK257; clear HB; have BK257 := n0_; have HB := n1_; have BK258 := n2_; have GW258 := n3_; have GE258 := n4_; have NB257_258 := n5_; have NB258_257 := n6_; clear n0_ n1_ n2_ n3_ n4_ n5_ n6_; clear hb hbox hg; have hnb12 := NB257_258.out; have hnc12 := NB258_257.out; have hcz13_0 : w11.cell? ⟨gb257, 0, none⟩ = some (.string a0_0) := (kCC BK257.out 0).trans rfl; have hcz13_1 : w11.cell? ⟨gb257, 1, none⟩ = some (.int .i64 a0_1) := (kCC BK257.out 1).trans rfl; have hcz13_2 : w11.cell? ⟨gb257, 2, none⟩ = some (.bool a0_2) := (kCC BK257.out 2).trans rfl; have hcz13_3 : w11.cell? ⟨gb257, 3, none⟩ = some (.int .i64 a0_3) := (kCC BK257.out 3).trans rfl; have hcz13_4 : w11.cell? ⟨gb257, 4, none⟩ = some (.string a0_4) := (kCC BK257.out 4).trans rfl; have hcz13_5 : w11.cell? ⟨gb257, 5, none⟩ = some (.slice A0_5 l0_5.length c0_5) := (kCC BK257.out 5).trans rfl; have hfz13_0 := kFF BK257.out 0; have hfz13_1 := kFF BK257.out 1; have hfz13_2 := kFF BK257.out 2; have hfz13_3 := kFF BK257.out 3; have hfz13_4 := kFF BK257.out 4; have hfz13_5 := kFF BK257.out 5) | ((with_reducible refine gate_callee (f := 27) rfl ?_); refine goesL_ (some 11) rfl rfl Tryz.func27 (by kernel_rfl) rfl #[.agg #[.string a0_0, .int .i64 a0_1, .bool a0_2, .int .i64 a0_3, .string a0_4, .slice A0_5 l0_5.length c0_5]] rfl (by (try simp only [List.map_toArray, List.map_cons, List.map_nil]); first | done | rfl | (simp only [List.length_drop, List.length_take]; rfl)) ?_; (with_reducible refine (part_Is.calls k a0_0 a0_1 a0_2 a0_3 a0_4 _ _ l0_5 true _ ?side3 ?side1 ?side2 A5.out).mono ?_); (case side1 => repeat (first | exact (Kd.C_below HR0_5.out HB.out) | (with_reducible refine Kd.C_alloc ?_ _) | (with_reducible refine Kd.C_drewN ?_ _) | (with_reducible refine Kd.C_drew ?_))); (case side2 => exact HC0_5.out); (case side3 => exact Glob.below hG (by repeat (first | (with_reducible first | exact HB.out | apply bAA | apply bNN | apply bDD | refine bSS ?_ GE257.out | refine bSS ?_ GE258.out) | exact HB.out))); rintro e w14 ⟨rfl, hb⟩; refine ⟨_, rfl, ?_⟩; have n0_ := Azz.mk (kBB (g := gb257) (o := .cells #[.string a0_0, .int .i64 a0_1, .bool a0_2, .int .i64 a0_3, .string a0_4, .slice A0_5 l0_5.length c0_5] 44 (0, 0)) (by (with_reducible repeat first | apply kNN | apply kDD | apply kAA); exact BK257.out) hb); have n1_ := Azz.mk (kBB (g := gb258) (o := .cells #[.string (⟨#[]⟩ : ByteArray), .int .i64 0, .bool false, .int .i64 0, .string (⟨#[]⟩ : ByteArray), .slice none 0 0] 44 (0, 0)) (by (with_reducible repeat first | apply kNN | apply kDD | apply kAA); exact BK258.out) hb); have n2_ := Azz.mk (bTT (by repeat (first | (with_reducible first | exact HB.out | apply bAA | apply bNN | apply bDD | refine bSS ?_ GE257.out | refine bSS ?_ GE258.out) | exact HB.out)) hb); clear BK257; clear BK258; clear HB; have BK257 := n0_; have BK258 := n1_; have HB := n2_; clear n0_ n1_ n2_; (try clear hb); (try clear hb2); (try clear hk); (try clear hi); have hcz15_0 : w14.cell? ⟨gb257, 0, none⟩ = some (.string a0_0) := (kCC BK257.out 0).trans rfl; have hcz15_1 : w14.cell? ⟨gb257, 1, none⟩ = some (.int .i64 a0_1) := (kCC BK257.out 1).trans rfl; have hcz15_2 : w14.cell? ⟨gb257, 2, none⟩ = some (.bool a0_2) := (kCC BK257.out 2).trans rfl; have hcz15_3 : w14.cell? ⟨gb257, 3, none⟩ = some (.int .i64 a0_3) := (kCC BK257.out 3).trans rfl; have hcz15_4 : w14.cell? ⟨gb257, 4, none⟩ = some (.string a0_4) := (kCC BK257.out 4).trans rfl; have hcz15_5 : w14.cell? ⟨gb257, 5, none⟩ = some (.slice A0_5 l0_5.length c0_5) := (kCC BK257.out 5).trans rfl; have hfz15_0 := kFF BK257.out 0; have hfz15_1 := kFF BK257.out 1; have hfz15_2 := kFF BK257.out 2; have hfz15_3 := kFF BK257.out 3; have hfz15_4 := kFF BK257.out 4; have hfz15_5 := kFF BK257.out 5) | ((with_reducible refine gate_callee (f := 62) rfl ?_); refine goesL_ (some 19) rfl rfl Tryz.func62 (by kernel_rfl) rfl #[.int .u64 a1, .int .i64 8] rfl (by (try simp only [List.map_toArray, List.map_cons, List.map_nil]); first | done | rfl | (simp only [List.length_drop, List.length_take]; rfl)) ?_; (with_reducible refine (part_little.calls k a1 8 t260 _ A8.out).mono ?_); rintro e w16 ⟨rfl, hb⟩; refine ⟨_, rfl, ?_⟩; have n0_ := Azz.mk (kBB (g := gb257) (o := .cells #[.string a0_0, .int .i64 a0_1, .bool a0_2, .int .i64 a0_3, .string a0_4, .slice A0_5 l0_5.length c0_5] 44 (0, 0)) (by (with_reducible repeat first | apply kNN | apply kDD | apply kAA); exact BK257.out) hb); have n1_ := Azz.mk (kBB (g := gb258) (o := .cells #[.string (⟨#[]⟩ : ByteArray), .int .i64 0, .bool false, .int .i64 0, .string (⟨#[]⟩ : ByteArray), .slice none 0 0] 44 (0, 0)) (by (with_reducible repeat first | apply kNN | apply kDD | apply kAA); exact BK258.out) hb); have n2_ := Azz.mk (bTT (by repeat (first | (with_reducible first | exact HB.out | apply bAA | apply bNN | apply bDD | refine bSS ?_ GE257.out | refine bSS ?_ GE258.out) | exact HB.out)) hb); clear BK257; clear BK258; clear HB; have BK257 := n0_; have BK258 := n1_; have HB := n2_; clear n0_ n1_ n2_; (try (have nG_ := Azz.mk (kBB BKG_.out hb); clear BKG_; have BKG_ := nG_; clear nG_)); (try clear hb); (try clear hb2); (try clear hk); (try clear hi)) | (go_at_call 60; (refine (part_growing.calls _ _ _ _ _ _ _).mono ?_); rintro e wg ⟨rfl, hwg_, hbG_⟩; have BKG_ := Azz.mk hbG_; clear hbG_; subst hwg_) | (go_at_call 85; (refine (part_grow.calls t260 _ _ ([] : List (S61)) a0_0 a0_1 a0_2 a0_3 a0_4 A0_5 c0_5 l0_5 t261 t262 t263 t264 t265 t266 t269 _ _ ?hbx ?side1 ?side2 ?side3 ?side4 A9.out).mono ?_); (case hbx => first | exact BKG_.out | ((with_reducible repeat first | apply kNN | apply kDD | apply kAA); exact BKG_.out)); (case side1 => exact Kd.C_nil _ _); (case side2 => exact Nat.le_refl _); (case side3 => repeat (first | exact (Kd.C_below HR0_5.out HB.out) | (with_reducible refine Kd.C_alloc ?_ _) | (with_reducible refine Kd.C_drewN ?_ _) | (with_reducible refine Kd.C_drew ?_))); (case side4 => exact HC0_5.out); rintro e w17 ⟨v267, rfl, ho0, hb⟩; have n0_ := Azz.mk (Kd.R_lower ho0 (bZZ (by repeat (first | (with_reducible first | exact HB.out | apply bAA | apply bNN | apply bDD | refine bSS ?_ GE257.out | refine bSS ?_ GE258.out) | exact HB.out)))); have n1_ := Azz.mk (kBB (g := gb257) (o := .cells #[.string a0_0, .int .i64 a0_1, .bool a0_2, .int .i64 a0_3, .string a0_4, .slice A0_5 l0_5.length c0_5] 44 (0, 0)) (by (with_reducible repeat first | apply kNN | apply kDD | apply kAA); exact BK257.out) hb); have n2_ := Azz.mk (kBB (g := gb258) (o := .cells #[.string (⟨#[]⟩ : ByteArray), .int .i64 0, .bool false, .int .i64 0, .string (⟨#[]⟩ : ByteArray), .slice none 0 0] 44 (0, 0)) (by (with_reducible repeat first | apply kNN | apply kDD | apply kAA); exact BK258.out) hb); have n3_ := Azz.mk (bTT (by repeat (first | (with_reducible first | exact HB.out | apply bAA | apply bNN | apply bDD | refine bSS ?_ GE257.out | refine bSS ?_ GE258.out) | exact HB.out)) hb); clear BK257; clear BK258; clear HB; have HO268 := n0_; have BK257 := n1_; have BK258 := n2_; have HB := n3_; clear n0_ n1_ n2_ n3_; (try clear hb); (try clear hb2); (try clear hk); (try clear hi); (try clear ho0); have hcz18_0 : w17.cell? ⟨gb258, 0, none⟩ = some (.string (⟨#[]⟩ : ByteArray)) := (kCC BK258.out 0).trans rfl; have hcz18_1 : w17.cell? ⟨gb258, 1, none⟩ = some (.int .i64 0) := (kCC BK258.out 1).trans rfl; have hcz18_2 : w17.cell? ⟨gb258, 2, none⟩ = some (.bool false) := (kCC BK258.out 2).trans rfl; have hcz18_3 : w17.cell? ⟨gb258, 3, none⟩ = some (.int .i64 0) := (kCC BK258.out 3).trans rfl; have hcz18_4 : w17.cell? ⟨gb258, 4, none⟩ = some (.string (⟨#[]⟩ : ByteArray)) := (kCC BK258.out 4).trans rfl; have hcz18_5 : w17.cell? ⟨gb258, 5, none⟩ = some (.slice none 0 0) := (kCC BK258.out 5).trans rfl; have hfz18_0 := kFF BK258.out 0; have hfz18_1 := kFF BK258.out 1; have hfz18_2 := kFF BK258.out 2; have hfz18_3 := kFF BK258.out 3; have hfz18_4 := kFF BK258.out 4; have hfz18_5 := kFF BK258.out 5; obtain ⟨Ao19, co19, eo19⟩ := Kd.R_slice HO268.out; subst eo19) | ((with_reducible refine gate_store (t := 44) (p := 8) rfl ?_); refine store_event (t := 44) (p := 8) (v := ?vo_w20) (w1 := ((((((w17.setCell ⟨gb258, 0, none⟩ (.string t261)).setCell ⟨gb258, 1, none⟩ (.int .i64 t262)).setCell ⟨gb258, 2, none⟩ (.bool t263)).setCell ⟨gb258, 3, none⟩ (.int .i64 t264)).setCell ⟨gb258, 4, none⟩ (.string t265)).setCell ⟨gb258, 5, none⟩ (.slice Ao19 t266.length co19))) ?hg ?ho ?hn ?hr ?_; (case ho => rfl); (case hg => rfl); (case hn => rfl); (case hr => first | (go_simp; done) | (go_simp; rfl)); intro w20 hw; have n0_ : Azz (Kd.R k61 61 w20 w.heap.size (fun _ => True) (.slice Ao19 t266.length co19) t266) := ⟨(by rw [hw]; exact (by (with_reducible repeat (first | apply Kd.R_alloc | apply Kd.R_drewN | apply Kd.R_drew)); exact Kd.R_mono (Kd.R_far (p := ⟨gb258, 5, none⟩) (Kd.R_far (p := ⟨gb258, 4, none⟩) (Kd.R_far (p := ⟨gb258, 3, none⟩) (Kd.R_far (p := ⟨gb258, 2, none⟩) (Kd.R_far (p := ⟨gb258, 1, none⟩) (Kd.R_far (p := ⟨gb258, 0, none⟩) (Kd.R_types HO268.out BK258.out (by decide)) (fun _ hk => hk.2) (.string t261)) (fun _ hk => hk.2) (.int .i64 t262)) (fun _ hk => hk.2) (.bool t263)) (fun _ hk => hk.2) (.int .i64 t264)) (fun _ hk => hk.2) (.string t265)) (fun _ hk => hk.2) (.slice Ao19 t266.length co19)) (fun _ hk => trivial)))⟩; have n1_ : Azz (w20.heap[gb257]? = some (.cells #[.string a0_0, .int .i64 a0_1, .bool a0_2, .int .i64 a0_3, .string a0_4, .slice A0_5 l0_5.length c0_5] 44 (0, 0))) := ⟨(by rw [hw]; exact (by (with_reducible repeat first | apply kNN | apply kDD | apply kAA); refine blk_far ?_ NB257_258.out _; (with_reducible repeat first | apply kNN | apply kDD | apply kAA); refine blk_far ?_ NB257_258.out _; (with_reducible repeat first | apply kNN | apply kDD | apply kAA); refine blk_far ?_ NB257_258.out _; (with_reducible repeat first | apply kNN | apply kDD | apply kAA); refine blk_far ?_ NB257_258.out _; (with_reducible repeat first | apply kNN | apply kDD | apply kAA); refine blk_far ?_ NB257_258.out _; (with_reducible repeat first | apply kNN | apply kDD | apply kAA); refine blk_far ?_ NB257_258.out _; (with_reducible repeat first | apply kNN | apply kDD | apply kAA); exact BK257.out))⟩; have n2_ : Azz (w20.heap[gb258]? = some (.cells #[.string t261, .int .i64 t262, .bool t263, .int .i64 t264, .string t265, .slice Ao19 t266.length co19] 44 (0, 0))) := ⟨(by rw [hw]; exact (by (with_reducible repeat first | apply kNN | apply kDD | apply kAA); refine blk_put (cs := #[.string t261, .int .i64 t262, .bool t263, .int .i64 t264, .string t265, .slice none 0 0]) ?_ 5 _ rfl; (with_reducible repeat first | apply kNN | apply kDD | apply kAA); refine blk_put (cs := #[.string t261, .int .i64 t262, .bool t263, .int .i64 t264, .string (⟨#[]⟩ : ByteArray), .slice none 0 0]) ?_ 4 _ rfl; (with_reducible repeat first | apply kNN | apply kDD | apply kAA); refine blk_put (cs := #[.string t261, .int .i64 t262, .bool t263, .int .i64 0, .string (⟨#[]⟩ : ByteArray), .slice none 0 0]) ?_ 3 _ rfl; (with_reducible repeat first | apply kNN | apply kDD | apply kAA); refine blk_put (cs := #[.string t261, .int .i64 t262, .bool false, .int .i64 0, .string (⟨#[]⟩ : ByteArray), .slice none 0 0]) ?_ 2 _ rfl; (with_reducible repeat first | apply kNN | apply kDD | apply kAA); refine blk_put (cs := #[.string t261, .int .i64 0, .bool false, .int .i64 0, .string (⟨#[]⟩ : ByteArray), .slice none 0 0]) ?_ 1 _ rfl; (with_reducible repeat first | apply kNN | apply kDD | apply kAA); refine blk_put (cs := #[.string (⟨#[]⟩ : ByteArray), .int .i64 0, .bool false, .int .i64 0, .string (⟨#[]⟩ : ByteArray), .slice none 0 0]) ?_ 0 _ rfl; (with_reducible repeat first | apply kNN | apply kDD | apply kAA); exact BK258.out))⟩; have n3_ : Azz (Below w.heap.size w w20) := ⟨(by rw [hw]; exact (by repeat (first | (with_reducible first | exact HB.out | apply bAA | apply bNN | apply bDD | refine bSS ?_ GE257.out | refine bSS ?_ GE258.out) | exact HB.out)))⟩; clear hw; clear HO268; clear BK257; clear BK258; clear HB; have HO268 := n0_; have BK257 := n1_; have BK258 := n2_; have HB := n3_; clear n0_ n1_ n2_ n3_))
   refine bodyPost_ret (results_ct rfl _ _ gb258 44 #[.string t261, .int .i64 t262, .bool t263, .int .i64 t264, .string t265, .slice Ao19 t266.length co19] (0, 0) _ rfl (by (with_reducible repeat first | apply kNN | apply kDD | apply kAA); exact BK258.out) Tryz.underlying44 rfl (by kernel_rfl)) rfl ?_
   exact ⟨_, by first | rfl | (simp [eNN, eSS] <;> rfl) | (simp [*, eNN, eSS] <;> rfl), by (with_reducible repeat (first | apply Kd.R_alloc | apply Kd.R_drewN | apply Kd.R_drew)); exact HO268.out, by repeat (first | (with_reducible first | exact HB.out | apply bAA | apply bNN | apply bDD | refine bSS ?_ GE257.out | refine bSS ?_ GE258.out) | exact HB.out)⟩
  ·rw [if_neg c7] at H
   have c7b0 : decide (a2 < 0) = false := decide_eq_false c7
   clear c7
   replace H := Option.bind_eq_some_iff.mp H
   obtain ⟨t270, A210, H⟩ := H
   replace H : ((part_grow.f t270 (([(⟨(a0_4.size : Int), 1, a2, a3⟩ : S61)] : List (S61))) a0_0 a0_1 a0_2 a0_3 a0_4 l0_5).bind fun bt274 => (some (bt274.1, bt274.2.1, bt274.2.2.1, bt274.2.2.2.1, bt274.2.2.2.2.1, bt274.2.2.2.2.2.1, bt274.2.2.2.2.2.2))) = some (r1, r2, r3, r4, r5, r6, r7) := H
   have A21 := Azz.mk A210
   clear A210
   obtain ⟨y271, hy271⟩ : ∃ y_ : List (S61), y_ = (([(⟨(a0_4.size : Int), 1, a2, a3⟩ : S61)] : List (S61))) := ⟨_, rfl⟩
   replace H : ((part_grow.f t270 y271 a0_0 a0_1 a0_2 a0_3 a0_4 l0_5).bind fun bt274 => (some (bt274.1, bt274.2.1, bt274.2.2.1, bt274.2.2.2.1, bt274.2.2.2.2.1, bt274.2.2.2.2.2.1, bt274.2.2.2.2.2.2))) = some (r1, r2, r3, r4, r5, r6, r7) := by first | (rw [hy271]; with_reducible exact H) | (have H2_ := (Option.bind_some _ _).symm.trans H; rw [hy271]; with_reducible exact H2_) | (have H2_ := (Option.bind_some _ _).symm.trans H; with_reducible exact H2_) | with_reducible exact H | (rw [hy271]; exact H) | exact H
   have Ny271 := Azz.mk hy271
   clear hy271
   replace H := Option.bind_eq_some_iff.mp H
   obtain ⟨⟨t274, t275, t276, t277, t278, t279, t282⟩, A220, H⟩ := H
   replace H : (some (t274, t275, t276, t277, t278, t279, t282)) = some (r1, r2, r3, r4, r5, r6, r7) := H
   have A22 := Azz.mk A220
   clear A220
   simp only [Option.some.injEq, Prod.mk.injEq] at H
   obtain ⟨rfl, rfl, rfl, rfl, rfl, rfl, rfl⟩ := H
   go_enter Tryz.func34, Tryz.ntmps34
   try go_wp2_with (first | ((with_reducible refine gate_dst (N := 4) rfl ?_); refine box_event ?hg (N := 4) ?hd (cs := #[.string a0_0, .int .i64 a0_1, .bool a0_2, .int .i64 a0_3, .string a0_4, .slice A0_5 l0_5.length c0_5]) (t := 44) ?hr ?_; (case hd => rfl); (case hg => rfl); (case hr => first | (go_simp; done) | (go_simp; rfl)); intro gb257 hg w23 hbox hb; have n0_ := Azz.mk (bTT (by repeat (first | (with_reducible first | exact HB.out | apply bAA | apply bNN | apply bDD) | exact HB.out)) hb); have n1_ := Azz.mk (hbox); have n2_ := Azz.mk ((by rw [hg]; exact (bZZ (by repeat (first | (with_reducible first | exact HB.out | apply bAA | apply bNN | apply bDD) | exact HB.out))) : w.heap.size ≤ gb257)); have n3_ := Azz.mk ((by rw [hg]; exact (bZZ (by repeat (first | (with_reducible first | exact HB.out | apply bAA | apply bNN | apply bDD) | exact HB.out))) : w.heap.size ≤ gb257)); clear HB; have HB := n0_; have BK257 := n1_; have GW257 := n2_; have GE257 := n3_; clear n0_ n1_ n2_ n3_; clear hb hbox hg) | ((with_reducible refine gate_dst (N := 8) rfl ?_); refine box_event ?hg (N := 8) ?hd (cs := #[.string (⟨#[]⟩ : ByteArray), .int .i64 0, .bool false, .int .i64 0, .string (⟨#[]⟩ : ByteArray), .slice none 0 0]) (t := 44) ?hr ?_; (case hd => rfl); (case hg => rfl); (case hr => first | (go_simp; done) | (go_simp; rfl)); intro gb258 hg w24 hbox hb; have n0_ := Azz.mk (kBB (g := gb257) (o := .cells #[.string a0_0, .int .i64 a0_1, .bool a0_2, .int .i64 a0_3, .string a0_4, .slice A0_5 l0_5.length c0_5] 44 (0, 0)) (by (with_reducible repeat first | apply kNN | apply kDD | apply kAA); exact BK257.out) hb); have n1_ := Azz.mk (bTT (by repeat (first | (with_reducible first | exact HB.out | apply bAA | apply bNN | apply bDD | refine bSS ?_ GE257.out) | exact HB.out)) hb); have n2_ := Azz.mk (hbox); have n3_ := Azz.mk ((by rw [hg]; exact (bZZ (by repeat (first | (with_reducible first | exact HB.out | apply bAA | apply bNN | apply bDD | refine bSS ?_ GE257.out) | exact HB.out))) : w.heap.size ≤ gb258)); have n4_ := Azz.mk ((by rw [hg]; exact (bZZ (by repeat (first | (with_reducible first | exact HB.out | apply bAA | apply bNN | apply bDD | refine bSS ?_ GE257.out) | exact HB.out))) : w.heap.size ≤ gb258)); have n5_ := Azz.mk ((by rw [hg]; exact Nat.ne_of_lt (blk_lt (g := gb257) (o := .cells #[.string a0_0, .int .i64 a0_1, .bool a0_2, .int .i64 a0_3, .string a0_4, .slice A0_5 l0_5.length c0_5] 44 (0, 0)) (by (with_reducible repeat first | apply kNN | apply kDD | apply kAA); exact BK257.out)) : gb257 ≠ gb258)); have n6_ := Azz.mk ((by rw [hg]; exact Nat.ne_of_gt (blk_lt (g := gb257) (o := .cells #[.string a0_0, .int .i64 a0_1, .bool a0_2, .int .i64 a0_3, .string a0_4, .slice A0_5 l0_5.length c0_5] 44 (0, 0)) (by (with_reducible repeat first | apply kNN | apply kDD | apply kAA); exact BK257.out)) : gb258 ≠ gb257)); clear BK257; clear HB; have BK257 := n0_; have HB := n1_; have BK258 := n2_; have GW258 := n3_; have GE258 := n4_; have NB257_258 := n5_; have NB258_257 := n6_; clear n0_ n1_ n2_ n3_ n4_ n5_ n6_; clear hb hbox hg; have hnb25 := NB257_258.out; have hnc25 := NB258_257.out; have hcz26_0 : w24.cell? ⟨gb257, 0, none⟩ = some (.string a0_0) := (kCC BK257.out 0).trans rfl; have hcz26_1 : w24.cell? ⟨gb257, 1, none⟩ = some (.int .i64 a0_1) := (kCC BK257.out 1).trans rfl; have hcz26_2 : w24.cell? ⟨gb257, 2, none⟩ = some (.bool a0_2) := (kCC BK257.out 2).trans rfl; have hcz26_3 : w24.cell? ⟨gb257, 3, none⟩ = some (.int .i64 a0_3) := (kCC BK257.out 3).trans rfl; have hcz26_4 : w24.cell? ⟨gb257, 4, none⟩ = some (.string a0_4) := (kCC BK257.out 4).trans rfl; have hcz26_5 : w24.cell? ⟨gb257, 5, none⟩ = some (.slice A0_5 l0_5.length c0_5) := (kCC BK257.out 5).trans rfl; have hfz26_0 := kFF BK257.out 0; have hfz26_1 := kFF BK257.out 1; have hfz26_2 := kFF BK257.out 2; have hfz26_3 := kFF BK257.out 3; have hfz26_4 := kFF BK257.out 4; have hfz26_5 := kFF BK257.out 5) | ((with_reducible refine gate_callee (f := 27) rfl ?_); refine goesL_ (some 11) rfl rfl Tryz.func27 (by kernel_rfl) rfl #[.agg #[.string a0_0, .int .i64 a0_1, .bool a0_2, .int .i64 a0_3, .string a0_4, .slice A0_5 l0_5.length c0_5]] rfl (by (try simp only [List.map_toArray, List.map_cons, List.map_nil]); first | done | rfl | (simp only [List.length_drop, List.length_take]; rfl)) ?_; (with_reducible refine (part_Is.calls k a0_0 a0_1 a0_2 a0_3 a0_4 _ _ l0_5 true _ ?side3 ?side1 ?side2 A5.out).mono ?_); (case side1 => repeat (first | exact (Kd.C_below HR0_5.out HB.out) | (with_reducible refine Kd.C_alloc ?_ _) | (with_reducible refine Kd.C_drewN ?_ _) | (with_reducible refine Kd.C_drew ?_))); (case side2 => exact HC0_5.out); (case side3 => exact Glob.below hG (by repeat (first | (with_reducible first | exact HB.out | apply bAA | apply bNN | apply bDD | refine bSS ?_ GE257.out | refine bSS ?_ GE258.out) | exact HB.out))); rintro e w27 ⟨rfl, hb⟩; refine ⟨_, rfl, ?_⟩; have n0_ := Azz.mk (kBB (g := gb257) (o := .cells #[.string a0_0, .int .i64 a0_1, .bool a0_2, .int .i64 a0_3, .string a0_4, .slice A0_5 l0_5.length c0_5] 44 (0, 0)) (by (with_reducible repeat first | apply kNN | apply kDD | apply kAA); exact BK257.out) hb); have n1_ := Azz.mk (kBB (g := gb258) (o := .cells #[.string (⟨#[]⟩ : ByteArray), .int .i64 0, .bool false, .int .i64 0, .string (⟨#[]⟩ : ByteArray), .slice none 0 0] 44 (0, 0)) (by (with_reducible repeat first | apply kNN | apply kDD | apply kAA); exact BK258.out) hb); have n2_ := Azz.mk (bTT (by repeat (first | (with_reducible first | exact HB.out | apply bAA | apply bNN | apply bDD | refine bSS ?_ GE257.out | refine bSS ?_ GE258.out) | exact HB.out)) hb); clear BK257; clear BK258; clear HB; have BK257 := n0_; have BK258 := n1_; have HB := n2_; clear n0_ n1_ n2_; (try clear hb); (try clear hb2); (try clear hk); (try clear hi)))
   have n0_ := Azz.mk (kDD BK257.out)
   have n1_ := Azz.mk (kDD BK258.out)
   have n2_ := Azz.mk (bDD HB.out)
   clear BK257
   clear BK258
   clear HB
   have BK257 := n0_
   have BK258 := n1_
   have HB := n2_
   clear n0_ n1_ n2_
   refine start_ (n := 15) (S := fun w' => True) (ds := []) #[false, false, false, false, false, false, false, false, false, false, false, false, false, false, false] (by kernel_rfl) rfl rfl trivial (fun hHeld => ?_); refine with_tabW part_Quad.tab5 part_Quad.bits5 (fun HT_ HW_ => ?_)
   generalize w27.drew = w28 at BK257 BK258 HB hHeld ⊢
   refine pure_ (i := 3) (N := some 26) (v := ?_) (a' := ?_) #[false, false, false, true, false, false, false, false, false, false, false, false, false, false, false] rfl rfl (any_of HT_.out (by kernel_rfl)) (fun _ _ _ h => h) (Or.inl ⟨by rfl, ?_⟩) ?_ ?_
   rotate_left
   ·intro w'
    go_simp
    with_reducible rfl
   rotate_left
   ·simp only [Act.put, List.setIfInBounds_toArray, List.set_cons_zero, List.set_cons_succ, i64_w, i32_w]
    rfl
   refine pure_ (i := 6) (N := some 29) (v := ?_) (a' := ?_) #[false, false, false, true, false, false, true, false, false, false, false, false, false, false, false] rfl rfl (any_of HT_.out (by kernel_rfl)) (fun _ _ _ h => h) (Or.inl ⟨by rfl, ?_⟩) ?_ ?_
   rotate_left
   ·intro w'
    go_simp
    with_reducible rfl
   rotate_left
   ·simp only [Act.put, List.setIfInBounds_toArray, List.set_cons_zero, List.set_cons_succ, i64_w, i32_w]
    rfl
   refine pure_ (i := 7) (N := some 30) (v := ?_) (a' := ?_) #[false, false, false, true, false, false, true, true, false, false, false, false, false, false, false] rfl rfl (any_of HT_.out (by kernel_rfl)) (fun _ _ _ h => h) (Or.inl ⟨by rfl, ?_⟩) ?_ ?_
   rotate_left
   ·intro w'
    go_simp
    with_reducible rfl
   rotate_left
   ·simp only [Act.put, List.setIfInBounds_toArray, List.set_cons_zero, List.set_cons_succ, i64_w, i32_w]
    rfl
   refine inv_at [0, 1, 2, 4, 5, 8, 9, 10, 11, 12, 13, 14] (fun a0_ b a w' => ∃ (gB_ : Nat) (v272 : Value) (v280 : Value) (m10_ : Value) (m11_ : Value), a = putSel a0_ b [(0, 23, .agg #[.string a0_0, .int .i64 a0_1, .bool a0_2, .int .i64 a0_3, .string a0_4, .slice A0_5 l0_5.length c0_5]), (1, 24, .func (.func 85) #[] #[.pointer (some ⟨gB_, 0, none⟩)]), (2, 25, .string t270), (4, 27, .string a0_4), (5, 28, .int .i64 (a0_4.size : Int)), (8, 31, .agg #[.int .i64 (a0_4.size : Int), .int .i64 1, .int .i64 a2, .int .i64 a3]), (9, 32, v272), (10, 33, m10_), (11, 34, m11_), (12, 35, .int .i64 t282), (14, 9, .int .i64 t282)] ∧ (b 1 = true → b 10 = false → w'.heap[gB_]? = some (.cells #[.string a0_0, .int .i64 a0_1, .bool a0_2, .int .i64 a0_3, .string a0_4, .slice A0_5 l0_5.length c0_5] 44 (0, 0))) ∧ (w'.heap[gb257]? = some (.cells #[.string a0_0, .int .i64 a0_1, .bool a0_2, .int .i64 a0_3, .string a0_4, .slice A0_5 l0_5.length c0_5] 44 (0, 0))) ∧ (b 13 = false → w'.heap[gb258]? = some (.cells #[.string (⟨#[]⟩ : ByteArray), .int .i64 0, .bool false, .int .i64 0, .string (⟨#[]⟩ : ByteArray), .slice none 0 0] 44 (0, 0))) ∧ (Below w.heap.size w w') ∧ (b 9 = true → Kd.R k61 61 w' w.heap.size (fun _ => True) v272 y271) ∧ (b 10 = true → Kd.R k61 61 w' w.heap.size (fun _ => True) v280 t279) ∧ (b 13 = true → w'.heap[gb258]? = some (.cells #[.string t274, .int .i64 t275, .bool t276, .int .i64 t277, .string t278, v280] 44 (0, 0))) ∧ (b 10 = true → (m10_ : Value) = .tuple #[.agg #[.string t274, .int .i64 t275, .bool t276, .int .i64 t277, .string t278, v280], .int .i64 t282]) ∧ (b 11 = true → (m11_ : Value) = .agg #[.string t274, .int .i64 t275, .bool t276, .int .i64 t277, .string t278, v280])) HT_.out HW_.out (by kernel_rfl) (by kernel_rfl) ?_ ?_ ?_
   ·exact ⟨0, .bool false, .bool false, .bool false, .bool false, by simp only [putSel, Bool.false_eq_true, if_false], fun h_ => absurd h_ (by decide), BK257.out, fun _ => BK258.out, HB.out, fun h_ => absurd h_ (by decide), fun h_ => absurd h_ (by decide), fun h_ => absurd h_ (by decide), fun h_ => absurd h_ (by decide), fun h_ => absurd h_ (by decide)⟩
   ·skip
    clear BK257 BK258 HB
    refine steps_cons ?_ ?_
    ·rintro b a w' ⟨gB_, v272, v280, m10_, m11_, ha, Q_BX_, Q_BK257, Q_BK258, Q_HB, Q_HO273, Q_HO281, Q_BK258_e13, Q_X10_, Q_X11_⟩ hb_ hon hoff
     refine ⟨_, rfl, fun K hK => ?_⟩
     have e4 : a.tmps[4]? = some (.pointer (some ⟨gb257, 0, none⟩)) := by rw [ha]; exact (putSel_off rfl).trans rfl
     replace ha := Azz.mk ha
     have BK257 := Azz.mk Q_BK257
     have BK258 := Azz.mk (Q_BK258 (hoff 13 (by kernel_rfl)))
     have HB := Azz.mk Q_HB
     have hc0_ : w'.cell? ⟨gb257, 0, none⟩ = some (.string a0_0) := (kCC BK257.out 0).trans rfl
     have hc1_ : w'.cell? ⟨gb257, 1, none⟩ = some (.int .i64 a0_1) := (kCC BK257.out 1).trans rfl
     have hc2_ : w'.cell? ⟨gb257, 2, none⟩ = some (.bool a0_2) := (kCC BK257.out 2).trans rfl
     have hc3_ : w'.cell? ⟨gb257, 3, none⟩ = some (.int .i64 a0_3) := (kCC BK257.out 3).trans rfl
     have hc4_ : w'.cell? ⟨gb257, 4, none⟩ = some (.string a0_4) := (kCC BK257.out 4).trans rfl
     have hc5_ : w'.cell? ⟨gb257, 5, none⟩ = some (.slice A0_5 l0_5.length c0_5) := (kCC BK257.out 5).trans rfl
     refine value_ (w1 := w') (v := .agg #[.string a0_0, .int .i64 a0_1, .bool a0_2, .int .i64 a0_3, .string a0_4, .slice A0_5 l0_5.length c0_5]) (by rfl) rfl ?_ ?_
     ·go_simp
      (try simp only [i64_w])
      first | rfl | (exact Int.tmod_eq_emod_of_nonneg (Int.natCast_nonneg _)) | skip
     refine hK.out _ _ ⟨gB_, v272, v280, m10_, m11_, (by rw [ha.out]; exact putSel_upk 0 hb_ rfl rfl rfl), Q_BX_, Q_BK257, Q_BK258, Q_HB, Q_HO273, fun h0_ => absurd ((hoff 10 (by kernel_rfl)).symm.trans h0_) (by decide), fun h0_ => absurd ((hoff 13 (by kernel_rfl)).symm.trans h0_) (by decide), fun h0_ => absurd ((hoff 10 (by kernel_rfl)).symm.trans h0_) (by decide), fun h0_ => absurd ((hoff 11 (by kernel_rfl)).symm.trans h0_) (by decide)⟩
    refine steps_cons ?_ ?_
    ·rintro b a w' ⟨gB_, v272, v280, m10_, m11_, ha, Q_BX_, Q_BK257, Q_BK258, Q_HB, Q_HO273, Q_HO281, Q_BK258_e13, Q_X10_, Q_X11_⟩ hb_ hon hoff
     refine ⟨_, rfl, fun K hK => ?_⟩
     have e23 : a.tmps[23]? = some (.agg #[.string a0_0, .int .i64 a0_1, .bool a0_2, .int .i64 a0_3, .string a0_4, .slice A0_5 l0_5.length c0_5]) := by rw [ha]; exact putSel_on (e := (0, 23, .agg #[.string a0_0, .int .i64 a0_1, .bool a0_2, .int .i64 a0_3, .string a0_4, .slice A0_5 l0_5.length c0_5])) 0 rfl rfl (hon 0 (by kernel_rfl)) rfl
     replace ha := Azz.mk ha
     have BK257 := Azz.mk Q_BK257
     have BK258 := Azz.mk (Q_BK258 (hoff 13 (by kernel_rfl)))
     have HB := Azz.mk Q_HB
     refine goes_ Tryz.func60 (by kernel_rfl) rfl #[.agg #[.string a0_0, .int .i64 a0_1, .bool a0_2, .int .i64 a0_3, .string a0_4, .slice A0_5 l0_5.length c0_5]] (by rfl) rfl rfl (by first | (simp only [List.map_toArray, List.map_cons, List.map_nil, Act.eval, Array.getD_eq_getD_getElem?, Option.getD_some, e23]; done) | (simp only [List.map_toArray, List.map_cons, List.map_nil, Act.eval, Array.getD_eq_getD_getElem?, Option.getD_some, e23]; rfl)) ?_
     refine (part_growing.calls _ _ _ _ _ _ _).mono ?_
     rintro e w8_ ⟨rfl, hw8_, hbx_⟩
     have hb : Below w'.heap.size w' w8_ := by rw [hw8_]; exact bAA (Below.refl _ _) _
     clear hw8_
     refine ⟨_, rfl, ?_⟩
     have n0_ := Azz.mk (kBB (g := gb257) (o := .cells #[.string a0_0, .int .i64 a0_1, .bool a0_2, .int .i64 a0_3, .string a0_4, .slice A0_5 l0_5.length c0_5] 44 (0, 0)) (by (with_reducible repeat first | apply kNN | apply kDD | apply kAA); exact BK257.out) hb)
     have n1_ := Azz.mk (kBB (g := gb258) (o := .cells #[.string (⟨#[]⟩ : ByteArray), .int .i64 0, .bool false, .int .i64 0, .string (⟨#[]⟩ : ByteArray), .slice none 0 0] 44 (0, 0)) (by (with_reducible repeat first | apply kNN | apply kDD | apply kAA); exact BK258.out) hb)
     have n2_ := Azz.mk (bTT (by repeat (first | (with_reducible first | exact HB.out | apply bAA | apply bNN | apply bDD | refine bSS ?_ GE257.out | refine bSS ?_ GE258.out) | exact HB.out)) hb)
     have z_HO273 := fun (h0_ : b 9 = true) => (show Kd.R k61 61 w8_ w.heap.size (fun _ => True) v272 y271 from by first | exact (Kd.R_below (by (with_reducible repeat (first | apply Kd.R_alloc | apply Kd.R_drewN | apply Kd.R_drew)); exact (Q_HO273 h0_)) hb) | exact Kd.R_mono (Kd.R_below (by (with_reducible repeat (first | apply Kd.R_alloc | apply Kd.R_drewN | apply Kd.R_drew)); exact (Q_HO273 h0_)) hb) (fun _ h_ => by first | trivial | exact h_ | exact h_.1))
     clear BK257
     clear BK258
     clear HB
     have BK257 := n0_
     have BK258 := n1_
     have HB := n2_
     clear n0_ n1_ n2_
     (try clear hb)
     (try clear hb2)
     (try clear hk)
     (try clear hi)
     refine hK.out _ _ ⟨w'.heap.size, v272, v280, m10_, m11_, (by rw [ha.out]; exact putSel_upk 1 hb_ rfl rfl rfl), fun _ _ => hbx_, (by (with_reducible repeat first | apply kNN | apply kDD | apply kAA); exact BK257.out), fun _ => (by (with_reducible repeat first | apply kNN | apply kDD | apply kAA); exact BK258.out), (by repeat (first | (with_reducible first | exact HB.out | apply bAA | apply bNN | apply bDD | refine bSS ?_ GE257.out | refine bSS ?_ GE258.out) | exact HB.out)), z_HO273, fun h0_ => absurd ((hoff 10 (by kernel_rfl)).symm.trans h0_) (by decide), fun h0_ => absurd ((hoff 13 (by kernel_rfl)).symm.trans h0_) (by decide), fun h0_ => absurd ((hoff 10 (by kernel_rfl)).symm.trans h0_) (by decide), fun h0_ => absurd ((hoff 11 (by kernel_rfl)).symm.trans h0_) (by decide)⟩
    refine steps_cons ?_ ?_
    ·rintro b a w' ⟨gB_, v272, v280, m10_, m11_, ha, Q_BX_, Q_BK257, Q_BK258, Q_HB, Q_HO273, Q_HO281, Q_BK258_e13, Q_X10_, Q_X11_⟩ hb_ hon hoff
     refine ⟨_, rfl, fun K hK => ?_⟩
     replace ha := Azz.mk ha
     have BK257 := Azz.mk Q_BK257
     have BK258 := Azz.mk (Q_BK258 (hoff 13 (by kernel_rfl)))
     have HB := Azz.mk Q_HB
     refine goes_ Tryz.func62 (by kernel_rfl) rfl #[.int .u64 0, .int .i64 8] (by rfl) rfl rfl (by first | (simp only [List.map_toArray, List.map_cons, List.map_nil, Act.eval, Array.getD_eq_getD_getElem?, Option.getD_some]; done) | (simp only [List.map_toArray, List.map_cons, List.map_nil, Act.eval, Array.getD_eq_getD_getElem?, Option.getD_some]; rfl)) ?_
     with_reducible refine (part_little.calls k 0 8 t270 _ A21.out).mono ?_
     rintro e w29 ⟨rfl, hb⟩
     refine ⟨_, rfl, ?_⟩
     have z_BX := fun (h0_ : b 1 = true) (h1_ : b 10 = false) => (show w29.heap[gB_]? = some (.cells #[.string a0_0, .int .i64 a0_1, .bool a0_2, .int .i64 a0_3, .string a0_4, .slice A0_5 l0_5.length c0_5] 44 (0, 0)) from kBB (g := gB_) (o := .cells #[.string a0_0, .int .i64 a0_1, .bool a0_2, .int .i64 a0_3, .string a0_4, .slice A0_5 l0_5.length c0_5] 44 (0, 0)) (Q_BX_ h0_ h1_) hb)
     have n0_ := Azz.mk (kBB (g := gb257) (o := .cells #[.string a0_0, .int .i64 a0_1, .bool a0_2, .int .i64 a0_3, .string a0_4, .slice A0_5 l0_5.length c0_5] 44 (0, 0)) (by (with_reducible repeat first | apply kNN | apply kDD | apply kAA); exact BK257.out) hb)
     have n1_ := Azz.mk (kBB (g := gb258) (o := .cells #[.string (⟨#[]⟩ : ByteArray), .int .i64 0, .bool false, .int .i64 0, .string (⟨#[]⟩ : ByteArray), .slice none 0 0] 44 (0, 0)) (by (with_reducible repeat first | apply kNN | apply kDD | apply kAA); exact BK258.out) hb)
     have n2_ := Azz.mk (bTT (by repeat (first | (with_reducible first | exact HB.out | apply bAA | apply bNN | apply bDD | refine bSS ?_ GE257.out | refine bSS ?_ GE258.out) | exact HB.out)) hb)
     have z_HO273 := fun (h0_ : b 9 = true) => (show Kd.R k61 61 w29 w.heap.size (fun _ => True) v272 y271 from by first | exact (Kd.R_below (by (with_reducible repeat (first | apply Kd.R_alloc | apply Kd.R_drewN | apply Kd.R_drew)); exact (Q_HO273 h0_)) hb) | exact Kd.R_mono (Kd.R_below (by (with_reducible repeat (first | apply Kd.R_alloc | apply Kd.R_drewN | apply Kd.R_drew)); exact (Q_HO273 h0_)) hb) (fun _ h_ => by first | trivial | exact h_ | exact h_.1))
     clear BK257
     clear BK258
     clear HB
     have BK257 := n0_
     have BK258 := n1_
     have HB := n2_
     clear n0_ n1_ n2_
     (try clear hb)
     (try clear hb2)
     (try clear hk)
     (try clear hi)
     refine hK.out _ _ ⟨gB_, v272, v280, m10_, m11_, (by rw [ha.out]; exact putSel_upk 2 hb_ rfl rfl rfl), z_BX, (by (with_reducible repeat first | apply kNN | apply kDD | apply kAA); exact BK257.out), fun _ => (by (with_reducible repeat first | apply kNN | apply kDD | apply kAA); exact BK258.out), (by repeat (first | (with_reducible first | exact HB.out | apply bAA | apply bNN | apply bDD | refine bSS ?_ GE257.out | refine bSS ?_ GE258.out) | exact HB.out)), z_HO273, fun h0_ => absurd ((hoff 10 (by kernel_rfl)).symm.trans h0_) (by decide), fun h0_ => absurd ((hoff 13 (by kernel_rfl)).symm.trans h0_) (by decide), fun h0_ => absurd ((hoff 10 (by kernel_rfl)).symm.trans h0_) (by decide), fun h0_ => absurd ((hoff 11 (by kernel_rfl)).symm.trans h0_) (by decide)⟩
    refine steps_cons ?_ ?_
    ·rintro b a w' ⟨gB_, v272, v280, m10_, m11_, ha, Q_BX_, Q_BK257, Q_BK258, Q_HB, Q_HO273, Q_HO281, Q_BK258_e13, Q_X10_, Q_X11_⟩ hb_ hon hoff
     refine ⟨_, rfl, fun K hK => ?_⟩
     have e26 : a.tmps[26]? = some (.pointer (some ⟨gb257, 4, none⟩)) := by rw [ha]; exact (putSel_off rfl).trans rfl
     replace ha := Azz.mk ha
     have BK257 := Azz.mk Q_BK257
     have BK258 := Azz.mk (Q_BK258 (hoff 13 (by kernel_rfl)))
     have HB := Azz.mk Q_HB
     have hc0_ : w'.cell? ⟨gb257, 0, none⟩ = some (.string a0_0) := (kCC BK257.out 0).trans rfl
     have hc1_ : w'.cell? ⟨gb257, 1, none⟩ = some (.int .i64 a0_1) := (kCC BK257.out 1).trans rfl
     have hc2_ : w'.cell? ⟨gb257, 2, none⟩ = some (.bool a0_2) := (kCC BK257.out 2).trans rfl
     have hc3_ : w'.cell? ⟨gb257, 3, none⟩ = some (.int .i64 a0_3) := (kCC BK257.out 3).trans rfl
     have hc4_ : w'.cell? ⟨gb257, 4, none⟩ = some (.string a0_4) := (kCC BK257.out 4).trans rfl
     have hc5_ : w'.cell? ⟨gb257, 5, none⟩ = some (.slice A0_5 l0_5.length c0_5) := (kCC BK257.out 5).trans rfl
     refine value_ (w1 := w') (v := .string a0_4) (by rfl) rfl ?_ ?_
     ·go_simp
      (try simp only [i64_w])
      first | rfl | (exact Int.tmod_eq_emod_of_nonneg (Int.natCast_nonneg _)) | skip
     refine hK.out _ _ ⟨gB_, v272, v280, m10_, m11_, (by rw [ha.out]; exact putSel_upk 3 hb_ rfl rfl rfl), Q_BX_, Q_BK257, Q_BK258, Q_HB, fun h0_ => absurd ((hoff 9 (by kernel_rfl)).symm.trans h0_) (by decide), fun h0_ => absurd ((hoff 10 (by kernel_rfl)).symm.trans h0_) (by decide), fun h0_ => absurd ((hoff 13 (by kernel_rfl)).symm.trans h0_) (by decide), fun h0_ => absurd ((hoff 10 (by kernel_rfl)).symm.trans h0_) (by decide), fun h0_ => absurd ((hoff 11 (by kernel_rfl)).symm.trans h0_) (by decide)⟩
    refine steps_cons ?_ ?_
    ·rintro b a w' ⟨gB_, v272, v280, m10_, m11_, ha, Q_BX_, Q_BK257, Q_BK258, Q_HB, Q_HO273, Q_HO281, Q_BK258_e13, Q_X10_, Q_X11_⟩ hb_ hon hoff
     refine ⟨_, rfl, fun K hK => ?_⟩
     have e27 : a.tmps[27]? = some (.string a0_4) := by rw [ha]; exact putSel_on (e := (4, 27, .string a0_4)) 3 rfl rfl (hon 4 (by kernel_rfl)) rfl
     replace ha := Azz.mk ha
     have BK257 := Azz.mk Q_BK257
     have BK258 := Azz.mk (Q_BK258 (hoff 13 (by kernel_rfl)))
     have HB := Azz.mk Q_HB
     refine value_ (w1 := w') (v := .int .i64 (a0_4.size : Int)) (by rfl) rfl ?_ ?_
     ·go_simp
      (try simp only [i64_w])
      first | rfl | (exact Int.tmod_eq_emod_of_nonneg (Int.natCast_nonneg _)) | skip
     refine hK.out _ _ ⟨gB_, v272, v280, m10_, m11_, (by rw [ha.out]; exact putSel_upk 4 hb_ rfl rfl rfl), Q_BX_, Q_BK257, Q_BK258, Q_HB, fun h0_ => absurd ((hoff 9 (by kernel_rfl)).symm.trans h0_) (by decide), fun h0_ => absurd ((hoff 10 (by kernel_rfl)).symm.trans h0_) (by decide), fun h0_ => absurd ((hoff 13 (by kernel_rfl)).symm.trans h0_) (by decide), fun h0_ => absurd ((hoff 10 (by kernel_rfl)).symm.trans h0_) (by decide), fun h0_ => absurd ((hoff 11 (by kernel_rfl)).symm.trans h0_) (by decide)⟩
    refine steps_cons ?_ ?_
    ·rintro b a w' ⟨gB_, v272, v280, m10_, m11_, ha, Q_BX_, Q_BK257, Q_BK258, Q_HB, Q_HO273, Q_HO281, Q_BK258_e13, Q_X10_, Q_X11_⟩ hb_ hon hoff
     refine ⟨_, rfl, fun K hK => ?_⟩
     have e28 : a.tmps[28]? = some (.int .i64 (a0_4.size : Int)) := by rw [ha]; exact putSel_on (e := (5, 28, .int .i64 (a0_4.size : Int))) 4 rfl rfl (hon 5 (by kernel_rfl)) rfl
     have e29 : a.tmps[29]? = some (.int .i64 a2) := by rw [ha]; exact (putSel_off rfl).trans rfl
     have e30 : a.tmps[30]? = some (.int .i64 a3) := by rw [ha]; exact (putSel_off rfl).trans rfl
     replace ha := Azz.mk ha
     have BK257 := Azz.mk Q_BK257
     have BK258 := Azz.mk (Q_BK258 (hoff 13 (by kernel_rfl)))
     have HB := Azz.mk Q_HB
     refine value_ (w1 := w') (v := .agg #[.int .i64 (a0_4.size : Int), .int .i64 1, .int .i64 a2, .int .i64 a3]) (by rfl) rfl ?_ ?_
     ·go_simp
      (try simp only [i64_w])
      first | rfl | (exact Int.tmod_eq_emod_of_nonneg (Int.natCast_nonneg _)) | skip
     refine hK.out _ _ ⟨gB_, v272, v280, m10_, m11_, (by rw [ha.out]; exact putSel_upk 5 hb_ rfl rfl rfl), Q_BX_, Q_BK257, Q_BK258, Q_HB, fun h0_ => absurd ((hoff 9 (by kernel_rfl)).symm.trans h0_) (by decide), fun h0_ => absurd ((hoff 10 (by kernel_rfl)).symm.trans h0_) (by decide), fun h0_ => absurd ((hoff 13 (by kernel_rfl)).symm.trans h0_) (by decide), fun h0_ => absurd ((hoff 10 (by kernel_rfl)).symm.trans h0_) (by decide), fun h0_ => absurd ((hoff 11 (by kernel_rfl)).symm.trans h0_) (by decide)⟩
    refine steps_cons ?_ ?_
    ·rintro b a w' ⟨gB_, v272, v280, m10_, m11_, ha, Q_BX_, Q_BK257, Q_BK258, Q_HB, Q_HO273, Q_HO281, Q_BK258_e13, Q_X10_, Q_X11_⟩ hb_ hon hoff
     refine ⟨_, rfl, fun K hK => ?_⟩
     have e31 : a.tmps[31]? = some (.agg #[.int .i64 (a0_4.size : Int), .int .i64 1, .int .i64 a2, .int .i64 a3]) := by rw [ha]; exact putSel_on (e := (8, 31, .agg #[.int .i64 (a0_4.size : Int), .int .i64 1, .int .i64 a2, .int .i64 a3])) 5 rfl rfl (hon 8 (by kernel_rfl)) rfl
     replace ha := Azz.mk ha
     have BK257 := Azz.mk Q_BK257
     have BK258 := Azz.mk (Q_BK258 (hoff 13 (by kernel_rfl)))
     have HB := Azz.mk Q_HB
     refine Kd.R_lit_step k61 _ 61 ?hg (N := 32) ?hd (xs := ([(⟨(a0_4.size : Int), 1, a2, a3⟩ : S61)] : List (S61))) (inner := [.int .i64 (a0_4.size : Int), .int .i64 1, .int .i64 a2, .int .i64 a3]) (ok := fun _ => True) (okp := fun _ => True) ?hr ?hp (fun _ hk => hk) trivial (Below.refl _ _) (Nat.le_refl _) (by simp) ?_; (case hd => rfl); (case hg => rfl); (case hr => first | (go_simp; done) | (go_simp; rfl)); (case hp => exact (Reps.c4 (show Kd.M k61 _ _ _ (⟨(a0_4.size : Int), 1, a2, a3⟩ : S61) [.int .i64 (a0_4.size : Int), .int .i64 1, .int .i64 a2, .int .i64 a3] from (k61_mkM _ _ _ (⟨(a0_4.size : Int), 1, a2, a3⟩ : S61) )) (Reps.none _ _)))
     intro v272 w29 ho30 hb hg_ hnew_
     have z_BX := fun h0_ h1_ => kBB (Q_BX_ h0_ h1_) hb
     clear hg_ hnew_
     (first | rw [← Ny271.out] at ho30 | (simp only [Int.reduceToNat] at ho30; rw [← Ny271.out] at ho30))
     have n0_ := Azz.mk (Kd.R_lower ho30 (bZZ (by repeat (first | (with_reducible first | exact HB.out | apply bAA | apply bNN | apply bDD | refine bSS ?_ GE257.out | refine bSS ?_ GE258.out) | exact HB.out))))
     have n1_ := Azz.mk (kBB (g := gb257) (o := .cells #[.string a0_0, .int .i64 a0_1, .bool a0_2, .int .i64 a0_3, .string a0_4, .slice A0_5 l0_5.length c0_5] 44 (0, 0)) (by (with_reducible repeat first | apply kNN | apply kDD | apply kAA); exact BK257.out) hb)
     have n2_ := Azz.mk (kBB (g := gb258) (o := .cells #[.string (⟨#[]⟩ : ByteArray), .int .i64 0, .bool false, .int .i64 0, .string (⟨#[]⟩ : ByteArray), .slice none 0 0] 44 (0, 0)) (by (with_reducible repeat first | apply kNN | apply kDD | apply kAA); exact BK258.out) hb)
     have n3_ := Azz.mk (bTT (by repeat (first | (with_reducible first | exact HB.out | apply bAA | apply bNN | apply bDD | refine bSS ?_ GE257.out | refine bSS ?_ GE258.out) | exact HB.out)) hb)
     clear BK257
     clear BK258
     clear HB
     have HO273 := n0_
     have BK257 := n1_
     have BK258 := n2_
     have HB := n3_
     clear n0_ n1_ n2_ n3_
     clear hb ho30
     refine hK.out _ _ ⟨gB_, v272, v280, m10_, m11_, (by rw [ha.out]; exact putSel_upk 6 hb_ rfl rfl rfl), z_BX, (by (with_reducible repeat first | apply kNN | apply kDD | apply kAA); exact BK257.out), fun _ => (by (with_reducible repeat first | apply kNN | apply kDD | apply kAA); exact BK258.out), (by repeat (first | (with_reducible first | exact HB.out | apply bAA | apply bNN | apply bDD | refine bSS ?_ GE257.out | refine bSS ?_ GE258.out) | exact HB.out)), fun _ => (by (with_reducible repeat (first | apply Kd.R_alloc | apply Kd.R_drewN | apply Kd.R_drew)); exact HO273.out), fun h0_ => absurd ((hoff 10 (by kernel_rfl)).symm.trans h0_) (by decide), fun h0_ => absurd ((hoff 13 (by kernel_rfl)).symm.trans h0_) (by decide), fun h0_ => absurd ((hoff 10 (by kernel_rfl)).symm.trans h0_) (by decide), fun h0_ => absurd ((hoff 11 (by kernel_rfl)).symm.trans h0_) (by decide)⟩
    refine steps_cons ?_ ?_
    ·rintro b a w' ⟨gB_, v272, v280, m10_, m11_, ha, Q_BX_, Q_BK257, Q_BK258, Q_HB, Q_HO273, Q_HO281, Q_BK258_e13, Q_X10_, Q_X11_⟩ hb_ hon hoff
     refine ⟨_, rfl, fun K hK => ?_⟩
     have e25 : a.tmps[25]? = some (.string t270) := by rw [ha]; exact putSel_on (e := (2, 25, .string t270)) 2 rfl rfl (hon 2 (by kernel_rfl)) rfl
     have e32 : a.tmps[32]? = some (v272) := by rw [ha]; exact putSel_on (e := (9, 32, v272)) 6 rfl rfl (hon 9 (by kernel_rfl)) rfl
     have e24 : a.tmps[24]? = some (.func (.func 85) #[] #[.pointer (some ⟨gB_, 0, none⟩)]) := by rw [ha]; exact putSel_on (e := (1, 24, .func (.func 85) #[] #[.pointer (some ⟨gB_, 0, none⟩)])) 1 rfl rfl (hon 1 (by kernel_rfl)) rfl
     replace ha := Azz.mk ha
     have BK257 := Azz.mk Q_BK257
     have BK258 := Azz.mk (Q_BK258 (hoff 13 (by kernel_rfl)))
     have HB := Azz.mk Q_HB
     have HO273 := Azz.mk (Q_HO273 (hon 9 (by kernel_rfl)))
     obtain ⟨Ao33, co33, eo33⟩ := Kd.R_slice HO273.out
     (first | subst eo33 | (injection eo33 with f1_ f2_ f3_; have f4_ := f1_.symm; have f5_ := f3_.symm; clear f1_ f2_ f3_; subst f4_; subst f5_))
     refine part_grow.goesV (x := .tmp 24) (caps := #[.pointer (some ⟨gB_, 0, none⟩)]) Tryz.func85 (by kernel_rfl) rfl #[.string t270, .slice Ao33 y271.length co33, .pointer (some ⟨gB_, 0, none⟩)] (by simp only [Act.eval, Array.getD_eq_getD_getElem?, Option.getD_some, e24]) (by rfl) rfl rfl (by first | (simp only [List.map_toArray, List.map_cons, List.map_nil, Act.eval, Array.getD_eq_getD_getElem?, Option.getD_some, e25, e32, e24]; done) | (simp only [List.map_toArray, List.map_cons, List.map_nil, Act.eval, Array.getD_eq_getD_getElem?, Option.getD_some, e25, e32, e24]; rfl)) ?_
     with_reducible refine (part_grow.calls t270 _ _ y271 a0_0 a0_1 a0_2 a0_3 a0_4 A0_5 c0_5 l0_5 t274 t275 t276 t277 t278 t279 t282 _ gB_ (Q_BX_ (hon 1 (by kernel_rfl)) hb_) ?side1 ?side2 ?side3 ?side4 A22.out).mono ?_
     (case side1 => repeat (first | exact (Kd.R_reads' HO273.out).2.2 | (with_reducible refine Kd.C_alloc ?_ _) | (with_reducible refine Kd.C_drewN ?_ _) | (with_reducible refine Kd.C_drew ?_)))
     (case side2 => exact (Kd.R_reads' HO273.out).2.1)
     (case side3 => repeat (first | exact (Kd.C_below HR0_5.out HB.out) | (with_reducible refine Kd.C_alloc ?_ _) | (with_reducible refine Kd.C_drewN ?_ _) | (with_reducible refine Kd.C_drew ?_)))
     (case side4 => exact HC0_5.out)
     rintro e w34 ⟨v280, rfl, ho0, hb⟩
     refine ⟨_, rfl, ?_⟩
     have n0_ := Azz.mk (Kd.R_elder' (by (with_reducible repeat (first | apply Kd.R_alloc | apply Kd.R_drewN | apply Kd.R_drew)); exact HO273.out) (Kd.R_base ho0) hb)
     have n1_ := Azz.mk (Kd.R_lower (Kd.R_new' ho0 (Kd.R_lt (by (with_reducible repeat (first | apply Kd.R_alloc | apply Kd.R_drewN | apply Kd.R_drew)); exact HO273.out))) (bZZ (by repeat (first | (with_reducible first | exact HB.out | apply bAA | apply bNN | apply bDD | refine bSS ?_ GE257.out | refine bSS ?_ GE258.out) | exact HB.out))))
     have n2_ := Azz.mk (kBB (g := gb257) (o := .cells #[.string a0_0, .int .i64 a0_1, .bool a0_2, .int .i64 a0_3, .string a0_4, .slice A0_5 l0_5.length c0_5] 44 (0, 0)) (by (with_reducible repeat first | apply kNN | apply kDD | apply kAA); exact BK257.out) hb)
     have n3_ := Azz.mk (kBB (g := gb258) (o := .cells #[.string (⟨#[]⟩ : ByteArray), .int .i64 0, .bool false, .int .i64 0, .string (⟨#[]⟩ : ByteArray), .slice none 0 0] 44 (0, 0)) (by (with_reducible repeat first | apply kNN | apply kDD | apply kAA); exact BK258.out) hb)
     have n4_ := Azz.mk (bTT (by repeat (first | (with_reducible first | exact HB.out | apply bAA | apply bNN | apply bDD | refine bSS ?_ GE257.out | refine bSS ?_ GE258.out) | exact HB.out)) hb)
     clear HO273
     clear BK257
     clear BK258
     clear HB
     have HO273 := n0_
     have HO281 := n1_
     have BK257 := n2_
     have BK258 := n3_
     have HB := n4_
     clear n0_ n1_ n2_ n3_ n4_
     (try clear hb)
     (try clear hb2)
     (try clear hk)
     (try clear hi)
     (try clear ho0)
     refine hK.out _ _ ⟨gB_, .slice Ao33 y271.length co33, v280, (.tuple #[.agg #[.string t274, .int .i64 t275, .bool t276, .int .i64 t277, .string t278, v280], .int .i64 t282]), m11_, (by rw [ha.out]; exact putSel_upk 7 hb_ rfl rfl rfl), fun _ h_ => absurd (h_.symm.trans (up_self _ _)) (by decide), (by (with_reducible repeat first | apply kNN | apply kDD | apply kAA); exact BK257.out), fun _ => (by (with_reducible repeat first | apply kNN | apply kDD | apply kAA); exact BK258.out), (by repeat (first | (with_reducible first | exact HB.out | apply bAA | apply bNN | apply bDD | refine bSS ?_ GE257.out | refine bSS ?_ GE258.out) | exact HB.out)), fun _ => (by (with_reducible repeat (first | apply Kd.R_alloc | apply Kd.R_drewN | apply Kd.R_drew)); exact Kd.R_mono HO273.out (fun _ _ => trivial)), fun _ => (by (with_reducible repeat (first | apply Kd.R_alloc | apply Kd.R_drewN | apply Kd.R_drew)); exact Kd.R_mono HO281.out (fun _ _ => trivial)), fun h0_ => absurd ((hoff 13 (by kernel_rfl)).symm.trans h0_) (by decide), fun _ => rfl, fun h0_ => absurd ((hoff 11 (by kernel_rfl)).symm.trans h0_) (by decide)⟩
    refine steps_cons ?_ ?_
    ·rintro b a w' ⟨gB_, v272, v280, m10_, m11_, ha, Q_BX_, Q_BK257, Q_BK258, Q_HB, Q_HO273, Q_HO281, Q_BK258_e13, Q_X10_, Q_X11_⟩ hb_ hon hoff
     refine ⟨_, rfl, fun K hK => ?_⟩
     have e33 : a.tmps[33]? = some (m10_) := by rw [ha]; exact putSel_on (e := (10, 33, m10_)) 7 rfl rfl (hon 10 (by kernel_rfl)) rfl
     rw [Q_X10_ (hon 10 (by kernel_rfl))] at e33
     replace ha := Azz.mk ha
     have BK257 := Azz.mk Q_BK257
     have BK258 := Azz.mk (Q_BK258 (hoff 13 (by kernel_rfl)))
     have HB := Azz.mk Q_HB
     have HO273 := Azz.mk (Q_HO273 (hon 9 (by kernel_rfl)))
     have HO281 := Azz.mk (Q_HO281 (hon 10 (by kernel_rfl)))
     refine value_ (w1 := w') (v := .agg #[.string t274, .int .i64 t275, .bool t276, .int .i64 t277, .string t278, v280]) (by rfl) rfl ?_ ?_
     ·go_simp
      (try simp only [i64_w])
      first | rfl | (exact Int.tmod_eq_emod_of_nonneg (Int.natCast_nonneg _)) | skip
     refine hK.out _ _ ⟨gB_, v272, v280, m10_, (.agg #[.string t274, .int .i64 t275, .bool t276, .int .i64 t277, .string t278, v280]), (by rw [ha.out]; exact putSel_upk 8 hb_ rfl rfl rfl), Q_BX_, Q_BK257, Q_BK258, Q_HB, Q_HO273, Q_HO281, fun h0_ => absurd ((hoff 13 (by kernel_rfl)).symm.trans h0_) (by decide), Q_X10_, fun _ => rfl⟩
    refine steps_cons ?_ ?_
    ·rintro b a w' ⟨gB_, v272, v280, m10_, m11_, ha, Q_BX_, Q_BK257, Q_BK258, Q_HB, Q_HO273, Q_HO281, Q_BK258_e13, Q_X10_, Q_X11_⟩ hb_ hon hoff
     refine ⟨_, rfl, fun K hK => ?_⟩
     have e33 : a.tmps[33]? = some (m10_) := by rw [ha]; exact putSel_on (e := (10, 33, m10_)) 7 rfl rfl (hon 10 (by kernel_rfl)) rfl
     rw [Q_X10_ (hon 10 (by kernel_rfl))] at e33
     replace ha := Azz.mk ha
     have BK257 := Azz.mk Q_BK257
     have BK258 := Azz.mk (Q_BK258 (hoff 13 (by kernel_rfl)))
     have HB := Azz.mk Q_HB
     have HO273 := Azz.mk (Q_HO273 (hon 9 (by kernel_rfl)))
     have HO281 := Azz.mk (Q_HO281 (hon 10 (by kernel_rfl)))
     refine value_ (w1 := w') (v := .int .i64 t282) (by rfl) rfl ?_ ?_
     ·go_simp
      (try simp only [i64_w])
      first | rfl | (exact Int.tmod_eq_emod_of_nonneg (Int.natCast_nonneg _)) | skip
     refine hK.out _ _ ⟨gB_, v272, v280, m10_, m11_, (by rw [ha.out]; exact putSel_upk 9 hb_ rfl rfl rfl), Q_BX_, Q_BK257, Q_BK258, Q_HB, Q_HO273, Q_HO281, fun h0_ => absurd ((hoff 13 (by kernel_rfl)).symm.trans h0_) (by decide), Q_X10_, Q_X11_⟩
    refine steps_cons ?_ ?_
    ·rintro b a w' ⟨gB_, v272, v280, m10_, m11_, ha, Q_BX_, Q_BK257, Q_BK258, Q_HB, Q_HO273, Q_HO281, Q_BK258_e13, Q_X10_, Q_X11_⟩ hb_ hon hoff
     refine ⟨_, rfl, fun K hK => ?_⟩
     have e8 : a.tmps[8]? = some (.pointer (some ⟨gb258, 0, none⟩)) := by rw [ha]; exact (putSel_off rfl).trans rfl
     have e34 : a.tmps[34]? = some (m11_) := by rw [ha]; exact putSel_on (e := (11, 34, m11_)) 8 rfl rfl (hon 11 (by kernel_rfl)) rfl
     rw [Q_X11_ (hon 11 (by kernel_rfl))] at e34
     replace ha := Azz.mk ha
     have BK257 := Azz.mk Q_BK257
     have BK258 := Azz.mk (Q_BK258 hb_)
     have HB := Azz.mk Q_HB
     have HO273 := Azz.mk (Q_HO273 (hon 9 (by kernel_rfl)))
     have HO281 := Azz.mk (Q_HO281 (hon 10 (by kernel_rfl)))
     obtain ⟨Ao40, co40, eo40⟩ := Kd.R_slice HO281.out
     (first | subst eo40 | (injection eo40 with f1_ f2_ f3_; have f4_ := f1_.symm; have f5_ := f3_.symm; clear f1_ f2_ f3_; subst f4_; subst f5_))
     have hs35 : w'.cell? ⟨gb258, 0, none⟩ = some (.string (⟨#[]⟩ : ByteArray)) := (kCC BK258.out 0).trans rfl
     have hfs35 := kFF BK258.out 0
     have hns35_0 := NB257_258.out
     have hms35_0 := NB258_257.out
     have hs36 : w'.cell? ⟨gb258, 1, none⟩ = some (.int .i64 0) := (kCC BK258.out 1).trans rfl
     have hfs36 := kFF BK258.out 1
     have hns36_0 := NB257_258.out
     have hms36_0 := NB258_257.out
     have hs37 : w'.cell? ⟨gb258, 2, none⟩ = some (.bool false) := (kCC BK258.out 2).trans rfl
     have hfs37 := kFF BK258.out 2
     have hns37_0 := NB257_258.out
     have hms37_0 := NB258_257.out
     have hs38 : w'.cell? ⟨gb258, 3, none⟩ = some (.int .i64 0) := (kCC BK258.out 3).trans rfl
     have hfs38 := kFF BK258.out 3
     have hns38_0 := NB257_258.out
     have hms38_0 := NB258_257.out
     have hs39 : w'.cell? ⟨gb258, 4, none⟩ = some (.string (⟨#[]⟩ : ByteArray)) := (kCC BK258.out 4).trans rfl
     have hfs39 := kFF BK258.out 4
     have hns39_0 := NB257_258.out
     have hms39_0 := NB258_257.out
     have hs41 : w'.cell? ⟨gb258, 5, none⟩ = some (.slice none 0 0) := (kCC BK258.out 5).trans rfl
     have hfs41 := kFF BK258.out 5
     have hns41_0 := NB257_258.out
     have hms41_0 := NB258_257.out
     refine skip_ (w1 := ?_) (by rfl) rfl ?_ ?_
     rotate_left
     ·go_simp
      rfl
     refine hK.out _ _ ⟨gB_, v272, .slice Ao40 t279.length co40, m10_, m11_, (by rw [ha.out]; exact putSel_none (v := undef) rfl), fun _ h1_ => absurd ((hon 10 (by kernel_rfl)).symm.trans h1_) (by decide), (by (with_reducible repeat first | apply kNN | apply kDD | apply kAA); refine blk_far ?_ NB257_258.out _; (with_reducible repeat first | apply kNN | apply kDD | apply kAA); refine blk_far ?_ NB257_258.out _; (with_reducible repeat first | apply kNN | apply kDD | apply kAA); refine blk_far ?_ NB257_258.out _; (with_reducible repeat first | apply kNN | apply kDD | apply kAA); refine blk_far ?_ NB257_258.out _; (with_reducible repeat first | apply kNN | apply kDD | apply kAA); refine blk_far ?_ NB257_258.out _; (with_reducible repeat first | apply kNN | apply kDD | apply kAA); refine blk_far ?_ NB257_258.out _; (with_reducible repeat first | apply kNN | apply kDD | apply kAA); exact BK257.out), fun h0_ => absurd ((up_self b 13).symm.trans h0_) (by decide), (by repeat (first | (with_reducible first | exact HB.out | apply bAA | apply bNN | apply bDD | refine bSS ?_ GE257.out | refine bSS ?_ GE258.out) | exact HB.out)), fun _ => (by (with_reducible repeat (first | apply Kd.R_alloc | apply Kd.R_drewN | apply Kd.R_drew)); exact Kd.R_mono (Kd.R_far (p := ⟨gb258, 5, none⟩) (Kd.R_far (p := ⟨gb258, 4, none⟩) (Kd.R_far (p := ⟨gb258, 3, none⟩) (Kd.R_far (p := ⟨gb258, 2, none⟩) (Kd.R_far (p := ⟨gb258, 1, none⟩) (Kd.R_far (p := ⟨gb258, 0, none⟩) (Kd.R_types HO273.out BK258.out (by decide)) (fun _ hk => hk.2) (.string t274)) (fun _ hk => hk.2) (.int .i64 t275)) (fun _ hk => hk.2) (.bool t276)) (fun _ hk => hk.2) (.int .i64 t277)) (fun _ hk => hk.2) (.string t278)) (fun _ hk => hk.2) (.slice Ao40 t279.length co40)) (fun _ hk => hk.1)), fun _ => (by (with_reducible repeat (first | apply Kd.R_alloc | apply Kd.R_drewN | apply Kd.R_drew)); exact Kd.R_mono (Kd.R_far (p := ⟨gb258, 5, none⟩) (Kd.R_far (p := ⟨gb258, 4, none⟩) (Kd.R_far (p := ⟨gb258, 3, none⟩) (Kd.R_far (p := ⟨gb258, 2, none⟩) (Kd.R_far (p := ⟨gb258, 1, none⟩) (Kd.R_far (p := ⟨gb258, 0, none⟩) (Kd.R_types HO281.out BK258.out (by decide)) (fun _ hk => hk.2) (.string t274)) (fun _ hk => hk.2) (.int .i64 t275)) (fun _ hk => hk.2) (.bool t276)) (fun _ hk => hk.2) (.int .i64 t277)) (fun _ hk => hk.2) (.string t278)) (fun _ hk => hk.2) (.slice Ao40 t279.length co40)) (fun _ hk => hk.1)), fun _ => (by (with_reducible repeat first | apply kNN | apply kDD | apply kAA); refine blk_put (cs := #[.string t274, .int .i64 t275, .bool t276, .int .i64 t277, .string t278, .slice none 0 0]) ?_ 5 _ rfl; (with_reducible repeat first | apply kNN | apply kDD | apply kAA); refine blk_put (cs := #[.string t274, .int .i64 t275, .bool t276, .int .i64 t277, .string (⟨#[]⟩ : ByteArray), .slice none 0 0]) ?_ 4 _ rfl; (with_reducible repeat first | apply kNN | apply kDD | apply kAA); refine blk_put (cs := #[.string t274, .int .i64 t275, .bool t276, .int .i64 0, .string (⟨#[]⟩ : ByteArray), .slice none 0 0]) ?_ 3 _ rfl; (with_reducible repeat first | apply kNN | apply kDD | apply kAA); refine blk_put (cs := #[.string t274, .int .i64 t275, .bool false, .int .i64 0, .string (⟨#[]⟩ : ByteArray), .slice none 0 0]) ?_ 2 _ rfl; (with_reducible repeat first | apply kNN | apply kDD | apply kAA); refine blk_put (cs := #[.string t274, .int .i64 0, .bool false, .int .i64 0, .string (⟨#[]⟩ : ByteArray), .slice none 0 0]) ?_ 1 _ rfl; (with_reducible repeat first | apply kNN | apply kDD | apply kAA); refine blk_put (cs := #[.string (⟨#[]⟩ : ByteArray), .int .i64 0, .bool false, .int .i64 0, .string (⟨#[]⟩ : ByteArray), .slice none 0 0]) ?_ 0 _ rfl; (with_reducible repeat first | apply kNN | apply kDD | apply kAA); exact BK258.out), Q_X10_, Q_X11_⟩
    refine steps_cons ?_ ?_
    ·rintro b a w' ⟨gB_, v272, v280, m10_, m11_, ha, Q_BX_, Q_BK257, Q_BK258, Q_HB, Q_HO273, Q_HO281, Q_BK258_e13, Q_X10_, Q_X11_⟩ hb_ hon hoff
     refine ⟨_, rfl, fun K hK => ?_⟩
     have e35 : a.tmps[35]? = some (.int .i64 t282) := by rw [ha]; exact putSel_on (e := (12, 35, .int .i64 t282)) 9 rfl rfl (hon 12 (by kernel_rfl)) rfl
     replace ha := Azz.mk ha
     have BK257 := Azz.mk Q_BK257
     have HB := Azz.mk Q_HB
     have HO273 := Azz.mk (Q_HO273 (hon 9 (by kernel_rfl)))
     have HO281 := Azz.mk (Q_HO281 (hon 10 (by kernel_rfl)))
     have BK258 := Azz.mk (Q_BK258_e13 (hon 13 (by kernel_rfl)))
     refine value_ (w1 := w') (v := .int .i64 t282) (by rfl) rfl ?_ ?_
     ·go_simp
      (try simp only [i64_w])
      first | rfl | (exact Int.tmod_eq_emod_of_nonneg (Int.natCast_nonneg _)) | skip
     refine hK.out _ _ ⟨gB_, v272, v280, m10_, m11_, (by rw [ha.out]; exact putSel_upk 10 hb_ rfl rfl rfl), Q_BX_, Q_BK257, fun h0_ => absurd ((hon 13 (by kernel_rfl)).symm.trans h0_) (by decide), Q_HB, Q_HO273, Q_HO281, Q_BK258_e13, Q_X10_, Q_X11_⟩
    exact steps_nil
   rintro b a w41 hall ⟨gB_, v272, v280, m10_, m11_, ha, Q_BX_, Q_BK257, Q_BK258, Q_HB, Q_HO273, Q_HO281, Q_BK258_e13, Q_X10_, Q_X11_⟩
   clear BK257 BK258 HB
   have hb0_ := hall 0 (by kernel_rfl)
   have hb1_ := hall 1 (by kernel_rfl)
   have hb2_ := hall 2 (by kernel_rfl)
   have hb4_ := hall 4 (by kernel_rfl)
   have hb5_ := hall 5 (by kernel_rfl)
   have hb8_ := hall 8 (by kernel_rfl)
   have hb9_ := hall 9 (by kernel_rfl)
   have hb10_ := hall 10 (by kernel_rfl)
   have hb11_ := hall 11 (by kernel_rfl)
   have hb12_ := hall 12 (by kernel_rfl)
   have hb13_ := hall 13 (by kernel_rfl)
   have hb14_ := hall 14 (by kernel_rfl)
   subst ha
   obtain rfl := Q_X10_ hb10_
   obtain rfl := Q_X11_ hb11_
   simp only [putSel, hb0_, hb1_, hb2_, hb4_, hb5_, hb8_, hb9_, hb10_, hb11_, hb12_, hb13_, hb14_, if_true, Act.put, List.setIfInBounds_toArray, List.set_cons_zero, List.set_cons_succ]
   have BK257 := Azz.mk Q_BK257
   clear Q_BK257
   clear Q_BK258
   have HB := Azz.mk Q_HB
   clear Q_HB
   have HO273 := Azz.mk (Q_HO273 hb9_)
   clear Q_HO273
   have HO281 := Azz.mk (Q_HO281 hb10_)
   clear Q_HO281
   have BK258 := Azz.mk (Q_BK258_e13 hb13_)
   clear Q_BK258_e13
   clear hall hb0_ hb1_ hb2_ hb4_ hb5_ hb8_ hb9_ hb10_ hb11_ hb12_ hb13_ hb14_
   try go_wp2
   refine bodyPost_ret (results_ct rfl _ _ gb258 44 #[.string t274, .int .i64 t275, .bool t276, .int .i64 t277, .string t278, v280] (0, 0) _ rfl (by (with_reducible repeat first | apply kNN | apply kDD | apply kAA); exact BK258.out) Tryz.underlying44 rfl (by kernel_rfl)) rfl ?_
   exact ⟨_, by first | rfl | (simp [eNN, eSS] <;> rfl) | (simp [*, eNN, eSS] <;> rfl), by (with_reducible repeat (first | apply Kd.R_alloc | apply Kd.R_drewN | apply Kd.R_drew)); exact Kd.R_mono HO281.out (fun _ hk => trivial), by repeat (first | (with_reducible first | exact HB.out | apply bAA | apply bNN | apply bDD | refine bSS ?_ GE257.out | refine bSS ?_ GE258.out) | exact HB.out)⟩
 ·replace c6 := Bool.eq_false_iff.mpr c6
  subst c6
  have H1 : (some ((⟨#[]⟩ : ByteArray), 0, false, 0, (⟨#[]⟩ : ByteArray), ([] : List (S61)), 1)) = some (r1, r2, r3, r4, r5, r6, r7) := by rw [if_neg (show ¬ (false = true) by decide)] at H; exact H
  clear H
  have H := H1
  clear H1
  simp only [Option.some.injEq, Prod.mk.injEq] at H
  obtain ⟨rfl, rfl, rfl, rfl, rfl, rfl, rfl⟩ := H
  go_enter Tryz.func34, Tryz.ntmps34
  go_wp2_with (first | ((with_reducible refine gate_dst (N := 4) rfl ?_); refine box_event ?hg (N := 4) ?hd (cs := #[.string a0_0, .int .i64 a0_1, .bool a0_2, .int .i64 a0_3, .string a0_4, .slice A0_5 l0_5.length c0_5]) (t := 44) ?hr ?_; (case hd => rfl); (case hg => rfl); (case hr => first | (go_simp; done) | (go_simp; rfl)); intro gb257 hg w42 hbox hb; have n0_ := Azz.mk (bTT (by repeat (first | (with_reducible first | exact HB.out | apply bAA | apply bNN | apply bDD) | exact HB.out)) hb); have n1_ := Azz.mk (hbox); have n2_ := Azz.mk ((by rw [hg]; exact (bZZ (by repeat (first | (with_reducible first | exact HB.out | apply bAA | apply bNN | apply bDD) | exact HB.out))) : w.heap.size ≤ gb257)); have n3_ := Azz.mk ((by rw [hg]; exact (bZZ (by repeat (first | (with_reducible first | exact HB.out | apply bAA | apply bNN | apply bDD) | exact HB.out))) : w.heap.size ≤ gb257)); clear HB; have HB := n0_; have BK257 := n1_; have GW257 := n2_; have GE257 := n3_; clear n0_ n1_ n2_ n3_; clear hb hbox hg) | ((with_reducible refine gate_dst (N := 8) rfl ?_); refine box_event ?hg (N := 8) ?hd (cs := #[.string (⟨#[]⟩ : ByteArray), .int .i64 0, .bool false, .int .i64 0, .string (⟨#[]⟩ : ByteArray), .slice none 0 0]) (t := 44) ?hr ?_; (case hd => rfl); (case hg => rfl); (case hr => first | (go_simp; done) | (go_simp; rfl)); intro gb258 hg w43 hbox hb; have n0_ := Azz.mk (kBB (g := gb257) (o := .cells #[.string a0_0, .int .i64 a0_1, .bool a0_2, .int .i64 a0_3, .string a0_4, .slice A0_5 l0_5.length c0_5] 44 (0, 0)) (by (with_reducible repeat first | apply kNN | apply kDD | apply kAA); exact BK257.out) hb); have n1_ := Azz.mk (bTT (by repeat (first | (with_reducible first | exact HB.out | apply bAA | apply bNN | apply bDD | refine bSS ?_ GE257.out) | exact HB.out)) hb); have n2_ := Azz.mk (hbox); have n3_ := Azz.mk ((by rw [hg]; exact (bZZ (by repeat (first | (with_reducible first | exact HB.out | apply bAA | apply bNN | apply bDD | refine bSS ?_ GE257.out) | exact HB.out))) : w.heap.size ≤ gb258)); have n4_ := Azz.mk ((by rw [hg]; exact (bZZ (by repeat (first | (with_reducible first | exact HB.out | apply bAA | apply bNN | apply bDD | refine bSS ?_ GE257.out) | exact HB.out))) : w.heap.size ≤ gb258)); have n5_ := Azz.mk ((by rw [hg]; exact Nat.ne_of_lt (blk_lt (g := gb257) (o := .cells #[.string a0_0, .int .i64 a0_1, .bool a0_2, .int .i64 a0_3, .string a0_4, .slice A0_5 l0_5.length c0_5] 44 (0, 0)) (by (with_reducible repeat first | apply kNN | apply kDD | apply kAA); exact BK257.out)) : gb257 ≠ gb258)); have n6_ := Azz.mk ((by rw [hg]; exact Nat.ne_of_gt (blk_lt (g := gb257) (o := .cells #[.string a0_0, .int .i64 a0_1, .bool a0_2, .int .i64 a0_3, .string a0_4, .slice A0_5 l0_5.length c0_5] 44 (0, 0)) (by (with_reducible repeat first | apply kNN | apply kDD | apply kAA); exact BK257.out)) : gb258 ≠ gb257)); clear BK257; clear HB; have BK257 := n0_; have HB := n1_; have BK258 := n2_; have GW258 := n3_; have GE258 := n4_; have NB257_258 := n5_; have NB258_257 := n6_; clear n0_ n1_ n2_ n3_ n4_ n5_ n6_; clear hb hbox hg; have hnb44 := NB257_258.out; have hnc44 := NB258_257.out; have hcz45_0 : w43.cell? ⟨gb257, 0, none⟩ = some (.string a0_0) := (kCC BK257.out 0).trans rfl; have hcz45_1 : w43.cell? ⟨gb257, 1, none⟩ = some (.int .i64 a0_1) := (kCC BK257.out 1).trans rfl; have hcz45_2 : w43.cell? ⟨gb257, 2, none⟩ = some (.bool a0_2) := (kCC BK257.out 2).trans rfl; have hcz45_3 : w43.cell? ⟨gb257, 3, none⟩ = some (.int .i64 a0_3) := (kCC BK257.out 3).trans rfl; have hcz45_4 : w43.cell? ⟨gb257, 4, none⟩ = some (.string a0_4) := (kCC BK257.out 4).trans rfl; have hcz45_5 : w43.cell? ⟨gb257, 5, none⟩ = some (.slice A0_5 l0_5.length c0_5) := (kCC BK257.out 5).trans rfl; have hfz45_0 := kFF BK257.out 0; have hfz45_1 := kFF BK257.out 1; have hfz45_2 := kFF BK257.out 2; have hfz45_3 := kFF BK257.out 3; have hfz45_4 := kFF BK257.out 4; have hfz45_5 := kFF BK257.out 5) | ((with_reducible refine gate_callee (f := 27) rfl ?_); refine goesL_ (some 11) rfl rfl Tryz.func27 (by kernel_rfl) rfl #[.agg #[.string a0_0, .int .i64 a0_1, .bool a0_2, .int .i64 a0_3, .string a0_4, .slice A0_5 l0_5.length c0_5]] rfl (by (try simp only [List.map_toArray, List.map_cons, List.map_nil]); first | done | rfl | (simp only [List.length_drop, List.length_take]; rfl)) ?_; (with_reducible refine (part_Is.calls k a0_0 a0_1 a0_2 a0_3 a0_4 _ _ l0_5 false _ ?side3 ?side1 ?side2 A5.out).mono ?_); (case side1 => repeat (first | exact (Kd.C_below HR0_5.out HB.out) | (with_reducible refine Kd.C_alloc ?_ _) | (with_reducible refine Kd.C_drewN ?_ _) | (with_reducible refine Kd.C_drew ?_))); (case side2 => exact HC0_5.out); (case side3 => exact Glob.below hG (by repeat (first | (with_reducible first | exact HB.out | apply bAA | apply bNN | apply bDD | refine bSS ?_ GE257.out | refine bSS ?_ GE258.out) | exact HB.out))); rintro e w46 ⟨rfl, hb⟩; refine ⟨_, rfl, ?_⟩; have n0_ := Azz.mk (kBB (g := gb257) (o := .cells #[.string a0_0, .int .i64 a0_1, .bool a0_2, .int .i64 a0_3, .string a0_4, .slice A0_5 l0_5.length c0_5] 44 (0, 0)) (by (with_reducible repeat first | apply kNN | apply kDD | apply kAA); exact BK257.out) hb); have n1_ := Azz.mk (kBB (g := gb258) (o := .cells #[.string (⟨#[]⟩ : ByteArray), .int .i64 0, .bool false, .int .i64 0, .string (⟨#[]⟩ : ByteArray), .slice none 0 0] 44 (0, 0)) (by (with_reducible repeat first | apply kNN | apply kDD | apply kAA); exact BK258.out) hb); have n2_ := Azz.mk (bTT (by repeat (first | (with_reducible first | exact HB.out | apply bAA | apply bNN | apply bDD | refine bSS ?_ GE257.out | refine bSS ?_ GE258.out) | exact HB.out)) hb); clear BK257; clear BK258; clear HB; have BK257 := n0_; have BK258 := n1_; have HB := n2_; clear n0_ n1_ n2_; (try clear hb); (try clear hb2); (try clear hk); (try clear hi); have hcz47_0 : w46.cell? ⟨gb258, 0, none⟩ = some (.string (⟨#[]⟩ : ByteArray)) := (kCC BK258.out 0).trans rfl; have hcz47_1 : w46.cell? ⟨gb258, 1, none⟩ = some (.int .i64 0) := (kCC BK258.out 1).trans rfl; have hcz47_2 : w46.cell? ⟨gb258, 2, none⟩ = some (.bool false) := (kCC BK258.out 2).trans rfl; have hcz47_3 : w46.cell? ⟨gb258, 3, none⟩ = some (.int .i64 0) := (kCC BK258.out 3).trans rfl; have hcz47_4 : w46.cell? ⟨gb258, 4, none⟩ = some (.string (⟨#[]⟩ : ByteArray)) := (kCC BK258.out 4).trans rfl; have hcz47_5 : w46.cell? ⟨gb258, 5, none⟩ = some (.slice none 0 0) := (kCC BK258.out 5).trans rfl; have hfz47_0 := kFF BK258.out 0; have hfz47_1 := kFF BK258.out 1; have hfz47_2 := kFF BK258.out 2; have hfz47_3 := kFF BK258.out 3; have hfz47_4 := kFF BK258.out 4; have hfz47_5 := kFF BK258.out 5) | ((with_reducible refine gate_store (t := 44) (p := 8) rfl ?_); refine store_event (t := 44) (p := 8) (v := ?vo_w48) (w1 := ((((((w46.setCell ⟨gb258, 0, none⟩ (.string (⟨#[]⟩ : ByteArray))).setCell ⟨gb258, 1, none⟩ (.int .i64 0)).setCell ⟨gb258, 2, none⟩ (.bool false)).setCell ⟨gb258, 3, none⟩ (.int .i64 0)).setCell ⟨gb258, 4, none⟩ (.string (⟨#[]⟩ : ByteArray))).setCell ⟨gb258, 5, none⟩ (.slice none 0 0))) ?hg ?ho ?hn ?hr ?_; (case ho => rfl); (case hg => rfl); (case hn => rfl); (case hr => first | (go_simp; done) | (go_simp; rfl)); intro w48 hw; have n0_ : Azz (w48.heap[gb257]? = some (.cells #[.string a0_0, .int .i64 a0_1, .bool a0_2, .int .i64 a0_3, .string a0_4, .slice A0_5 l0_5.length c0_5] 44 (0, 0))) := ⟨(by rw [hw]; exact (by (with_reducible repeat first | apply kNN | apply kDD | apply kAA); refine blk_far ?_ NB257_258.out _; (with_reducible repeat first | apply kNN | apply kDD | apply kAA); refine blk_far ?_ NB257_258.out _; (with_reducible repeat first | apply kNN | apply kDD | apply kAA); refine blk_far ?_ NB257_258.out _; (with_reducible repeat first | apply kNN | apply kDD | apply kAA); refine blk_far ?_ NB257_258.out _; (with_reducible repeat first | apply kNN | apply kDD | apply kAA); refine blk_far ?_ NB257_258.out _; (with_reducible repeat first | apply kNN | apply kDD | apply kAA); refine blk_far ?_ NB257_258.out _; (with_reducible repeat first | apply kNN | apply kDD | apply kAA); exact BK257.out))⟩; have n1_ : Azz (w48.heap[gb258]? = some (.cells #[.string (⟨#[]⟩ : ByteArray), .int .i64 0, .bool false, .int .i64 0, .string (⟨#[]⟩ : ByteArray), .slice none 0 0] 44 (0, 0))) := ⟨(by rw [hw]; exact (by (with_reducible repeat first | apply kNN | apply kDD | apply kAA); refine blk_put (cs := #[.string (⟨#[]⟩ : ByteArray), .int .i64 0, .bool false, .int .i64 0, .string (⟨#[]⟩ : ByteArray), .slice none 0 0]) ?_ 5 _ rfl; (with_reducible repeat first | apply kNN | apply kDD | apply kAA); refine blk_put (cs := #[.string (⟨#[]⟩ : ByteArray), .int .i64 0, .bool false, .int .i64 0, .string (⟨#[]⟩ : ByteArray), .slice none 0 0]) ?_ 4 _ rfl; (with_reducible repeat first | apply kNN | apply kDD | apply kAA); refine blk_put (cs := #[.string (⟨#[]⟩ : ByteArray), .int .i64 0, .bool false, .int .i64 0, .string (⟨#[]⟩ : ByteArray), .slice none 0 0]) ?_ 3 _ rfl; (with_reducible repeat first | apply kNN | apply kDD | apply kAA); refine blk_put (cs := #[.string (⟨#[]⟩ : ByteArray), .int .i64 0, .bool false, .int .i64 0, .string (⟨#[]⟩ : ByteArray), .slice none 0 0]) ?_ 2 _ rfl; (with_reducible repeat first | apply kNN | apply kDD | apply kAA); refine blk_put (cs := #[.string (⟨#[]⟩ : ByteArray), .int .i64 0, .bool false, .int .i64 0, .string (⟨#[]⟩ : ByteArray), .slice none 0 0]) ?_ 1 _ rfl; (with_reducible repeat first | apply kNN | apply kDD | apply kAA); refine blk_put (cs := #[.string (⟨#[]⟩ : ByteArray), .int .i64 0, .bool false, .int .i64 0, .string (⟨#[]⟩ : ByteArray), .slice none 0 0]) ?_ 0 _ rfl; (with_reducible repeat first | apply kNN | apply kDD | apply kAA); exact BK258.out))⟩; have n2_ : Azz (Below w.heap.size w w48) := ⟨(by rw [hw]; exact (by repeat (first | (with_reducible first | exact HB.out | apply bAA | apply bNN | apply bDD | refine bSS ?_ GE257.out | refine bSS ?_ GE258.out) | exact HB.out)))⟩; clear hw; clear BK257; clear BK258; clear HB; have BK257 := n0_; have BK258 := n1_; have HB := n2_; clear n0_ n1_ n2_))
  refine bodyPost_ret (results_ct rfl _ _ gb258 44 #[.string (⟨#[]⟩ : ByteArray), .int .i64 0, .bool false, .int .i64 0, .string (⟨#[]⟩ : ByteArray), .slice none 0 0] (0, 0) _ rfl (by (with_reducible repeat first | apply kNN | apply kDD | apply kAA); exact BK258.out) Tryz.underlying44 rfl (by kernel_rfl)) rfl ?_
  exact ⟨_, by first | rfl | (simp [eNN, eSS] <;> rfl) | (simp [*, eNN, eSS] <;> rfl), by first | exact Kd.R_nil _ _ _ _ _ | exact Kd.N_nil _ _ _ _ _ | exact Kd.V_nil _ _ _ _ _ | exact Kd.Q_nil _ _ _ _ _ | exact Kd.S_nil _ _ _ _ _, by repeat (first | (with_reducible first | exact HB.out | apply bAA | apply bNN | apply bDD | refine bSS ?_ GE257.out | refine bSS ?_ GE258.out) | exact HB.out)⟩
end Go.Proofs.YtiadfdehplkojaaGreatDoor.P
