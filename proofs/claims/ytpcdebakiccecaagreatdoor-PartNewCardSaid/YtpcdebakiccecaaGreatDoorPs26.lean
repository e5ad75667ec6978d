/- Walks and plain laws of this claim, a part. -/
import Derived.Test.YtpcdebakiccecaaGreatDoorPs25
namespace Go.Proofs.YtpcdebakiccecaaGreatDoor.P
open Go.RowKit Go.Proofs.YtpcdebakiccecaaGreatDoorW.PrintWords Go.Proofs.YtpcdebakiccecaaGreatDoorW.PrintLast Go.Proofs.YtpcdebakiccecaaGreatDoorW.PrintMore
attribute [local go_sem] max2_int min2_int max_two min_two max_three min_three max_four min_four   -- for this text's walks alone
set_option linter.unusedVariables false
set_option linter.unusedSimpArgs false
def local_IsName.j0 : Nat → ByteArray → Bool → Option (Bool)
 | 0, _, _ => none
 | k + 1, x0, x7 => if x7 = true then (some false) else ((operand_Reg.f k x0).bind fun bt105 => (if bt105.2.2 = 0 then (some false) else ((lex_IsWord.f k x0).bind fun t108 => (some t108))))
def local_IsName.f (k : Nat) (a0 : ByteArray) : Option (Bool) := if a0.toList = ([108, 115, 108] : List UInt8) then (local_IsName.j0 k a0 (a0.toList == ([108, 115, 108] : List UInt8))) else (if a0.toList = ([108, 115, 114] : List UInt8) then (local_IsName.j0 k a0 (a0.toList == ([108, 115, 114] : List UInt8))) else (if a0.toList = ([97, 115, 114] : List UInt8) then (local_IsName.j0 k a0 (a0.toList == ([97, 115, 114] : List UInt8))) else (local_IsName.j0 k a0 (a0.toList == ([114, 111, 114] : List UInt8)))))
theorem local_IsName.mono_l : ∀ k, (∀ y0 y1, LeO (local_IsName.j0 k y0 y1) (local_IsName.j0 (k + 1) y0 y1))
 | 0 => fun _ _ r h => by simp [local_IsName.j0] at h
 | k + 1 => by
  have ih0 := local_IsName.mono_l k
  ·intro y0 y1
   unfold local_IsName.j0
   repeat' first
   | (with_reducible exact ih0 _ _)
   | (with_reducible exact lex_IsWord.mono _ _)
   | (with_reducible exact operand_Reg.mono _ _)
   | (with_reducible exact LeO.refl _)
   | (with_reducible exact LeO.none _)
   | (with_reducible refine LeO.ite ?_ ?_)
   | (with_reducible refine LeO.bind ?_ (fun _ => ?_))
theorem local_IsName.mono : ∀ a0 k, LeO (local_IsName.f k a0) (local_IsName.f (k + 1) a0) := by
 intro a0 k
 have ih0 := local_IsName.mono_l k
 unfold local_IsName.f
 repeat' first
  | (with_reducible exact ih0 _ _)
  | (with_reducible exact lex_IsWord.mono _ _)
  | (with_reducible exact operand_Reg.mono _ _)
  | (with_reducible exact LeO.refl _)
  | (with_reducible exact LeO.none _)
  | (with_reducible refine LeO.ite ?_ ?_)
  | (with_reducible refine LeO.bind ?_ (fun _ => ?_))
set_option maxHeartbeats 8000000 in
set_option maxRecDepth 100000 in
theorem local_IsName.calls (k : Nat) (a0 : ByteArray) (r : Bool) (w : World) (h : local_IsName.f k a0 = some r) :
 Calls Tryz.prog 9 #[.string a0] w fun e w' => e = .returned (.bool r) ∧ Below w.heap.size w w' := by
 have HB := Azz.mk (Below.refl w.heap.size w)
 have H : (if a0.toList = ([108, 115, 108] : List UInt8) then (local_IsName.j0 k a0 (a0.toList == ([108, 115, 108] : List UInt8))) else (if a0.toList = ([108, 115, 114] : List UInt8) then (local_IsName.j0 k a0 (a0.toList == ([108, 115, 114] : List UInt8))) else (if a0.toList = ([97, 115, 114] : List UInt8) then (local_IsName.j0 k a0 (a0.toList == ([97, 115, 114] : List UInt8))) else (local_IsName.j0 k a0 (a0.toList == ([114, 111, 114] : List UInt8)))))) = some r := h
 clear h
 have HC2 := Azz.mk H
 clear H
 go_enter Tryz.func9, Tryz.ntmps9
 go_upto_if 7 with (fail)
 go_cut [7] (fun v7 wc => ∃ (kq : Nat) (x7_1 : Bool), v7 = .bool x7_1 ∧ Azz (local_IsName.j0 kq a0 x7_1 = some r) ∧ Azz (kq ≤ k) ∧ Azz (Below w.heap.size w wc))
 case first =>
  have H := HC2.out
  clear HC2
  by_cases c3 : a0.toList = ([108, 115, 108] : List UInt8)
  ·rw [if_pos c3] at H
   have c3b0 := beq_iff_eq.mpr c3
   have c3b1 := bne_eq_false_iff_eq.mpr c3
   clear c3
   (first | rw [c3b0] | (simp only [i64_w, i32_w]; rw [c3b0]) | skip)
   have H' := Azz.mk H
   clear H
   go_wp2
   go_meet
   case rel => exact ⟨_, ((a0.toList == ([108, 115, 108] : List UInt8))), (by first | rfl | (simp; done) | (simp [*]; done)), H', ⟨by first | omega | exact Nat.le_refl _⟩, ⟨by repeat (first | (with_reducible first | exact HB.out | apply bAA | apply bNN | apply bDD) | exact HB.out)⟩⟩
  ·rw [if_neg c3] at H
   have c3b0 := beq_eq_false_iff_ne.mpr c3
   have c3b1 := bne_iff_ne.mpr c3
   (first | rw [c3b0] | (simp only [i64_w, i32_w]; rw [c3b0]) | skip)
   by_cases c4 : a0.toList = ([108, 115, 114] : List UInt8)
   ·rw [if_pos c4] at H
    have c4b0 := beq_iff_eq.mpr c4
    have c4b1 := bne_eq_false_iff_eq.mpr c4
    clear c4
    have H' := Azz.mk H
    clear H
    go_wp2
    go_meet
    case rel => exact ⟨_, ((a0.toList == ([108, 115, 114] : List UInt8))), (by first | rfl | (simp; done) | (simp [*]; done)), H', ⟨by first | omega | exact Nat.le_refl _⟩, ⟨by repeat (first | (with_reducible first | exact HB.out | apply bAA | apply bNN | apply bDD) | exact HB.out)⟩⟩
   ·rw [if_neg c4] at H
    have c4b0 := beq_eq_false_iff_ne.mpr c4
    have c4b1 := bne_iff_ne.mpr c4
    by_cases c5 : a0.toList = ([97, 115, 114] : List UInt8)
    ·rw [if_pos c5] at H
     have c5b0 := beq_iff_eq.mpr c5
     have c5b1 := bne_eq_false_iff_eq.mpr c5
     clear c5
     have H' := Azz.mk H
     clear H
     go_wp2
     go_meet
     case rel => exact ⟨_, ((a0.toList == ([97, 115, 114] : List UInt8))), (by first | rfl | (simp; done) | (simp [*]; done)), H', ⟨by first | omega | exact Nat.le_refl _⟩, ⟨by repeat (first | (with_reducible first | exact HB.out | apply bAA | apply bNN | apply bDD) | exact HB.out)⟩⟩
    ·rw [if_neg c5] at H
     have c5b0 := beq_eq_false_iff_ne.mpr c5
     have c5b1 := bne_iff_ne.mpr c5
     have H' := Azz.mk H
     clear H
     go_wp2
     go_meet
     case rel => exact ⟨_, ((a0.toList == ([114, 111, 114] : List UInt8))), (by first | rfl | (simp; done) | (simp [*]; done)), H', ⟨by first | omega | exact Nat.le_refl _⟩, ⟨by repeat (first | (with_reducible first | exact HB.out | apply bAA | apply bNN | apply bDD) | exact HB.out)⟩⟩
 case rest =>
  clear HC2
  try clear p2
  try clear c3
  try clear c3b0
  try clear c3b1
  try clear c4
  try clear c4b0
  try clear c4b1
  try clear c5
  try clear c5b0
  try clear c5b1
  obtain ⟨kq, x7_1, rfl, HA, HJ1, HB⟩ := hcut
  cases kq with
  | zero => exact absurd HA.out (by simp [local_IsName.j0])
  | succ kj1 =>
   have H := HA.out
   clear HA
   simp only [local_IsName.j0] at H
   by_cases c6 : x7_1 = true
   ·subst c6
    rw [if_pos rfl] at H
    obtain rfl := Option.some.inj H
    go_wp2
    go_ret
    exact ⟨by first | rfl | (simp [eNN, eSS] <;> rfl) | (simp [*, eNN, eSS] <;> rfl), by repeat (first | (with_reducible first | exact HB.out | apply bAA | apply bNN | apply bDD) | exact HB.out)⟩
   ·replace c6 := Bool.eq_false_iff.mpr c6
    subst c6
    rw [if_neg (show ¬ (false = true) by decide)] at H
    replace H := Option.bind_eq_some_iff.mp H
    obtain ⟨⟨t105, t106, t107⟩, A70, H⟩ := H
    (try dsimp only at H)
    have A7 := Azz.mk A70
    clear A70
    by_cases c8 : t107 = 0
    ·rw [if_pos c8] at H
     have c8b0 := beq_iff_eq.mpr c8
     have c8b1 := bne_eq_false_iff_eq.mpr c8
     clear c8
     obtain rfl := Option.some.inj H
     go_wp2_with (first | ((with_reducible refine gate_callee (f := 18) rfl ?_); refine goesL_ (some 14) rfl rfl Tryz.func18 (by kernel_rfl) rfl #[.string a0] rfl (by (try simp only [List.map_toArray, List.map_cons, List.map_nil]); first | done | rfl | (simp only [List.length_drop, List.length_take]; rfl)) ?_; (with_reducible refine (operand_Reg.calls kj1 a0 t105 t106 t107 _ A7.out).mono ?_); rintro e w9 ⟨rfl, hb⟩; refine ⟨_, rfl, ?_⟩; have n0_ := Azz.mk (bTT (by with_reducible repeat first | exact HB.out | apply bAA | apply bNN | apply bDD) hb); clear HB; have HB := n0_; clear n0_; (try clear hb); (try clear hb2); (try clear hk); (try clear hi)))
     go_ret
     exact ⟨by first | rfl | (simp [eNN, eSS] <;> rfl) | (simp [*, eNN, eSS] <;> rfl), by repeat (first | (with_reducible first | exact HB.out | apply bAA | apply bNN | apply bDD) | exact HB.out)⟩
    ·rw [if_neg c8] at H
     have c8b0 := beq_eq_false_iff_ne.mpr c8
     have c8b1 := bne_iff_ne.mpr c8
     replace H := Option.bind_eq_some_iff.mp H
     obtain ⟨t108, A100, H⟩ := H
     (try dsimp only at H)
     have A10 := Azz.mk A100
     clear A100
     obtain rfl := Option.some.inj H
     go_wp2_with (first | ((with_reducible refine gate_callee (f := 18) rfl ?_); refine goesL_ (some 14) rfl rfl Tryz.func18 (by kernel_rfl) rfl #[.string a0] rfl (by (try simp only [List.map_toArray, List.map_cons, List.map_nil]); first | done | rfl | (simp only [List.length_drop, List.length_take]; rfl)) ?_; (with_reducible refine (operand_Reg.calls kj1 a0 t105 t106 t107 _ A7.out).mono ?_); rintro e w11 ⟨rfl, hb⟩; refine ⟨_, rfl, ?_⟩; have n0_ := Azz.mk (bTT (by with_reducible repeat first | exact HB.out | apply bAA | apply bNN | apply bDD) hb); clear HB; have HB := n0_; clear n0_; (try clear hb); (try clear hb2); (try clear hk); (try clear hi)) | (go_at_call 19; (with_reducible refine (lex_IsWord.calls kj1 a0 t108 _ A10.out).mono ?_); rintro e w12 ⟨rfl, hb⟩; have n0_ := Azz.mk (bTT (by with_reducible repeat first | exact HB.out | apply bAA | apply bNN | apply bDD) hb); clear HB; have HB := n0_; clear n0_; (try clear hb); (try clear hb2); (try clear hk); (try clear hi)))
     go_ret
     exact ⟨by first | rfl | (simp [eNN, eSS] <;> rfl) | (simp [*, eNN, eSS] <;> rfl), by repeat (first | (with_reducible first | exact HB.out | apply bAA | apply bNN | apply bDD) | exact HB.out)⟩
def part_New.f (k : Nat) (a0 : ByteArray) (a1 : Int) (a2 : Bool) : Option (ByteArray × Int × Bool × Int × ByteArray × (List (S44)) × Int) := (local_IsName.f k a0).bind fun t110 => (if t110 = true then (if a1 < 1 then (some ((⟨#[]⟩ : ByteArray), 0, false, 0, (⟨#[]⟩ : ByteArray), ([] : List (S44)), 1)) else (if a1 > 3 then (some ((⟨#[]⟩ : ByteArray), 0, false, 0, (⟨#[]⟩ : ByteArray), ([] : List (S44)), 1)) else (some (a0, a1, a2, 0, (⟨#[]⟩ : ByteArray), ([] : List (S44)), 0)))) else (some ((⟨#[]⟩ : ByteArray), 0, false, 0, (⟨#[]⟩ : ByteArray), ([] : List (S44)), 6)))
theorem part_New.mono : ∀ a0 a1 a2 k, LeO (part_New.f k a0 a1 a2) (part_New.f (k + 1) a0 a1 a2) := by
 intro a0 a1 a2 k
 unfold part_New.f
 repeat' first
  | (with_reducible exact local_IsName.mono _ _)
  | (with_reducible exact LeO.refl _)
  | (with_reducible exact LeO.none _)
  | (with_reducible refine LeO.ite ?_ ?_)
  | (with_reducible refine LeO.bind ?_ (fun _ => ?_))
set_option maxHeartbeats 8000000 in
set_option maxRecDepth 100000 in
theorem part_New.calls (k : Nat) (a0 : ByteArray) (a1 : Int) (a2 : Bool) (r1 : ByteArray) (r2 : Int) (r3 : Bool) (r4 : Int) (r5 : ByteArray) (r6 : List (S44)) (r7 : Int) (w : World) (h : part_New.f k a0 a1 a2 = some (r1, r2, r3, r4, r5, r6, r7)) :
 Calls Tryz.prog 4 #[.string a0, .int .i64 a1, .bool a2] w fun e w' => ∃ v5_ : Value, e = .returned (.tuple #[.agg #[.string r1, .int .i64 r2, .bool r3, .int .i64 r4, .string r5, v5_], .int .i64 r7]) ∧ Kd.R k44 44 w' w.heap.size (fun _ => True) v5_ r6 ∧ Below w.heap.size w w' := by
 have hu24 := Tryz.underlying24
 have HB := Azz.mk (Below.refl w.heap.size w)
 have H : ((local_IsName.f k a0).bind fun t110 => (if t110 = true then (if a1 < 1 then (some ((⟨#[]⟩ : ByteArray), 0, false, 0, (⟨#[]⟩ : ByteArray), ([] : List (S44)), 1)) else (if a1 > 3 then (some ((⟨#[]⟩ : ByteArray), 0, false, 0, (⟨#[]⟩ : ByteArray), ([] : List (S44)), 1)) else (some (a0, a1, a2, 0, (⟨#[]⟩ : ByteArray), ([] : List (S44)), 0)))) else (some ((⟨#[]⟩ : ByteArray), 0, false, 0, (⟨#[]⟩ : ByteArray), ([] : List (S44)), 6)))) = some (r1, r2, r3, r4, r5, r6, r7) := h
 clear h
 replace H := Option.bind_eq_some_iff.mp H
 obtain ⟨t110, A40, H⟩ := H
 (try dsimp only at H)
 have A4 := Azz.mk A40
 clear A40
 by_cases c5 : t110 = true
 ·subst c5
  rw [if_pos rfl] at H
  by_cases c6 : a1 < 1
  ·rw [if_pos c6] at H
   have c6b0 := decide_eq_true c6
   clear c6
   simp only [Option.some.injEq, Prod.mk.injEq] at H
   obtain ⟨rfl, rfl, rfl, rfl, rfl, rfl, rfl⟩ := H
   go_enter Tryz.func4, Tryz.ntmps4
   go_wp2_with (first | ((with_reducible refine gate_dst (N := 6) rfl ?_); refine box_event ?hg (N := 6) ?hd (cs := #[.string (⟨#[]⟩ : ByteArray), .int .i64 0, .bool false, .int .i64 0, .string (⟨#[]⟩ : ByteArray), .slice none 0 0]) (t := 24) ?hr ?_; (case hd => rfl); (case hg => rfl); (case hr => first | (go_simp; done) | (go_simp; rfl)); intro gb109 hg w7 hbox hb; have n0_ := Azz.mk (bTT (by with_reducible repeat first | exact HB.out | apply bAA | apply bNN | apply bDD) hb); have n1_ := Azz.mk (hbox); have n2_ := Azz.mk ((by rw [hg]; exact (bZZ (by with_reducible repeat first | exact HB.out | apply bAA | apply bNN | apply bDD)) : w.heap.size ≤ gb109)); have n3_ := Azz.mk ((by rw [hg]; exact (bZZ (by with_reducible repeat first | exact HB.out | apply bAA | apply bNN | apply bDD)) : w.heap.size ≤ gb109)); clear HB; have HB := n0_; have BK109 := n1_; have GW109 := n2_; have GE109 := n3_; clear n0_ n1_ n2_ n3_; clear hb hbox hg) | ((with_reducible refine gate_callee (f := 9) rfl ?_); refine goesL_ (some 9) rfl rfl Tryz.func9 (by kernel_rfl) rfl #[.string a0] rfl (by (try simp only [List.map_toArray, List.map_cons, List.map_nil]); first | done | rfl | (simp only [List.length_drop, List.length_take]; rfl)) ?_; (with_reducible refine (local_IsName.calls k a0 true _ A4.out).mono ?_); rintro e w8 ⟨rfl, hb⟩; refine ⟨_, rfl, ?_⟩; have n0_ := Azz.mk (blk_b hb BK109.out); have n1_ := Azz.mk (bTT (by with_reducible repeat first | exact HB.out | apply bAA | apply bNN | apply bDD | refine bSS ?_ GE109.out) hb); clear BK109; clear HB; have BK109 := n0_; have HB := n1_; clear n0_ n1_; (try clear hb); (try clear hb2); (try clear hk); (try clear hi); obtain ⟨hcz9_0, hcz9_1, hcz9_2, hcz9_3, hcz9_4, hcz9_5, hfz9_0, hfz9_1, hfz9_2, hfz9_3, hfz9_4, hfz9_5⟩ := cel6 BK109.out) | ((with_reducible refine gate_store (t := 24) (p := 6) rfl ?_); refine store_event (t := 24) (p := 6) (v := ?vo_w10) (w1 := ((((((w8.setCell ⟨gb109, 0, none⟩ (.string (⟨#[]⟩ : ByteArray))).setCell ⟨gb109, 1, none⟩ (.int .i64 0)).setCell ⟨gb109, 2, none⟩ (.bool false)).setCell ⟨gb109, 3, none⟩ (.int .i64 0)).setCell ⟨gb109, 4, none⟩ (.string (⟨#[]⟩ : ByteArray))).setCell ⟨gb109, 5, none⟩ (.slice none 0 0))) ?hg ?ho ?hn ?hr ?_; (case ho => rfl); (case hg => rfl); (case hn => rfl); (case hr => first | (go_simp; done) | (go_simp; rfl)); intro w10 hw; have n0_ : Azz (w10.heap[gb109]? = some (.cells #[.string (⟨#[]⟩ : ByteArray), .int .i64 0, .bool false, .int .i64 0, .string (⟨#[]⟩ : ByteArray), .slice none 0 0] 24 (0, 0))) := ⟨(by rw [hw]; exact (by apply put6; (with_reducible repeat first | apply kNN | apply kDD | apply kAA); exact BK109.out))⟩; have n1_ : Azz (Below w.heap.size w w10) := ⟨(by rw [hw]; exact (by with_reducible repeat first | exact HB.out | apply bAA | apply bNN | apply bDD | refine bSS ?_ GE109.out))⟩; clear hw; clear BK109; clear HB; have BK109 := n0_; have HB := n1_; clear n0_ n1_))
   refine bodyPost_ret (results_ct rfl _ _ gb109 24 #[.string (⟨#[]⟩ : ByteArray), .int .i64 0, .bool false, .int .i64 0, .string (⟨#[]⟩ : ByteArray), .slice none 0 0] (0, 0) _ rfl (by (with_reducible repeat first | apply kNN | apply kDD | apply kAA); exact BK109.out) Tryz.underlying24 rfl (by kernel_rfl)) rfl ?_
   exact ⟨_, by first | rfl | (simp [eNN, eSS] <;> rfl) | (simp [*, eNN, eSS] <;> rfl), by first | exact Kd.R_nil _ _ _ _ _ | exact Kd.N_nil _ _ _ _ _ | exact Kd.V_nil _ _ _ _ _ | exact Kd.Q_nil _ _ _ _ _ | exact Kd.S_nil _ _ _ _ _, by repeat (first | (with_reducible first | exact HB.out | apply bAA | apply bNN | apply bDD | refine bSS ?_ GE109.out) | exact HB.out)⟩
  ·rw [if_neg c6] at H
   have c6b0 := decide_eq_false c6
   clear c6
   by_cases c11 : a1 > 3
   ·rw [if_pos c11] at H
    have c11b0 := decide_eq_true c11
    clear c11
    simp only [Option.some.injEq, Prod.mk.injEq] at H
    obtain ⟨rfl, rfl, rfl, rfl, rfl, rfl, rfl⟩ := H
    go_enter Tryz.func4, Tryz.ntmps4
    go_wp2_with (first | ((with_reducible refine gate_dst (N := 6) rfl ?_); refine box_event ?hg (N := 6) ?hd (cs := #[.string (⟨#[]⟩ : ByteArray), .int .i64 0, .bool false, .int .i64 0, .string (⟨#[]⟩ : ByteArray), .slice none 0 0]) (t := 24) ?hr ?_; (case hd => rfl); (case hg => rfl); (case hr => first | (go_simp; done) | (go_simp; rfl)); intro gb109 hg w12 hbox hb; have n0_ := Azz.mk (bTT (by with_reducible repeat first | exact HB.out | apply bAA | apply bNN | apply bDD) hb); have n1_ := Azz.mk (hbox); have n2_ := Azz.mk ((by rw [hg]; exact (bZZ (by with_reducible repeat first | exact HB.out | apply bAA | apply bNN | apply bDD)) : w.heap.size ≤ gb109)); have n3_ := Azz.mk ((by rw [hg]; exact (bZZ (by with_reducible repeat first | exact HB.out | apply bAA | apply bNN | apply bDD)) : w.heap.size ≤ gb109)); clear HB; have HB := n0_; have BK109 := n1_; have GW109 := n2_; have GE109 := n3_; clear n0_ n1_ n2_ n3_; clear hb hbox hg) | ((with_reducible refine gate_callee (f := 9) rfl ?_); refine goesL_ (some 9) rfl rfl Tryz.func9 (by kernel_rfl) rfl #[.string a0] rfl (by (try simp only [List.map_toArray, List.map_cons, List.map_nil]); first | done | rfl | (simp only [List.length_drop, List.length_take]; rfl)) ?_; (with_reducible refine (local_IsName.calls k a0 true _ A4.out).mono ?_); rintro e w13 ⟨rfl, hb⟩; refine ⟨_, rfl, ?_⟩; have n0_ := Azz.mk (blk_b hb BK109.out); have n1_ := Azz.mk (bTT (by with_reducible repeat first | exact HB.out | apply bAA | apply bNN | apply bDD | refine bSS ?_ GE109.out) hb); clear BK109; clear HB; have BK109 := n0_; have HB := n1_; clear n0_ n1_; (try clear hb); (try clear hb2); (try clear hk); (try clear hi); obtain ⟨hcz14_0, hcz14_1, hcz14_2, hcz14_3, hcz14_4, hcz14_5, hfz14_0, hfz14_1, hfz14_2, hfz14_3, hfz14_4, hfz14_5⟩ := cel6 BK109.out) | ((with_reducible refine gate_store (t := 24) (p := 6) rfl ?_); refine store_event (t := 24) (p := 6) (v := ?vo_w15) (w1 := ((((((w13.setCell ⟨gb109, 0, none⟩ (.string (⟨#[]⟩ : ByteArray))).setCell ⟨gb109, 1, none⟩ (.int .i64 0)).setCell ⟨gb109, 2, none⟩ (.bool false)).setCell ⟨gb109, 3, none⟩ (.int .i64 0)).setCell ⟨gb109, 4, none⟩ (.string (⟨#[]⟩ : ByteArray))).setCell ⟨gb109, 5, none⟩ (.slice none 0 0))) ?hg ?ho ?hn ?hr ?_; (case ho => rfl); (case hg => rfl); (case hn => rfl); (case hr => first | (go_simp; done) | (go_simp; rfl)); intro w15 hw; have n0_ : Azz (w15.heap[gb109]? = some (.cells #[.string (⟨#[]⟩ : ByteArray), .int .i64 0, .bool false, .int .i64 0, .string (⟨#[]⟩ : ByteArray), .slice none 0 0] 24 (0, 0))) := ⟨(by rw [hw]; exact (by apply put6; (with_reducible repeat first | apply kNN | apply kDD | apply kAA); exact BK109.out))⟩; have n1_ : Azz (Below w.heap.size w w15) := ⟨(by rw [hw]; exact (by with_reducible repeat first | exact HB.out | apply bAA | apply bNN | apply bDD | refine bSS ?_ GE109.out))⟩; clear hw; clear BK109; clear HB; have BK109 := n0_; have HB := n1_; clear n0_ n1_))
    refine bodyPost_ret (results_ct rfl _ _ gb109 24 #[.string (⟨#[]⟩ : ByteArray), .int .i64 0, .bool false, .int .i64 0, .string (⟨#[]⟩ : ByteArray), .slice none 0 0] (0, 0) _ rfl (by (with_reducible repeat first | apply kNN | apply kDD | apply kAA); exact BK109.out) Tryz.underlying24 rfl (by kernel_rfl)) rfl ?_
    exact ⟨_, by first | rfl | (simp [eNN, eSS] <;> rfl) | (simp [*, eNN, eSS] <;> rfl), by first | exact Kd.R_nil _ _ _ _ _ | exact Kd.N_nil _ _ _ _ _ | exact Kd.V_nil _ _ _ _ _ | exact Kd.Q_nil _ _ _ _ _ | exact Kd.S_nil _ _ _ _ _, by repeat (first | (with_reducible first | exact HB.out | apply bAA | apply bNN | apply bDD | refine bSS ?_ GE109.out) | exact HB.out)⟩
   ·rw [if_neg c11] at H
    have c11b0 := decide_eq_false c11
    clear c11
    simp only [Option.some.injEq, Prod.mk.injEq] at H
    obtain ⟨rfl, rfl, rfl, rfl, rfl, rfl, rfl⟩ := H
    go_enter Tryz.func4, Tryz.ntmps4
    go_wp2_with (first | ((with_reducible refine gate_dst (N := 6) rfl ?_); refine box_event ?hg (N := 6) ?hd (cs := #[.string (⟨#[]⟩ : ByteArray), .int .i64 0, .bool false, .int .i64 0, .string (⟨#[]⟩ : ByteArray), .slice none 0 0]) (t := 24) ?hr ?_; (case hd => rfl); (case hg => rfl); (case hr => first | (go_simp; done) | (go_simp; rfl)); intro gb109 hg w16 hbox hb; have n0_ := Azz.mk (bTT (by with_reducible repeat first | exact HB.out | apply bAA | apply bNN | apply bDD) hb); have n1_ := Azz.mk (hbox); have n2_ := Azz.mk ((by rw [hg]; exact (bZZ (by with_reducible repeat first | exact HB.out | apply bAA | apply bNN | apply bDD)) : w.heap.size ≤ gb109)); have n3_ := Azz.mk ((by rw [hg]; exact (bZZ (by with_reducible repeat first | exact HB.out | apply bAA | apply bNN | apply bDD)) : w.heap.size ≤ gb109)); clear HB; have HB := n0_; have BK109 := n1_; have GW109 := n2_; have GE109 := n3_; clear n0_ n1_ n2_ n3_; clear hb hbox hg) | ((with_reducible refine gate_callee (f := 9) rfl ?_); refine goesL_ (some 9) rfl rfl Tryz.func9 (by kernel_rfl) rfl #[.string a0] rfl (by (try simp only [List.map_toArray, List.map_cons, List.map_nil]); first | done | rfl | (simp only [List.length_drop, List.length_take]; rfl)) ?_; (with_reducible refine (local_IsName.calls k a0 true _ A4.out).mono ?_); rintro e w17 ⟨rfl, hb⟩; refine ⟨_, rfl, ?_⟩; have n0_ := Azz.mk (blk_b hb BK109.out); have n1_ := Azz.mk (bTT (by with_reducible repeat first | exact HB.out | apply bAA | apply bNN | apply bDD | refine bSS ?_ GE109.out) hb); clear BK109; clear HB; have BK109 := n0_; have HB := n1_; clear n0_ n1_; (try clear hb); (try clear hb2); (try clear hk); (try clear hi); obtain ⟨hcz18_0, hcz18_1, hcz18_2, hcz18_3, hcz18_4, hcz18_5, hfz18_0, hfz18_1, hfz18_2, hfz18_3, hfz18_4, hfz18_5⟩ := cel6 BK109.out) | ((with_reducible refine gate_store (t := 24) (p := 6) rfl ?_); refine store_event (t := 24) (p := 6) (v := ?vo_w19) (w1 := ((((((w17.setCell ⟨gb109, 0, none⟩ (.string a0)).setCell ⟨gb109, 1, none⟩ (.int .i64 a1)).setCell ⟨gb109, 2, none⟩ (.bool a2)).setCell ⟨gb109, 3, none⟩ (.int .i64 0)).setCell ⟨gb109, 4, none⟩ (.string (⟨#[]⟩ : ByteArray))).setCell ⟨gb109, 5, none⟩ (.slice none 0 0))) ?hg ?ho ?hn ?hr ?_; (case ho => rfl); (case hg => rfl); (case hn => rfl); (case hr => first | (go_simp; done) | (go_simp; rfl)); intro w19 hw; have n0_ : Azz (w19.heap[gb109]? = some (.cells #[.string a0, .int .i64 a1, .bool a2, .int .i64 0, .string (⟨#[]⟩ : ByteArray), .slice none 0 0] 24 (0, 0))) := ⟨(by rw [hw]; exact (by apply put6; (with_reducible repeat first | apply kNN | apply kDD | apply kAA); exact BK109.out))⟩; have n1_ : Azz (Below w.heap.size w w19) := ⟨(by rw [hw]; exact (by with_reducible repeat first | exact HB.out | apply bAA | apply bNN | apply bDD | refine bSS ?_ GE109.out))⟩; clear hw; clear BK109; clear HB; have BK109 := n0_; have HB := n1_; clear n0_ n1_))
    refine bodyPost_ret (results_ct rfl _ _ gb109 24 #[.string a0, .int .i64 a1, .bool a2, .int .i64 0, .string (⟨#[]⟩ : ByteArray), .slice none 0 0] (0, 0) _ rfl (by (with_reducible repeat first | apply kNN | apply kDD | apply kAA); exact BK109.out) Tryz.underlying24 rfl (by kernel_rfl)) rfl ?_
    exact ⟨_, by first | rfl | (simp [eNN, eSS] <;> rfl) | (simp [*, eNN, eSS] <;> rfl), by first | exact Kd.R_nil _ _ _ _ _ | exact Kd.N_nil _ _ _ _ _ | exact Kd.V_nil _ _ _ _ _ | exact Kd.Q_nil _ _ _ _ _ | exact Kd.S_nil _ _ _ _ _, by repeat (first | (with_reducible first | exact HB.out | apply bAA | apply bNN | apply bDD | refine bSS ?_ GE109.out) | exact HB.out)⟩
 ·replace c5 := Bool.eq_false_iff.mpr c5
  subst c5
  rw [if_neg (show ¬ (false = true) by decide)] at H
  simp only [Option.some.injEq, Prod.mk.injEq] at H
  obtain ⟨rfl, rfl, rfl, rfl, rfl, rfl, rfl⟩ := H
  go_enter Tryz.func4, Tryz.ntmps4
  go_wp2_with (first | ((with_reducible refine gate_dst (N := 6) rfl ?_); refine box_event ?hg (N := 6) ?hd (cs := #[.string (⟨#[]⟩ : ByteArray), .int .i64 0, .bool false, .int .i64 0, .string (⟨#[]⟩ : ByteArray), .slice none 0 0]) (t := 24) ?hr ?_; (case hd => rfl); (case hg => rfl); (case hr => first | (go_simp; done) | (go_simp; rfl)); intro gb109 hg w20 hbox hb; have n0_ := Azz.mk (bTT (by with_reducible repeat first | exact HB.out | apply bAA | apply bNN | apply bDD) hb); have n1_ := Azz.mk (hbox); have n2_ := Azz.mk ((by rw [hg]; exact (bZZ (by with_reducible repeat first | exact HB.out | apply bAA | apply bNN | apply bDD)) : w.heap.size ≤ gb109)); have n3_ := Azz.mk ((by rw [hg]; exact (bZZ (by with_reducible repeat first | exact HB.out | apply bAA | apply bNN | apply bDD)) : w.heap.size ≤ gb109)); clear HB; have HB := n0_; have BK109 := n1_; have GW109 := n2_; have GE109 := n3_; clear n0_ n1_ n2_ n3_; clear hb hbox hg) | ((with_reducible refine gate_callee (f := 9) rfl ?_); refine goesL_ (some 9) rfl rfl Tryz.func9 (by kernel_rfl) rfl #[.string a0] rfl (by (try simp only [List.map_toArray, List.map_cons, List.map_nil]); first | done | rfl | (simp only [List.length_drop, List.length_take]; rfl)) ?_; (with_reducible refine (local_IsName.calls k a0 false _ A4.out).mono ?_); rintro e w21 ⟨rfl, hb⟩; refine ⟨_, rfl, ?_⟩; have n0_ := Azz.mk (blk_b hb BK109.out); have n1_ := Azz.mk (bTT (by with_reducible repeat first | exact HB.out | apply bAA | apply bNN | apply bDD | refine bSS ?_ GE109.out) hb); clear BK109; clear HB; have BK109 := n0_; have HB := n1_; clear n0_ n1_; (try clear hb); (try clear hb2); (try clear hk); (try clear hi); obtain ⟨hcz22_0, hcz22_1, hcz22_2, hcz22_3, hcz22_4, hcz22_5, hfz22_0, hfz22_1, hfz22_2, hfz22_3, hfz22_4, hfz22_5⟩ := cel6 BK109.out) | ((with_reducible refine gate_store (t := 24) (p := 6) rfl ?_); refine store_event (t := 24) (p := 6) (v := ?vo_w23) (w1 := ((((((w21.setCell ⟨gb109, 0, none⟩ (.string (⟨#[]⟩ : ByteArray))).setCell ⟨gb109, 1, none⟩ (.int .i64 0)).setCell ⟨gb109, 2, none⟩ (.bool false)).setCell ⟨gb109, 3, none⟩ (.int .i64 0)).setCell ⟨gb109, 4, none⟩ (.string (⟨#[]⟩ : ByteArray))).setCell ⟨gb109, 5, none⟩ (.slice none 0 0))) ?hg ?ho ?hn ?hr ?_; (case ho => rfl); (case hg => rfl); (case hn => rfl); (case hr => first | (go_simp; done) | (go_simp; rfl)); intro w23 hw; have n0_ : Azz (w23.heap[gb109]? = some (.cells #[.string (⟨#[]⟩ : ByteArray), .int .i64 0, .bool false, .int .i64 0, .string (⟨#[]⟩ : ByteArray), .slice none 0 0] 24 (0, 0))) := ⟨(by rw [hw]; exact (by apply put6; (with_reducible repeat first | apply kNN | apply kDD | apply kAA); exact BK109.out))⟩; have n1_ : Azz (Below w.heap.size w w23) := ⟨(by rw [hw]; exact (by with_reducible repeat first | exact HB.out | apply bAA | apply bNN | apply bDD | refine bSS ?_ GE109.out))⟩; clear hw; clear BK109; clear HB; have BK109 := n0_; have HB := n1_; clear n0_ n1_))
  refine bodyPost_ret (results_ct rfl _ _ gb109 24 #[.string (⟨#[]⟩ : ByteArray), .int .i64 0, .bool false, .int .i64 0, .string (⟨#[]⟩ : ByteArray), .slice none 0 0] (0, 0) _ rfl (by (with_reducible repeat first | apply kNN | apply kDD | apply kAA); exact BK109.out) Tryz.underlying24 rfl (by kernel_rfl)) rfl ?_
  exact ⟨_, by first | rfl | (simp [eNN, eSS] <;> rfl) | (simp [*, eNN, eSS] <;> rfl), by first | exact Kd.R_nil _ _ _ _ _ | exact Kd.N_nil _ _ _ _ _ | exact Kd.V_nil _ _ _ _ _ | exact Kd.Q_nil _ _ _ _ _ | exact Kd.S_nil _ _ _ _ _, by repeat (first | (with_reducible first | exact HB.out | apply bAA | apply bNN | apply bDD | refine bSS ?_ GE109.out) | exact HB.out)⟩
mutual
def cleatref11_Label.j0 : Nat → ByteArray → Bool → Option (Int × Bool × Bool)
 | 0, _, _ => none
 | k + 1, x0, x15 => if x15 = true then (some (0, false, false)) else (cleatref11_Label.l0 k x0 0 0)
def cleatref11_Label.l0 : Nat → ByteArray → Int → Int → Option (Int × Bool × Bool)
 | 0, _, _, _ => none
 | k + 1, x0, x5, x6 => if x6 < (wrap64 ((x0.size : Int) - 1)) then (if 0 ≤ x6 then (if x6 < (x0.size : Int) then (if (bt x0 x6) < 48 then (some (0, false, false)) else (if (bt x0 x6) > 57 then (some (0, false, false)) else (cleatref11_Label.l0 k x0 (wrap64 ((wrap64 (10 * x5)) + (((bt x0 x6) - 48) % 256))) (wrap64 (x6 + 1))))) else (none)) else (none)) else (if 0 ≤ (wrap64 ((x0.size : Int) - 1)) then (if (wrap64 ((x0.size : Int) - 1)) < (x0.size : Int) then (if (bt x0 (wrap64 ((x0.size : Int) - 1))) = 102 then (some (x5, ((bt x0 (wrap64 ((x0.size : Int) - 1))) == 102), true)) else (if (bt x0 (wrap64 ((x0.size : Int) - 1))) = 98 then (some (x5, ((bt x0 (wrap64 ((x0.size : Int) - 1))) == 102), true)) else (some (0, false, false)))) else (none)) else (none))
end
def cleatref11_Label.f (k : Nat) (a0 : ByteArray) : Option (Int × Bool × Bool) := if (a0.size : Int) < 2 then (cleatref11_Label.j0 k a0 true) else (cleatref11_Label.j0 k a0 (decide ((a0.size : Int) > 5)))
set_option maxHeartbeats 8000000 in
set_option maxRecDepth 100000 in
theorem cleatref11_Label.calls (k : Nat) (a0 : ByteArray) (r1 : Int) (r2 : Bool) (r3 : Bool) (w : World) (h : cleatref11_Label.f k a0 = some (r1, r2, r3)) :
 Calls Tryz.prog 64 #[.string a0] w fun e w' => e = .returned (.tuple #[.int .i64 r1, .bool r2, .bool r3]) ∧ Drawn0 w w' := by
 have H : (if (a0.size : Int) < 2 then (cleatref11_Label.j0 k a0 true) else (cleatref11_Label.j0 k a0 (decide ((a0.size : Int) > 5)))) = some (r1, r2, r3) := h
 clear h
 have HC2 := Azz.mk H
 clear H
 go_enter Tryz.func64, Tryz.ntmps64
 go_upto_region 1 with (fail)
 go_cut [15] (fun v15 wc => ∃ (kq : Nat) (x15_1 : Bool), v15 = .bool x15_1 ∧ Azz (cleatref11_Label.j0 kq a0 x15_1 = some (r1, r2, r3)) ∧ Azz (kq ≤ k) ∧ Drawn0 w wc)
 case first =>
  have H := HC2.out
  clear HC2
  by_cases c3 : (a0.size : Int) < 2
  ·rw [if_pos c3] at H
   have c3b0 := decide_eq_true c3
   have c3b1 : decide (a0.size < 2) = true := decide_eq_true (by omega)
   clear c3
   (first | rw [c3b0] | (simp only [i64_w, i32_w]; rw [c3b0]) | skip)
   have H' := Azz.mk H
   clear H
   go_wp2
   go_meet
   case rel => exact ⟨_, (true), (by first | rfl | (simp; done) | (simp [*]; done)), H', ⟨by first | omega | exact Nat.le_refl _⟩, by repeat (first | exact Drawn0.refl _ | apply Drawn0.step)⟩
  ·rw [if_neg c3] at H
   have c3b0 := decide_eq_false c3
   have c3b1 : decide (a0.size < 2) = false := decide_eq_false (by omega)
   clear c3
   (first | rw [c3b0] | (simp only [i64_w, i32_w]; rw [c3b0]) | skip)
   have H' := Azz.mk H
   clear H
   go_wp2
   go_meet
   case rel => exact ⟨_, (decide ((a0.size : Int) > 5)), (by first | rfl | (simp; done) | (simp [*]; done)), H', ⟨by first | omega | exact Nat.le_refl _⟩, by repeat (first | exact Drawn0.refl _ | apply Drawn0.step)⟩
 case rest =>
  clear HC2
  try clear p2
  try clear c3
  try clear c3b0
  try clear c3b1
  obtain ⟨kq, x15_1, rfl, HA, HJ1, ⟨mc1, rfl⟩⟩ := hcut
  cases kq with
  | zero => exact absurd HA.out (by simp [cleatref11_Label.j0])
  | succ kj1 =>
   have H := HA.out
   clear HA
   simp only [cleatref11_Label.j0] at H
   by_cases c4 : x15_1 = true
   ·subst c4
    rw [if_pos rfl] at H
    simp only [Option.some.injEq, Prod.mk.injEq] at H
    obtain ⟨rfl, rfl, rfl⟩ := H
    go_wp2
    go_ret3
    exact ⟨by first | rfl | (simp; done) | (simp [*]; done), by repeat (first | exact Drawn0.refl _ | apply Drawn0.step)⟩
   ·replace c4 := Bool.eq_false_iff.mpr c4
    subst c4
    rw [if_neg (show ¬ (false = true) by decide)] at H
    have H' := Azz.mk H
    clear H
    go_wp2
    go_loopg [5, 6] kj1 (fun kq v5 v6 w' => ∃ (x5_2 : Int) (x6_2 : Int), v5 = .int .i64 x5_2 ∧ v6 = .int .i64 x6_2 ∧ Azz (cleatref11_Label.l0 kq a0 x5_2 x6_2 = some (r1, r2, r3)) ∧ Azz (kq ≤ kj1) ∧ Drawn0 w w')
    case atStart => exact ⟨(0), (0), (by first | rfl | (simp; done) | (simp [*]; done)), (by first | rfl | (simp; done) | (simp [*]; done)), H', ⟨Nat.le_refl _⟩, by repeat (first | exact Drawn0.refl _ | apply Drawn0.step)⟩
    case round =>
     clear H'
     try clear c1
     try clear p2
     try clear c3
     try clear c3b0
     try clear c3b1
     try clear c4
     try clear p2
     obtain ⟨x5_2, x6_2, rfl, rfl, HA, HK2, ⟨m2, rfl⟩⟩ := hrel
     cases gk with
     | zero => exact absurd HA.out (by simp [cleatref11_Label.l0])
     | succ k2 =>
      have H := HA.out
      clear HA
      simp only [cleatref11_Label.l0] at H
      by_cases c5 : x6_2 < (wrap64 ((a0.size : Int) - 1))
      ·rw [if_pos c5] at H
       have c5b0 := decide_eq_true c5
       clear c5
       by_cases c6 : 0 ≤ x6_2
       ·rw [if_pos c6] at H
        have c6b0 := decide_eq_true c6
        clear c6
        by_cases c7 : x6_2 < (a0.size : Int)
        ·rw [if_pos c7] at H
         have c7b0 := decide_eq_true c7
         clear c7
         by_cases c9 : (bt a0 x6_2) < 48
         ·rw [if_pos c9] at H
          have c9b0 := decide_eq_true c9
          clear c9
          simp only [Option.some.injEq, Prod.mk.injEq] at H
          obtain ⟨rfl, rfl, rfl⟩ := H
          have p8 : 0 ≤ (x6_2 : Int) := of_decide_eq_true (by first | (with_reducible assumption) | assumption)
          have q8 : x6_2 < (a0.size : Int) := of_decide_eq_true (by first | (with_reducible assumption) | assumption)
          have hx8 := bt_at a0 x6_2
          replace p8 := eq_true p8
          replace q8 := eq_true q8
          go_wp2
          go_ret3
          exact ⟨by first | rfl | (simp; done) | (simp [*]; done), by repeat (first | exact Drawn0.refl _ | apply Drawn0.step)⟩
         ·rw [if_neg c9] at H
          have c9b0 := decide_eq_false c9
          clear c9
          by_cases c11 : (bt a0 x6_2) > 57
          ·rw [if_pos c11] at H
           have c11b0 := decide_eq_true c11
           clear c11
           simp only [Option.some.injEq, Prod.mk.injEq] at H
           obtain ⟨rfl, rfl, rfl⟩ := H
           have p8 : 0 ≤ (x6_2 : Int) := of_decide_eq_true (by first | (with_reducible assumption) | assumption)
           have q8 : x6_2 < (a0.size : Int) := of_decide_eq_true (by first | (with_reducible assumption) | assumption)
           have hx8 := bt_at a0 x6_2
           replace p8 := eq_true p8
           replace q8 := eq_true q8
           have p10 : 0 ≤ (x6_2 : Int) := of_decide_eq_true (by first | (with_reducible assumption) | assumption)
           have q10 : x6_2 < (a0.size : Int) := of_decide_eq_true (by first | (with_reducible assumption) | assumption)
           have hx10 := bt_at a0 x6_2
           replace p10 := eq_true p10
           replace q10 := eq_true q10
           go_wp2
           go_ret3
           exact ⟨by first | rfl | (simp; done) | (simp [*]; done), by repeat (first | exact Drawn0.refl _ | apply Drawn0.step)⟩
          ·rw [if_neg c11] at H
           have c11b0 := decide_eq_false c11
           clear c11
           have H' := Azz.mk H
           clear H
           have p8 : 0 ≤ (x6_2 : Int) := of_decide_eq_true (by first | (with_reducible assumption) | assumption)
           have q8 : x6_2 < (a0.size : Int) := of_decide_eq_true (by first | (with_reducible assumption) | assumption)
           have hx8 := bt_at a0 x6_2
           replace p8 := eq_true p8
           replace q8 := eq_true q8
           have p10 : 0 ≤ (x6_2 : Int) := of_decide_eq_true (by first | (with_reducible assumption) | assumption)
           have q10 : x6_2 < (a0.size : Int) := of_decide_eq_true (by first | (with_reducible assumption) | assumption)
           have hx10 := bt_at a0 x6_2
           replace p10 := eq_true p10
           replace q10 := eq_true q10
           have p12 : 0 ≤ (x6_2 : Int) := of_decide_eq_true (by first | (with_reducible assumption) | assumption)
           have q12 : x6_2 < (a0.size : Int) := of_decide_eq_true (by first | (with_reducible assumption) | assumption)
           have hx12 := bt_at a0 x6_2
           replace p12 := eq_true p12
           replace q12 := eq_true q12
           go_wp2
           go_roundg k2
           case measure => have := HJ1.out; have := HK2.out; omega
           case rel => exact ⟨(wrap64 ((wrap64 (10 * x5_2)) + (((bt a0 x6_2) - 48) % 256))), (wrap64 (x6_2 + 1)), (by first | rfl | (simp; done) | (simp [*]; done)), (by first | rfl | (simp; done) | (simp [*]; done)), H', ⟨by have := HJ1.out; have := HK2.out; omega⟩, by repeat (first | exact Drawn0.refl _ | apply Drawn0.step)⟩
        ·rw [if_neg c7] at H
         exact absurd H (by simp)
       ·rw [if_neg c6] at H
        exact absurd H (by simp)
      ·rw [if_neg c5] at H
       have c5b0 := decide_eq_false c5
       clear c5
       obtain ⟨ji13, hji13⟩ : ∃ j_ : Int, (wrap64 ((a0.size : Int) - 1)) = j_ := ⟨_, rfl⟩
       replace H : (if 0 ≤ (ji13) then (if (ji13) < (a0.size : Int) then (if (bt a0 (ji13)) = 102 then (some (x5_2, ((bt a0 (ji13)) == 102), true)) else (if (bt a0 (ji13)) = 98 then (some (x5_2, ((bt a0 (ji13)) == 102), true)) else (some (0, false, false)))) else (none)) else (none)) = some (r1, r2, r3) := by first | (rw [hji13] at H; exact H) | (simp only [hji13] at H ⊢; exact H)
       (try rw [hji13] at c5b0)
       have hji13w : (IntKind.i64.wrap ((a0.size : Int) - 1)) = ji13 := (i64_w _).trans hji13
       by_cases c14 : 0 ≤ (ji13)
       ·rw [if_pos c14] at H
        have c14b0 := decide_eq_true c14
        clear c14
        by_cases c15 : (ji13) < (a0.size : Int)
        ·rw [if_pos c15] at H
         have c15b0 := decide_eq_true c15
         clear c15
         by_cases c17 : (bt a0 (ji13)) = 102
         ·rw [if_pos c17] at H
          have c17b0 := beq_iff_eq.mpr c17
          have c17b1 := bne_eq_false_iff_eq.mpr c17
          simp only [Option.some.injEq, Prod.mk.injEq] at H
          obtain ⟨rfl, rfl, rfl⟩ := H
          have p16 : 0 ≤ ((ji13) : Int) := of_decide_eq_true (by first | (with_reducible assumption) | assumption)
          have q16 : (ji13) < (a0.size : Int) := of_decide_eq_true (by first | (with_reducible assumption) | assumption)
          have hx16 := bt_at a0 (ji13)
          replace p16 := eq_true p16
          replace q16 := eq_true q16
          go_wp2
          go_ret3
          exact ⟨by first | rfl | (simp only [hji13, c17]; done) | (simp [hji13, c17]; done) | (simp; simp [hji13, c17]; done) | (simp; done) | (simp only [← hji13] <;> (first | rfl | simp)) | (simp [*]; done), by repeat (first | exact Drawn0.refl _ | apply Drawn0.step)⟩
         ·rw [if_neg c17] at H
          have c17b0 := beq_eq_false_iff_ne.mpr c17
          have c17b1 := bne_iff_ne.mpr c17
          by_cases c18 : (bt a0 (ji13)) = 98
          ·rw [if_pos c18] at H
           have c18b0 := beq_iff_eq.mpr c18
           have c18b1 := bne_eq_false_iff_eq.mpr c18
           clear c18
           simp only [Option.some.injEq, Prod.mk.injEq] at H
           obtain ⟨rfl, rfl, rfl⟩ := H
           have p16 : 0 ≤ ((ji13) : Int) := of_decide_eq_true (by first | (with_reducible assumption) | assumption)
           have q16 : (ji13) < (a0.size : Int) := of_decide_eq_true (by first | (with_reducible assumption) | assumption)
           have hx16 := bt_at a0 (ji13)
           replace p16 := eq_true p16
           replace q16 := eq_true q16
           go_wp2
           go_ret3
           exact ⟨by first | rfl | (simp only [hji13, c17]; done) | (simp [hji13, c17]; done) | (simp; simp [hji13, c17]; done) | (simp; done) | (simp only [← hji13] <;> (first | rfl | simp)) | (simp [*]; done), by repeat (first | exact Drawn0.refl _ | apply Drawn0.step)⟩
          ·rw [if_neg c18] at H
           have c18b0 := beq_eq_false_iff_ne.mpr c18
           have c18b1 := bne_iff_ne.mpr c18
           simp only [Option.some.injEq, Prod.mk.injEq] at H
           obtain ⟨rfl, rfl, rfl⟩ := H
           have p16 : 0 ≤ ((ji13) : Int) := of_decide_eq_true (by first | (with_reducible assumption) | assumption)
           have q16 : (ji13) < (a0.size : Int) := of_decide_eq_true (by first | (with_reducible assumption) | assumption)
           have hx16 := bt_at a0 (ji13)
           replace p16 := eq_true p16
           replace q16 := eq_true q16
           go_wp2
           go_ret3
           exact ⟨by first | rfl | (simp only [hji13, c17]; done) | (simp [hji13, c17]; done) | (simp; simp [hji13, c17]; done) | (simp; done) | (simp only [← hji13] <;> (first | rfl | simp)) | (simp [*]; done), by repeat (first | exact Drawn0.refl _ | apply Drawn0.step)⟩
        ·rw [if_neg c15] at H
         exact absurd H (by simp)
       ·rw [if_neg c14] at H
        exact absurd H (by simp)
def cleatref10_write.l0 : Nat → Int → Int → ByteArray → ByteArray → Option (ByteArray)
 | 0, _, _, _, _ => none
 | k + 1, x0, x1, x5, x6 => if x0 > 0 then (if x1 = 0 then (none) else (if 0 ≤ (Int.tmod x0 x1) then (if (Int.tmod x0 x1) ≤ (IntKind.u64.wrap ((Int.tmod x0 x1) + 1)) then (if (IntKind.u64.wrap ((Int.tmod x0 x1) + 1)) ≤ (x5.size : Int) then (if (x5.extract ((Int.tmod x0 x1) : Int).toNat ((IntKind.u64.wrap ((Int.tmod x0 x1) + 1)) : Int).toNat).size + x6.size ≤ 9223372036854775807 then (cleatref10_write.l0 k (IntKind.u64.wrap (Int.tdiv x0 x1)) x1 x5 ((x5.extract ((Int.tmod x0 x1) : Int).toNat ((IntKind.u64.wrap ((Int.tmod x0 x1) + 1)) : Int).toNat) ++ x6)) else (none)) else (none)) else (none)) else (none))) else (if x6.toList = ([] : List UInt8) then (if x1 = 0 then (none) else (if 0 ≤ (Int.tmod x0 x1) then (if (Int.tmod x0 x1) ≤ (IntKind.u64.wrap ((Int.tmod x0 x1) + 1)) then (if (IntKind.u64.wrap ((Int.tmod x0 x1) + 1)) ≤ (x5.size : Int) then (if (x5.extract ((Int.tmod x0 x1) : Int).toNat ((IntKind.u64.wrap ((Int.tmod x0 x1) + 1)) : Int).toNat).size + x6.size ≤ 9223372036854775807 then (cleatref10_write.l0 k (IntKind.u64.wrap (Int.tdiv x0 x1)) x1 x5 ((x5.extract ((Int.tmod x0 x1) : Int).toNat ((IntKind.u64.wrap ((Int.tmod x0 x1) + 1)) : Int).toNat) ++ x6)) else (none)) else (none)) else (none)) else (none))) else (some x6))
def cleatref10_write.f (k : Nat) (a0 : Int) (a1 : Int) : Option (ByteArray) := cleatref10_write.l0 k a0 a1 (⟨#[48, 49, 50, 51, 52, 53, 54, 55, 56, 57, 97, 98, 99, 100, 101, 102]⟩ : ByteArray) (⟨#[]⟩ : ByteArray)
theorem cleatref10_write.mono_l : ∀ k, (∀ y0 y1 y2 y3, LeO (cleatref10_write.l0 k y0 y1 y2 y3) (cleatref10_write.l0 (k + 1) y0 y1 y2 y3))
 | 0 => fun _ _ _ _ r h => by simp [cleatref10_write.l0] at h
 | k + 1 => by
  have ih0 := cleatref10_write.mono_l k
  ·intro y0 y1 y2 y3
   unfold cleatref10_write.l0
   repeat' first
   | (with_reducible exact ih0 _ _ _ _)
   | (with_reducible exact LeO.refl _)
   | (with_reducible exact LeO.none _)
   | (with_reducible refine LeO.ite ?_ ?_)
   | (with_reducible refine LeO.bind ?_ (fun _ => ?_))
theorem cleatref10_write.mono : ∀ a0 a1 k, LeO (cleatref10_write.f k a0 a1) (cleatref10_write.f (k + 1) a0 a1) := by
 intro a0 a1 k
 have ih0 := cleatref10_write.mono_l k
 unfold cleatref10_write.f
 repeat' first
  | (with_reducible exact ih0 _ _ _ _)
  | (with_reducible exact LeO.refl _)
  | (with_reducible exact LeO.none _)
  | (with_reducible refine LeO.ite ?_ ?_)
  | (with_reducible refine LeO.bind ?_ (fun _ => ?_))
set_option maxHeartbeats 8000000 in
set_option maxRecDepth 100000 in
theorem slice_lh (D : ByteArray) (l h : Int) (h0 : 0 ≤ l) (h1 : l ≤ h) (h2 : h ≤ D.size) (W : World) : (Instr.slice 9 (.string D) (some (.int .u64 l)) (some (.int .u64 h)) none).run Tryz.prog W = .ok (.string (D.extract l.toNat h.toNat)) W := by
 have e : ((h.toNat : Nat) : Int) = h := Int.toNat_of_nonneg (by omega)
 simp [Instr.slice, run_underlying Tryz.underlying9, Instr.sliceBounds, run_sliceBound, sliced, h0, h1, h2, e, (by omega : 0 ≤ h)]
theorem cleatref10_write.calls (k : Nat) (a0 : Int) (a1 : Int) (r : ByteArray) (w : World) (h : cleatref10_write.f k a0 a1 = some r) :
 Calls Tryz.prog 114 #[.int .u64 a0, .int .u64 a1] w fun e w' => e = .returned (.string r) ∧ Drawn0 w w' := by
 have H : (cleatref10_write.l0 k a0 a1 (⟨#[48, 49, 50, 51, 52, 53, 54, 55, 56, 57, 97, 98, 99, 100, 101, 102]⟩ : ByteArray) (⟨#[]⟩ : ByteArray)) = some r := h
 clear h
 have H' := Azz.mk H
 clear H
 go_enter Tryz.func114, Tryz.ntmps114
 go_wp2
 go_loopg [0, 6] k (fun kq v0 v6 w' => ∃ (x0_1 : Int) (x6_1 : ByteArray), v0 = .int .u64 x0_1 ∧ v6 = .string x6_1 ∧ Azz (cleatref10_write.l0 kq x0_1 a1 (⟨#[48, 49, 50, 51, 52, 53, 54, 55, 56, 57, 97, 98, 99, 100, 101, 102]⟩ : ByteArray) x6_1 = some r) ∧ Azz (kq ≤ k) ∧ Drawn0 w w')
 case atStart => exact ⟨(a0), ((⟨#[]⟩ : ByteArray)), (by first | rfl | (simp; done) | (simp [*]; done)), (by first | rfl | (simp; done) | (simp [*]; done)), H', ⟨Nat.le_refl _⟩, by repeat (first | exact Drawn0.refl _ | apply Drawn0.step)⟩
 case round =>
  clear H'
  try clear c1
  try clear p2
  obtain ⟨x0_1, x6_1, rfl, rfl, HA, HK1, ⟨m1, rfl⟩⟩ := hrel
  cases gk with
  | zero => exact absurd HA.out (by simp [cleatref10_write.l0])
  | succ k1 =>
   have H := HA.out
   clear HA
   simp only [cleatref10_write.l0] at H
   by_cases c3 : x0_1 > 0
   ·rw [if_pos c3] at H
    have c3b0 := decide_eq_true c3
    clear c3
    by_cases c4 : a1 = 0
    ·rw [if_pos c4] at H
     exact absurd H (by simp)
    ·rw [if_neg c4] at H
     have c4b0 := beq_eq_false_iff_ne.mpr c4
     have c4b1 := bne_iff_ne.mpr c4
     obtain ⟨ji5, hji5⟩ : ∃ j_ : Int, (Int.tmod x0_1 a1) = j_ := ⟨_, rfl⟩
     replace H : (if 0 ≤ (ji5) then (if (ji5) ≤ (IntKind.u64.wrap ((ji5) + 1)) then (if (IntKind.u64.wrap ((ji5) + 1)) ≤ ((⟨#[48, 49, 50, 51, 52, 53, 54, 55, 56, 57, 97, 98, 99, 100, 101, 102]⟩ : ByteArray).size : Int) then (if ((⟨#[48, 49, 50, 51, 52, 53, 54, 55, 56, 57, 97, 98, 99, 100, 101, 102]⟩ : ByteArray).extract ((ji5) : Int).toNat ((IntKind.u64.wrap ((ji5) + 1)) : Int).toNat).size + x6_1.size ≤ 9223372036854775807 then (cleatref10_write.l0 k1 (IntKind.u64.wrap (Int.tdiv x0_1 a1)) a1 (⟨#[48, 49, 50, 51, 52, 53, 54, 55, 56, 57, 97, 98, 99, 100, 101, 102]⟩ : ByteArray) (((⟨#[48, 49, 50, 51, 52, 53, 54, 55, 56, 57, 97, 98, 99, 100, 101, 102]⟩ : ByteArray).extract ((ji5) : Int).toNat ((IntKind.u64.wrap ((ji5) + 1)) : Int).toNat) ++ x6_1)) else (none)) else (none)) else (none)) else (none)) = some r := by first | (rw [hji5] at H; exact H) | (simp only [hji5] at H ⊢; exact H)
     by_cases c6 : 0 ≤ (ji5)
     ·rw [if_pos c6] at H
      have c6b0 := eq_true c6
      have c6b1 := decide_eq_true c6
      by_cases c7 : (ji5) ≤ (IntKind.u64.wrap ((ji5) + 1))
      ·rw [if_pos c7] at H
       have c7b0 := eq_true c7
       have c7b1 := decide_eq_true c7
       by_cases c8 : (IntKind.u64.wrap ((ji5) + 1)) ≤ ((⟨#[48, 49, 50, 51, 52, 53, 54, 55, 56, 57, 97, 98, 99, 100, 101, 102]⟩ : ByteArray).size : Int)
       ·rw [if_pos c8] at H
        have hsl := slice_lh (⟨#[48, 49, 50, 51, 52, 53, 54, 55, 56, 57, 97, 98, 99, 100, 101, 102]⟩ : ByteArray) ji5 (IntKind.u64.wrap ((ji5) + 1)) c6 c7 c8
        have c8b0 := eq_true c8
        have c8b1 := decide_eq_true c8
        by_cases c9 : ((⟨#[48, 49, 50, 51, 52, 53, 54, 55, 56, 57, 97, 98, 99, 100, 101, 102]⟩ : ByteArray).extract ((ji5) : Int).toNat ((IntKind.u64.wrap ((ji5) + 1)) : Int).toNat).size + x6_1.size ≤ 9223372036854775807
        ·rw [if_pos c9] at H
         have c9b0 := eq_true c9
         have c9b1 := decide_eq_true c9
         try have c9b2 : (9223372036854775807 < ((⟨#[48, 49, 50, 51, 52, 53, 54, 55, 56, 57, 97, 98, 99, 100, 101, 102]⟩ : ByteArray).extract ((ji5) : Int).toNat ((IntKind.u64.wrap ((ji5) + 1)) : Int).toNat).size + x6_1.size) = False := eq_false (Nat.not_lt.2 c9)
         have H' := Azz.mk H
         clear H
         go_wp2
         go_roundg k1
         case measure => have := HK1.out; omega
         case rel => exact ⟨(IntKind.u64.wrap (Int.tdiv x0_1 a1)), (((⟨#[48, 49, 50, 51, 52, 53, 54, 55, 56, 57, 97, 98, 99, 100, 101, 102]⟩ : ByteArray).extract ((ji5) : Int).toNat ((IntKind.u64.wrap ((ji5) + 1)) : Int).toNat) ++ x6_1), (by first | rfl | (simp; done) | (simp [*]; done)), (by first | rfl | (simp; done) | (simp only [← hji5] <;> (first | rfl | simp)) | (simp [*]; done)), H', ⟨by have := HK1.out; omega⟩, by repeat (first | exact Drawn0.refl _ | apply Drawn0.step)⟩
        ·rw [if_neg c9] at H
         exact absurd H (by simp)
       ·rw [if_neg c8] at H
        exact absurd H (by simp)
      ·rw [if_neg c7] at H
       exact absurd H (by simp)
     ·rw [if_neg c6] at H
      exact absurd H (by simp)
   ·rw [if_neg c3] at H
    have c3b0 := decide_eq_false c3
    clear c3
    by_cases c10 : x6_1.toList = ([] : List UInt8)
    ·rw [if_pos c10] at H
     have c10b0 := beq_iff_eq.mpr c10
     have c10b1 := bne_eq_false_iff_eq.mpr c10
     clear c10
     by_cases c11 : a1 = 0
     ·rw [if_pos c11] at H
      exact absurd H (by simp)
     ·rw [if_neg c11] at H
      have c11b0 := beq_eq_false_iff_ne.mpr c11
      have c11b1 := bne_iff_ne.mpr c11
      obtain ⟨ji12, hji12⟩ : ∃ j_ : Int, (Int.tmod x0_1 a1) = j_ := ⟨_, rfl⟩
      replace H : (if 0 ≤ (ji12) then (if (ji12) ≤ (IntKind.u64.wrap ((ji12) + 1)) then (if (IntKind.u64.wrap ((ji12) + 1)) ≤ ((⟨#[48, 49, 50, 51, 52, 53, 54, 55, 56, 57, 97, 98, 99, 100, 101, 102]⟩ : ByteArray).size : Int) then (if ((⟨#[48, 49, 50, 51, 52, 53, 54, 55, 56, 57, 97, 98, 99, 100, 101, 102]⟩ : ByteArray).extract ((ji12) : Int).toNat ((IntKind.u64.wrap ((ji12) + 1)) : Int).toNat).size + x6_1.size ≤ 9223372036854775807 then (cleatref10_write.l0 k1 (IntKind.u64.wrap (Int.tdiv x0_1 a1)) a1 (⟨#[48, 49, 50, 51, 52, 53, 54, 55, 56, 57, 97, 98, 99, 100, 101, 102]⟩ : ByteArray) (((⟨#[48, 49, 50, 51, 52, 53, 54, 55, 56, 57, 97, 98, 99, 100, 101, 102]⟩ : ByteArray).extract ((ji12) : Int).toNat ((IntKind.u64.wrap ((ji12) + 1)) : Int).toNat) ++ x6_1)) else (none)) else (none)) else (none)) else (none)) = some r := by first | (rw [hji12] at H; exact H) | (simp only [hji12] at H ⊢; exact H)
      by_cases c13 : 0 ≤ (ji12)
      ·rw [if_pos c13] at H
       have c13b0 := eq_true c13
       have c13b1 := decide_eq_true c13
       by_cases c14 : (ji12) ≤ (IntKind.u64.wrap ((ji12) + 1))
       ·rw [if_pos c14] at H
        have c14b0 := eq_true c14
        have c14b1 := decide_eq_true c14
        by_cases c15 : (IntKind.u64.wrap ((ji12) + 1)) ≤ ((⟨#[48, 49, 50, 51, 52, 53, 54, 55, 56, 57, 97, 98, 99, 100, 101, 102]⟩ : ByteArray).size : Int)
        ·rw [if_pos c15] at H
         have hsl := slice_lh (⟨#[48, 49, 50, 51, 52, 53, 54, 55, 56, 57, 97, 98, 99, 100, 101, 102]⟩ : ByteArray) ji12 (IntKind.u64.wrap ((ji12) + 1)) c13 c14 c15
         have c15b0 := eq_true c15
         have c15b1 := decide_eq_true c15
         by_cases c16 : ((⟨#[48, 49, 50, 51, 52, 53, 54, 55, 56, 57, 97, 98, 99, 100, 101, 102]⟩ : ByteArray).extract ((ji12) : Int).toNat ((IntKind.u64.wrap ((ji12) + 1)) : Int).toNat).size + x6_1.size ≤ 9223372036854775807
         ·rw [if_pos c16] at H
          have c16b0 := eq_true c16
          have c16b1 := decide_eq_true c16
          try have c16b2 : (9223372036854775807 < ((⟨#[48, 49, 50, 51, 52, 53, 54, 55, 56, 57, 97, 98, 99, 100, 101, 102]⟩ : ByteArray).extract ((ji12) : Int).toNat ((IntKind.u64.wrap ((ji12) + 1)) : Int).toNat).size + x6_1.size) = False := eq_false (Nat.not_lt.2 c16)
          have H' := Azz.mk H
          clear H
          go_wp2
          go_roundg k1
          case measure => have := HK1.out; omega
          case rel => exact ⟨(IntKind.u64.wrap (Int.tdiv x0_1 a1)), (((⟨#[48, 49, 50, 51, 52, 53, 54, 55, 56, 57, 97, 98, 99, 100, 101, 102]⟩ : ByteArray).extract ((ji12) : Int).toNat ((IntKind.u64.wrap ((ji12) + 1)) : Int).toNat) ++ x6_1), (by first | rfl | (simp; done) | (simp [*]; done)), (by first | rfl | (simp; done) | (simp only [← hji12] <;> (first | rfl | simp)) | (simp [*]; done)), H', ⟨by have := HK1.out; omega⟩, by repeat (first | exact Drawn0.refl _ | apply Drawn0.step)⟩
         ·rw [if_neg c16] at H
          exact absurd H (by simp)
        ·rw [if_neg c15] at H
         exact absurd H (by simp)
       ·rw [if_neg c14] at H
        exact absurd H (by simp)
      ·rw [if_neg c13] at H
       exact absurd H (by simp)
    ·rw [if_neg c10] at H
     have c10b0 := beq_eq_false_iff_ne.mpr c10
     have c10b1 := bne_iff_ne.mpr c10
     obtain rfl := Option.some.inj H
     go_wp2
     go_ret
     exact ⟨by first | rfl | (simp; done) | (simp [*]; done), by repeat (first | exact Drawn0.refl _ | apply Drawn0.step)⟩
end Go.Proofs.YtpcdebakiccecaaGreatDoor.P
