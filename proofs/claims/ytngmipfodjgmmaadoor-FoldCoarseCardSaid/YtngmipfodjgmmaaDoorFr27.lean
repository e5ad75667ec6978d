/- Walks and plain laws of this claim, a part. -/
import Derived.Test.YtngmipfodjgmmaaDoorFr26
namespace Go.Proofs.YtngmipfodjgmmaaDoor.P
open Go.RowKit Go.Proofs.YtngmipfodjgmmaaDoorW.PrintWords Go.Proofs.YtngmipfodjgmmaaDoorW.PrintLast Go.Proofs.YtngmipfodjgmmaaDoorW.PrintMore
attribute [local go_sem] max2_int min2_int max_two min_two max_three min_three max_four min_four   -- for this text's walks alone
set_option linter.unusedVariables false
set_option linter.unusedSimpArgs false
def local_IsName.j0 : Nat → ByteArray → Bool → Option (Bool)
 | 0, _, _ => none
 | k + 1, x0, x7 => if x7 = true then (some false) else ((operand_Reg.f k x0).bind fun bt124 => (if bt124.2.2 = 0 then (some false) else ((lex_IsWord.f k x0).bind fun t127 => (some t127))))
def local_IsName.f (k : Nat) (a0 : ByteArray) : Option (Bool) := if a0.toList = ([108, 115, 108] : List UInt8) then (local_IsName.j0 k a0 (a0.toList == ([108, 115, 108] : List UInt8))) else (if a0.toList = ([108, 115, 114] : List UInt8) then (local_IsName.j0 k a0 (a0.toList == ([108, 115, 114] : List UInt8))) else (if a0.toList = ([97, 115, 114] : List UInt8) then (local_IsName.j0 k a0 (a0.toList == ([97, 115, 114] : List UInt8))) else (local_IsName.j0 k a0 (a0.toList == ([114, 111, 114] : List UInt8)))))
theorem local_IsName.mono_l : ∀ k, (∀ y0 y1, LeO (local_IsName.j0 k y0 y1) (local_IsName.j0 (k + 1) y0 y1))
 | 0 => fun _ _ r h => by simp [local_IsName.j0] at h
 | k + 1 => by
  have ih0 := local_IsName.mono_l k
  ·intro y0 y1
   unfold local_IsName.j0
   repeat' first
   | (with_reducible exact ih0 _ _)
   | (with_reducible exact lex_IsWord.mono _ _)
   | (with_reducible exact operand_Reg.mono _ _)
   | (with_reducible exact LeO.refl _)
   | (with_reducible exact LeO.none _)
   | (with_reducible refine LeO.ite ?_ ?_)
   | (with_reducible refine LeO.bind ?_ (fun _ => ?_))
theorem local_IsName.mono : ∀ a0 k, LeO (local_IsName.f k a0) (local_IsName.f (k + 1) a0) := by
 intro a0 k
 have ih0 := local_IsName.mono_l k
 unfold local_IsName.f
 repeat' first
  | (with_reducible exact ih0 _ _)
  | (with_reducible exact lex_IsWord.mono _ _)
  | (with_reducible exact operand_Reg.mono _ _)
  | (with_reducible exact LeO.refl _)
  | (with_reducible exact LeO.none _)
  | (with_reducible refine LeO.ite ?_ ?_)
  | (with_reducible refine LeO.bind ?_ (fun _ => ?_))
set_option maxHeartbeats 8000000 in
set_option maxRecDepth 100000 in
theorem local_IsName.calls (k : Nat) (a0 : ByteArray) (r : Bool) (w : World) (h : local_IsName.f k a0 = some r) :
 Calls Tryd.prog 46 #[.string a0] w fun e w' => e = .returned (.bool r) ∧ Below w.heap.size w w' := by
 have HB := Azz.mk (Below.refl w.heap.size w)
 have H : (if a0.toList = ([108, 115, 108] : List UInt8) then (local_IsName.j0 k a0 (a0.toList == ([108, 115, 108] : List UInt8))) else (if a0.toList = ([108, 115, 114] : List UInt8) then (local_IsName.j0 k a0 (a0.toList == ([108, 115, 114] : List UInt8))) else (if a0.toList = ([97, 115, 114] : List UInt8) then (local_IsName.j0 k a0 (a0.toList == ([97, 115, 114] : List UInt8))) else (local_IsName.j0 k a0 (a0.toList == ([114, 111, 114] : List UInt8)))))) = some r := h
 clear h
 have HC2 := Azz.mk H
 clear H
 go_enter Tryd.func46, Tryd.ntmps46
 go_upto_if 7 with (fail)
 go_cut [7] (fun v7 wc => ∃ (kq : Nat) (x7_1 : Bool), v7 = .bool x7_1 ∧ Azz (local_IsName.j0 kq a0 x7_1 = some r) ∧ Azz (kq ≤ k) ∧ Azz (Below w.heap.size w wc))
 case first =>
  have H := HC2.out
  clear HC2
  by_cases c3 : a0.toList = ([108, 115, 108] : List UInt8)
  ·rw [if_pos c3] at H
   have c3b0 := beq_iff_eq.mpr c3
   have c3b1 := bne_eq_false_iff_eq.mpr c3
   clear c3
   (first | rw [c3b0] | (simp only [i64_w, i32_w]; rw [c3b0]) | skip)
   have H' := Azz.mk H
   clear H
   go_wp2
   go_meet
   case rel => exact ⟨_, ((a0.toList == ([108, 115, 108] : List UInt8))), (by first | rfl | (simp; done) | (simp [*]; done)), H', ⟨by first | omega | exact Nat.le_refl _⟩, ⟨by repeat (first | (with_reducible first | exact HB.out | apply bAA | apply bNN | apply bDD) | exact HB.out)⟩⟩
  ·rw [if_neg c3] at H
   have c3b0 := beq_eq_false_iff_ne.mpr c3
   have c3b1 := bne_iff_ne.mpr c3
   (first | rw [c3b0] | (simp only [i64_w, i32_w]; rw [c3b0]) | skip)
   by_cases c4 : a0.toList = ([108, 115, 114] : List UInt8)
   ·rw [if_pos c4] at H
    have c4b0 := beq_iff_eq.mpr c4
    have c4b1 := bne_eq_false_iff_eq.mpr c4
    clear c4
    have H' := Azz.mk H
    clear H
    go_wp2
    go_meet
    case rel => exact ⟨_, ((a0.toList == ([108, 115, 114] : List UInt8))), (by first | rfl | (simp; done) | (simp [*]; done)), H', ⟨by first | omega | exact Nat.le_refl _⟩, ⟨by repeat (first | (with_reducible first | exact HB.out | apply bAA | apply bNN | apply bDD) | exact HB.out)⟩⟩
   ·rw [if_neg c4] at H
    have c4b0 := beq_eq_false_iff_ne.mpr c4
    have c4b1 := bne_iff_ne.mpr c4
    by_cases c5 : a0.toList = ([97, 115, 114] : List UInt8)
    ·rw [if_pos c5] at H
     have c5b0 := beq_iff_eq.mpr c5
     have c5b1 := bne_eq_false_iff_eq.mpr c5
     clear c5
     have H' := Azz.mk H
     clear H
     go_wp2
     go_meet
     case rel => exact ⟨_, ((a0.toList == ([97, 115, 114] : List UInt8))), (by first | rfl | (simp; done) | (simp [*]; done)), H', ⟨by first | omega | exact Nat.le_refl _⟩, ⟨by repeat (first | (with_reducible first | exact HB.out | apply bAA | apply bNN | apply bDD) | exact HB.out)⟩⟩
    ·rw [if_neg c5] at H
     have c5b0 := beq_eq_false_iff_ne.mpr c5
     have c5b1 := bne_iff_ne.mpr c5
     have H' := Azz.mk H
     clear H
     go_wp2
     go_meet
     case rel => exact ⟨_, ((a0.toList == ([114, 111, 114] : List UInt8))), (by first | rfl | (simp; done) | (simp [*]; done)), H', ⟨by first | omega | exact Nat.le_refl _⟩, ⟨by repeat (first | (with_reducible first | exact HB.out | apply bAA | apply bNN | apply bDD) | exact HB.out)⟩⟩
 case rest =>
  clear HC2
  try clear p2
  try clear c3
  try clear c3b0
  try clear c3b1
  try clear c4
  try clear c4b0
  try clear c4b1
  try clear c5
  try clear c5b0
  try clear c5b1
  obtain ⟨kq, x7_1, rfl, HA, HJ1, HB⟩ := hcut
  cases kq with
  | zero => exact absurd HA.out (by simp [local_IsName.j0])
  | succ kj1 =>
   have H := HA.out
   clear HA
   simp only [local_IsName.j0] at H
   by_cases c6 : x7_1 = true
   ·subst c6
    rw [if_pos rfl] at H
    obtain rfl := Option.some.inj H
    go_wp2
    go_ret
    exact ⟨by first | rfl | (simp [eNN, eSS] <;> rfl) | (simp [*, eNN, eSS] <;> rfl), by repeat (first | (with_reducible first | exact HB.out | apply bAA | apply bNN | apply bDD) | exact HB.out)⟩
   ·replace c6 := Bool.eq_false_iff.mpr c6
    subst c6
    rw [if_neg (show ¬ (false = true) by decide)] at H
    replace H := Option.bind_eq_some_iff.mp H
    obtain ⟨⟨t124, t125, t126⟩, A70, H⟩ := H
    (try dsimp only at H)
    have A7 := Azz.mk A70
    clear A70
    by_cases c8 : t126 = 0
    ·rw [if_pos c8] at H
     have c8b0 := beq_iff_eq.mpr c8
     have c8b1 := bne_eq_false_iff_eq.mpr c8
     clear c8
     obtain rfl := Option.some.inj H
     go_wp2_with (first | ((with_reducible refine gate_callee (f := 53) rfl ?_); refine goesL_ (some 14) rfl rfl Tryd.func53 (by kernel_rfl) rfl #[.string a0] rfl (by (try simp only [List.map_toArray, List.map_cons, List.map_nil]); first | done | rfl | (simp only [List.length_drop, List.length_take]; rfl)) ?_; (with_reducible refine (operand_Reg.calls kj1 a0 t124 t125 t126 _ A7.out).mono ?_); rintro e w9 ⟨rfl, hb⟩; refine ⟨_, rfl, ?_⟩; have n0_ := Azz.mk (bTT (by with_reducible repeat first | exact HB.out | apply bAA | apply bNN | apply bDD) hb); clear HB; have HB := n0_; clear n0_; (try clear hb); (try clear hb2); (try clear hk); (try clear hi)))
     go_ret
     exact ⟨by first | rfl | (simp [eNN, eSS] <;> rfl) | (simp [*, eNN, eSS] <;> rfl), by repeat (first | (with_reducible first | exact HB.out | apply bAA | apply bNN | apply bDD) | exact HB.out)⟩
    ·rw [if_neg c8] at H
     have c8b0 := beq_eq_false_iff_ne.mpr c8
     have c8b1 := bne_iff_ne.mpr c8
     replace H := Option.bind_eq_some_iff.mp H
     obtain ⟨t127, A100, H⟩ := H
     (try dsimp only at H)
     have A10 := Azz.mk A100
     clear A100
     obtain rfl := Option.some.inj H
     go_wp2_with (first | ((with_reducible refine gate_callee (f := 53) rfl ?_); refine goesL_ (some 14) rfl rfl Tryd.func53 (by kernel_rfl) rfl #[.string a0] rfl (by (try simp only [List.map_toArray, List.map_cons, List.map_nil]); first | done | rfl | (simp only [List.length_drop, List.length_take]; rfl)) ?_; (with_reducible refine (operand_Reg.calls kj1 a0 t124 t125 t126 _ A7.out).mono ?_); rintro e w11 ⟨rfl, hb⟩; refine ⟨_, rfl, ?_⟩; have n0_ := Azz.mk (bTT (by with_reducible repeat first | exact HB.out | apply bAA | apply bNN | apply bDD) hb); clear HB; have HB := n0_; clear n0_; (try clear hb); (try clear hb2); (try clear hk); (try clear hi)) | (go_at_call 54; (with_reducible refine (lex_IsWord.calls kj1 a0 t127 _ A10.out).mono ?_); rintro e w12 ⟨rfl, hb⟩; have n0_ := Azz.mk (bTT (by with_reducible repeat first | exact HB.out | apply bAA | apply bNN | apply bDD) hb); clear HB; have HB := n0_; clear n0_; (try clear hb); (try clear hb2); (try clear hk); (try clear hi)))
     go_ret
     exact ⟨by first | rfl | (simp [eNN, eSS] <;> rfl) | (simp [*, eNN, eSS] <;> rfl), by repeat (first | (with_reducible first | exact HB.out | apply bAA | apply bNN | apply bDD) | exact HB.out)⟩
/-- How often a byte is there (no more is told: substr is one byte). -/
def strings_Count.f (a0 : ByteArray) (a1 : ByteArray) : Option Int := match a1.data.toList with
 | [c] => some ((Go.Lib.countByte a0.data.toList c : Nat) : Int)
 | _ => none
theorem strings_Count.calls (a0 : ByteArray) (a1 : ByteArray) (r : Int) (w : World) (h : strings_Count.f a0 a1 = some r) :
 Calls Tryd.prog 59 #[.string a0, .string a1] w fun e w' => e = .returned (.int .i64 r) ∧ Drawn0 w w' := by
 unfold strings_Count.f at h
 split at h
 ·rename_i c hc
  obtain rfl := Option.some.inj h
  obtain rfl : a1 = ⟨#[c]⟩ := by
   cases a1
   rename_i d
   have : d = #[c] := by rw [← Array.toArray_toList (xs := d)]; exact congrArg List.toArray hc
   rw [this]
  refine (Tryd.strings_Count_one a0 c w).mono ?_
  rintro e w' ⟨rfl, rfl⟩
  exact ⟨rfl, Drawn0.refl _⟩
 ·exact absurd h (by simp)
def inst_Shape.f (a0 : Int) : Option Int := if a0 < 1 then some 0 else (if a0 > 39 then some 0 else some (rd shapesL a0))
theorem inst_Shape.calls (a0 : Int) (r : Int) (w : World) (hG : Glob w) (h : inst_Shape.f a0 = some r) :
 Calls Tryd.prog 85 #[.int .i64 a0] w fun e w' => e = .returned (.int .i64 r) ∧ Drawn0 w w' := by
 unfold inst_Shape.f at h
 by_cases h1 : a0 < 1
 ·rw [if_pos h1] at h
  obtain rfl := Option.some.inj h
  have b1 : decide (a0 < 1) = true := decide_eq_true h1
  clear h
  go_enter Tryd.func85, Tryd.ntmps85
  go_wp2
  go_ret
  exact ⟨rfl, Drawn0.refl _⟩
 ·rw [if_neg h1] at h
  have b1 : decide (a0 < 1) = false := decide_eq_false h1
  by_cases h2 : a0 > 39
  ·rw [if_pos h2] at h
   obtain rfl := Option.some.inj h
   have b2 : decide (39 < a0) = true := decide_eq_true h2
   clear h
   go_enter Tryd.func85, Tryd.ntmps85
   go_wp2
   go_ret
   exact ⟨rfl, Drawn0.refl _⟩
  ·rw [if_neg h2] at h
   obtain rfl := Option.some.inj h
   have b2 : decide (39 < a0) = false := decide_eq_false h2
   have hc : w.cell? ⟨4, a0.toNat, none⟩ = some (.int .i64 (rd shapesL a0)) := hG.shapes a0.toNat (by omega)
   have i0 : 0 ≤ a0 := by omega
   have i1 : a0 < 40 := by omega
   clear h h1 h2
   go_enter Tryd.func85, Tryd.ntmps85
   go_wp2
   go_ret
   exact ⟨rfl, Drawn0.refl _⟩
def code_Opcode.l0 : Nat → Int → Int → Option Int
 | 0, _, _ => none
 | k + 1, x0, x3 => if x3 ≤ 39 then (if Go.bits .andNot .u32 x0 (rd fieldsL (rd shapesL x3)) = rd basesL x3 then some x3 else code_Opcode.l0 k x0 (x3 + 1)) else some 0
def code_Opcode.f (a0 : Int) : Option Int := code_Opcode.l0 40 a0 1
theorem shapesL_in (i : Nat) : 0 ≤ shapesL.getD i 0 ∧ shapesL.getD i 0 < 17 := by
 rcases Nat.lt_or_ge i 40 with h | h
 ·exact (by decide : ∀ i : Nat, i < 40 → 0 ≤ shapesL.getD i 0 ∧ shapesL.getD i 0 < 17) i h
 ·rw [List.getD_eq_getElem?_getD, List.getElem?_eq_none (by simpa [shapesL] using h)]; decide
set_option maxHeartbeats 1600000 in
set_option maxRecDepth 100000 in
theorem code_Opcode.calls (a0 : Int) (r : Int) (w : World) (hG : Glob w) (h : code_Opcode.f a0 = some r) :
 Calls Tryd.prog 83 #[.int .u32 a0] w fun e w' => e = .returned (.int .i64 r) ∧ Drawn0 w w' := by
 have H : code_Opcode.l0 40 a0 1 = some r := h
 clear h
 have H' := Azz.mk H
 clear H
 go_enter Tryd.func83, Tryd.ntmps83
 go_wp2
 go_loopg [3] 40 (fun kq v3 w' => ∃ (x3 : Int), v3 = .int .i64 x3 ∧ (1 ≤ x3 ∧ x3 ≤ 40) ∧ Azz (code_Opcode.l0 kq a0 x3 = some r) ∧ Azz (kq ≤ 40) ∧ Drawn0 w w')
 case atStart => exact ⟨1, rfl, by omega, H', ⟨Nat.le_refl _⟩, Drawn0.refl _⟩
 case round =>
  clear H'
  obtain ⟨x3, rfl, ⟨hx0, hx1⟩, HA, HK, ⟨m1, rfl⟩⟩ := hrel
  cases gk with
  | zero => exact absurd HA.out (by simp [code_Opcode.l0])
  | succ k1 =>
   have H := HA.out
   clear HA
   simp only [code_Opcode.l0] at H
   by_cases c1 : x3 ≤ 39
   ·rw [if_pos c1] at H
    have b1 : decide (x3 ≤ 39) = true := decide_eq_true c1
    have hS : inst_Shape.f x3 = some (rd shapesL x3) := by unfold inst_Shape.f; rw [if_neg (by omega), if_neg (by omega)]
    have hc1 : ∀ n, (w.drewN n).cell? ⟨3, x3.toNat, none⟩ = some (.int .u32 (rd basesL x3)) := fun n => hG.bases x3.toNat (by omega)
    have hs := shapesL_in x3.toNat
    obtain ⟨s, hs'⟩ : ∃ s, rd shapesL x3 = s := ⟨_, rfl⟩
    rw [show shapesL.getD x3.toNat 0 = rd shapesL x3 from rfl, hs'] at hs
    rw [hs'] at hS H
    clear hs'
    have HS := Azz.mk hS
    clear hS
    obtain ⟨hs0, hs1⟩ := hs
    have hc2 : ∀ n, (w.drewN n).cell? ⟨2, s.toNat, none⟩ = some (.int .u32 (rd fieldsL s)) := fun n => hG.fields s.toNat (by omega)
    obtain ⟨bb, hbb⟩ : ∃ b, rd basesL x3 = b := ⟨_, rfl⟩
    obtain ⟨ff, hff⟩ : ∃ f, rd fieldsL s = f := ⟨_, rfl⟩
    rw [hbb] at H hc1
    rw [hff] at H hc2
    clear hbb hff
    have hc1' := hc1 0
    have hc2' := hc2 0
    simp only [World.cell?_drewN] at hc1' hc2'
    clear hc1 hc2
    by_cases c2 : Go.bits .andNot .u32 a0 ff = bb
    ·rw [if_pos c2] at H
     have b2 : (Go.bits .andNot .u32 a0 ff == bb) = true := beq_iff_eq.mpr c2
     clear c2
     obtain rfl := Option.some.inj H
     clear H
     go_wp2
     repeat (go_quiet ((go_at_call 85; (with_reducible refine (inst_Shape.calls x3 s _ (hG.drewN) HS.out).mono ?_); rintro e w' ⟨rfl, ⟨nd, rfl⟩⟩; (try first | exact ⟨rfl, _, World.drewN_drewN _ _ _⟩ | exact ⟨rfl, _, Eq.trans (World.drewN_drewN _ _ _) (congrArg (World.drewN _) (Nat.add_assoc _ _ _))⟩))); try go_wp2)
     go_ret
     exact ⟨rfl, by repeat (first | exact Drawn0.refl _ | apply Drawn0.step)⟩
    ·rw [if_neg c2] at H
     have b2 : (Go.bits .andNot .u32 a0 ff == bb) = false := beq_eq_false_iff_ne.mpr c2
     clear c2
     have H' := Azz.mk H
     clear H
     go_wp2
     repeat (go_quiet ((go_at_call 85; (with_reducible refine (inst_Shape.calls x3 s _ (hG.drewN) HS.out).mono ?_); rintro e w' ⟨rfl, ⟨nd, rfl⟩⟩; (try first | exact ⟨rfl, _, World.drewN_drewN _ _ _⟩ | exact ⟨rfl, _, Eq.trans (World.drewN_drewN _ _ _) (congrArg (World.drewN _) (Nat.add_assoc _ _ _))⟩))); try go_wp2)
     go_roundg k1
     case measure => have := HK.out; omega
     case rel => exact ⟨x3 + 1, rfl, by omega, H', ⟨by have := HK.out; omega⟩, by repeat (first | exact Drawn0.refl _ | apply Drawn0.step)⟩
   ·rw [if_neg c1] at H
    have b1 : decide (x3 ≤ 39) = false := decide_eq_false c1
    obtain rfl := Option.some.inj H
    clear H
    go_wp2
    go_ret
    exact ⟨rfl, by repeat (first | exact Drawn0.refl _ | apply Drawn0.step)⟩
def bits_right.f (a0 : Int) (a1 : Int) : Option (Bool) := if a0 ≥ 0 then (if a1 ≥ 1 then (if a1 ≤ 32 then (some (decide (a0 ≤ (wrap64 (32 - a1))))) else (some false)) else (some false)) else (some false)
set_option maxHeartbeats 8000000 in
set_option maxRecDepth 100000 in
theorem bits_right.calls (a0 : Int) (a1 : Int) (r : Bool) (w : World) (h : bits_right.f a0 a1 = some r) :
 Calls Tryd.prog 110 #[.int .i64 a0, .int .i64 a1] w fun e w' => e = .returned (.bool r) ∧ Drawn0 w w' := by
 have H : (if a0 ≥ 0 then (if a1 ≥ 1 then (if a1 ≤ 32 then (some (decide (a0 ≤ (wrap64 (32 - a1))))) else (some false)) else (some false)) else (some false)) = some r := h
 clear h
 by_cases c3 : a0 ≥ 0
 ·rw [if_pos c3] at H
  have c3b0 := decide_eq_true c3
  clear c3
  by_cases c4 : a1 ≥ 1
  ·rw [if_pos c4] at H
   have c4b0 := decide_eq_true c4
   clear c4
   by_cases c5 : a1 ≤ 32
   ·rw [if_pos c5] at H
    have c5b0 := decide_eq_true c5
    clear c5
    obtain rfl := Option.some.inj H
    go_enter Tryd.func110, Tryd.ntmps110
    go_wp2
    go_ret
    exact ⟨by first | rfl | (simp; done) | (simp [*]; done), by repeat (first | exact Drawn0.refl _ | apply Drawn0.step)⟩
   ·rw [if_neg c5] at H
    have c5b0 := decide_eq_false c5
    clear c5
    obtain rfl := Option.some.inj H
    go_enter Tryd.func110, Tryd.ntmps110
    go_wp2
    go_ret
    exact ⟨by first | rfl | (simp; done) | (simp [*]; done), by repeat (first | exact Drawn0.refl _ | apply Drawn0.step)⟩
  ·rw [if_neg c4] at H
   have c4b0 := decide_eq_false c4
   clear c4
   obtain rfl := Option.some.inj H
   go_enter Tryd.func110, Tryd.ntmps110
   go_wp2
   go_ret
   exact ⟨by first | rfl | (simp; done) | (simp [*]; done), by repeat (first | exact Drawn0.refl _ | apply Drawn0.step)⟩
 ·rw [if_neg c3] at H
  have c3b0 := decide_eq_false c3
  clear c3
  obtain rfl := Option.some.inj H
  go_enter Tryd.func110, Tryd.ntmps110
  go_wp2
  go_ret
  exact ⟨by first | rfl | (simp; done) | (simp [*]; done), by repeat (first | exact Drawn0.refl _ | apply Drawn0.step)⟩
def bits_Field.f (a0 : Int) (a1 : Int) (a2 : Int) : Option (Int × Int) := (bits_right.f a1 a2).bind fun t128 => (if t128 = true then (if 0 ≤ a1 then (if 0 ≤ a2 then (some (Go.bits .and .u32 (shr .u32 a0 a1) (((shl .u32 1 a2) - 1) % 4294967296), 0)) else (none)) else (none)) else (some (0, 1)))
set_option maxHeartbeats 8000000 in
set_option maxRecDepth 100000 in
theorem bits_Field.calls (a0 : Int) (a1 : Int) (a2 : Int) (r1 : Int) (r2 : Int) (w : World) (h : bits_Field.f a0 a1 a2 = some (r1, r2)) :
 Calls Tryd.prog 101 #[.int .u32 a0, .int .i64 a1, .int .i64 a2] w fun e w' => e = .returned (.tuple #[.int .u32 r1, .int .i64 r2]) ∧ Drawn0 w w' := by
 have H : ((bits_right.f a1 a2).bind fun t128 => (if t128 = true then (if 0 ≤ a1 then (if 0 ≤ a2 then (some (Go.bits .and .u32 (shr .u32 a0 a1) (((shl .u32 1 a2) - 1) % 4294967296), 0)) else (none)) else (none)) else (some (0, 1)))) = some (r1, r2) := h
 clear h
 replace H := Option.bind_eq_some_iff.mp H
 obtain ⟨t128, A40, H⟩ := H
 (try dsimp only at H)
 have A4 := Azz.mk A40
 clear A40
 by_cases c5 : t128 = true
 ·subst c5
  rw [if_pos rfl] at H
  by_cases c6 : 0 ≤ a1
  ·rw [if_pos c6] at H
   have c6b0 := eq_true c6
   have c6b1 := decide_eq_true c6
   clear c6
   obtain ⟨ji7, hji7⟩ : ∃ j_ : Int, (shr .u32 a0 a1) = j_ := ⟨_, rfl⟩
   replace H : (if 0 ≤ a2 then (some (Go.bits .and .u32 (ji7) (((shl .u32 1 a2) - 1) % 4294967296), 0)) else (none)) = some (r1, r2) := by first | (rw [hji7] at H; exact H) | (simp only [hji7] at H ⊢; exact H)
   (try rw [hji7] at A4)
   have hji7_ : (a0 / 2 ^ min a1.toNat 32) = ji7 := hji7
   have hji7z : a1 ≤ 32 → (a0 / 2 ^ a1.toNat) = ji7 := shr_small hji7
   by_cases c8 : 0 ≤ a2
   ·rw [if_pos c8] at H
    have c8b0 := eq_true c8
    have c8b1 := decide_eq_true c8
    clear c8
    obtain ⟨ji9, hji9⟩ : ∃ j_ : Int, (shl .u32 1 a2) = j_ := ⟨_, rfl⟩
    replace H : (some (Go.bits .and .u32 (ji7) (((ji9) - 1) % 4294967296), 0)) = some (r1, r2) := by first | (rw [hji9] at H; exact H) | (simp only [hji9] at H ⊢; exact H)
    (try rw [hji9] at A4)
    have hji9_ : (IntKind.u32.wrap (1 * 2 ^ min a2.toNat 32)) = ji9 := hji9
    have hji9z : a2 ≤ 32 → (IntKind.u32.wrap (1 * 2 ^ a2.toNat)) = ji9 := shl_small hji9
    have hji9u : (IntKind.u32.wrap (2 ^ min a2.toNat 32)) = ji9 := by have h_ := hji9_; rw [Int.one_mul] at h_; exact h_
    have hji9v : a2 ≤ 32 → (IntKind.u32.wrap (2 ^ a2.toNat)) = ji9 := fun hle_ => by have h_ := hji9z hle_; rw [Int.one_mul] at h_; exact h_
    simp only [Option.some.injEq, Prod.mk.injEq] at H
    obtain ⟨rfl, rfl⟩ := H
    go_enter Tryd.func101, Tryd.ntmps101
    go_wp2_with (first | (go_at_call 110; (with_reducible refine (bits_right.calls a1 a2 true _ A4.out).mono ?_); rintro e w' ⟨rfl, ⟨nd, rfl⟩⟩; (try first | exact ⟨rfl, _, World.drewN_drewN _ _ _⟩ | exact ⟨rfl, _, Eq.trans (World.drewN_drewN _ _ _) (congrArg (World.drewN _) (Nat.add_assoc _ _ _))⟩)))
    repeat (go_quiet (first | (go_at_call 110; (with_reducible refine (bits_right.calls a1 a2 true _ A4.out).mono ?_); rintro e w' ⟨rfl, ⟨nd, rfl⟩⟩; (try first | exact ⟨rfl, _, World.drewN_drewN _ _ _⟩ | exact ⟨rfl, _, Eq.trans (World.drewN_drewN _ _ _) (congrArg (World.drewN _) (Nat.add_assoc _ _ _))⟩))); try go_wp2_with (first | (go_at_call 110; (with_reducible refine (bits_right.calls a1 a2 true _ A4.out).mono ?_); rintro e w' ⟨rfl, ⟨nd, rfl⟩⟩; (try first | exact ⟨rfl, _, World.drewN_drewN _ _ _⟩ | exact ⟨rfl, _, Eq.trans (World.drewN_drewN _ _ _) (congrArg (World.drewN _) (Nat.add_assoc _ _ _))⟩))))
    go_ret2
    exact ⟨by first | rfl | (simp; done) | (simp only [← hji7, ← hji9] <;> (first | rfl | simp)) | (simp [*]; done), by repeat (first | exact Drawn0.refl _ | apply Drawn0.step)⟩
   ·rw [if_neg c8] at H
    exact absurd H (by simp)
  ·rw [if_neg c6] at H
   exact absurd H (by simp)
 ·replace c5 := Bool.eq_false_iff.mpr c5
  subst c5
  rw [if_neg (show ¬ (false = true) by decide)] at H
  simp only [Option.some.injEq, Prod.mk.injEq] at H
  obtain ⟨rfl, rfl⟩ := H
  go_enter Tryd.func101, Tryd.ntmps101
  go_wp2_with (first | (go_at_call 110; (with_reducible refine (bits_right.calls a1 a2 false _ A4.out).mono ?_); rintro e w' ⟨rfl, ⟨nd, rfl⟩⟩; (try first | exact ⟨rfl, _, World.drewN_drewN _ _ _⟩ | exact ⟨rfl, _, Eq.trans (World.drewN_drewN _ _ _) (congrArg (World.drewN _) (Nat.add_assoc _ _ _))⟩)))
  repeat (go_quiet (first | (go_at_call 110; (with_reducible refine (bits_right.calls a1 a2 false _ A4.out).mono ?_); rintro e w' ⟨rfl, ⟨nd, rfl⟩⟩; (try first | exact ⟨rfl, _, World.drewN_drewN _ _ _⟩ | exact ⟨rfl, _, Eq.trans (World.drewN_drewN _ _ _) (congrArg (World.drewN _) (Nat.add_assoc _ _ _))⟩))); try go_wp2_with (first | (go_at_call 110; (with_reducible refine (bits_right.calls a1 a2 false _ A4.out).mono ?_); rintro e w' ⟨rfl, ⟨nd, rfl⟩⟩; (try first | exact ⟨rfl, _, World.drewN_drewN _ _ _⟩ | exact ⟨rfl, _, Eq.trans (World.drewN_drewN _ _ _) (congrArg (World.drewN _) (Nat.add_assoc _ _ _))⟩))))
  go_ret2
  exact ⟨by first | rfl | (simp; done) | (simp [*]; done), by repeat (first | exact Drawn0.refl _ | apply Drawn0.step)⟩
def code_part.f (a0 : Int) (a1 : Int) (a2 : Int) : Option (Int) := (bits_Field.f a0 a1 a2).bind fun bt129 => (some (wrap64 (bt129.1)))
set_option maxHeartbeats 8000000 in
set_option maxRecDepth 100000 in
theorem code_part.calls (a0 : Int) (a1 : Int) (a2 : Int) (r : Int) (w : World) (h : code_part.f a0 a1 a2 = some r) :
 Calls Tryd.prog 84 #[.int .u32 a0, .int .i64 a1, .int .i64 a2] w fun e w' => e = .returned (.int .i64 r) ∧ Drawn0 w w' := by
 have H : ((bits_Field.f a0 a1 a2).bind fun bt129 => (some (wrap64 (bt129.1)))) = some r := h
 clear h
 replace H := Option.bind_eq_some_iff.mp H
 obtain ⟨⟨t129, t130⟩, A40, H⟩ := H
 (try dsimp only at H)
 have A4 := Azz.mk A40
 clear A40
 obtain rfl := Option.some.inj H
 go_enter Tryd.func84, Tryd.ntmps84
 go_wp2_with (first | ((with_reducible refine gate_callee (f := 101) rfl ?_); refine goesL_ (some 13) rfl rfl Tryd.func101 (by kernel_rfl) rfl #[.int .u32 a0, .int .i64 a1, .int .i64 a2] rfl (by (try simp only [List.map_toArray, List.map_cons, List.map_nil]); first | done | rfl | (simp only [List.length_drop, List.length_take]; rfl)) ?_; (with_reducible refine (bits_Field.calls a0 a1 a2 t129 t130 _ A4.out).mono ?_); rintro e w' ⟨rfl, ⟨nd, rfl⟩⟩; refine ⟨_, rfl, ?_⟩))
 go_ret
 exact ⟨by first | rfl | (simp; done) | (simp [*]; done), by repeat (first | exact Drawn0.refl _ | apply Drawn0.step)⟩
def mask_extra.f (a0 : Int) : Option (Int) := if a0 = 64 then (some 0) else (some (wrap64 (64 - (wrap64 (2 * a0)))))
set_option maxHeartbeats 8000000 in
set_option maxRecDepth 100000 in
theorem mask_extra.calls (a0 : Int) (r : Int) (w : World) (h : mask_extra.f a0 = some r) :
 Calls Tryd.prog 119 #[.int .i64 a0] w fun e w' => e = .returned (.int .i64 r) ∧ Drawn0 w w' := by
 have H : (if a0 = 64 then (some 0) else (some (wrap64 (64 - (wrap64 (2 * a0)))))) = some r := h
 clear h
 by_cases c2 : a0 = 64
 ·rw [if_pos c2] at H
  have c2b0 := beq_iff_eq.mpr c2
  have c2b1 := bne_eq_false_iff_eq.mpr c2
  clear c2
  obtain rfl := Option.some.inj H
  go_enter Tryd.func119, Tryd.ntmps119
  go_wp2
  go_ret
  exact ⟨by first | rfl | (simp; done) | (simp [*]; done), by repeat (first | exact Drawn0.refl _ | apply Drawn0.step)⟩
 ·rw [if_neg c2] at H
  have c2b0 := beq_eq_false_iff_ne.mpr c2
  have c2b1 := bne_iff_ne.mpr c2
  obtain rfl := Option.some.inj H
  go_enter Tryd.func119, Tryd.ntmps119
  go_wp2
  go_ret
  exact ⟨by first | rfl | (simp; done) | (simp [*]; done), by repeat (first | exact Drawn0.refl _ | apply Drawn0.step)⟩
def mask_read.l0 : Nat → Int → Int → Int → Int → Option (Int × Int × Int)
 | 0, _, _, _, _ => none
 | k + 1, n, r, s, x => if x ≤ 64 then (if ((x == 64) == (n == 1)) = true then (if s + 1 - (if x = 64 then 0 else 64 - 2 * x) ≥ 1 then (if s + 1 - (if x = 64 then 0 else 64 - 2 * x) < x then (if r < x then some (x, r, s + 1 - (if x = 64 then 0 else 64 - 2 * x)) else mask_read.l0 k n r s (x * 2)) else mask_read.l0 k n r s (x * 2)) else mask_read.l0 k n r s (x * 2)) else mask_read.l0 k n r s (x * 2)) else some (0, 0, 0)
def mask_read.f (n : Int) (r : Int) (s : Int) : Option (Int × Int × Int) := if 0 ≤ s ∧ s ≤ 63 then mask_read.l0 7 n r s 2 else none
theorem mask_sizes1.calls (b : Nat) (x : Int) (w : World) (hc : w.cell? ⟨b, 0, none⟩ = some (.int .i64 x)) (hf : w.frozen? ⟨b, 0, none⟩ = false) (hx0 : 0 ≤ x) (hx1 : x ≤ 1000) :
 Calls Tryd.prog 121 #[.pointer (some ⟨b, 0, none⟩)] w fun e w' => e = .returned (.int .i64 (x * 2)) ∧ w' = w.setCell ⟨b, 0, none⟩ (.int .i64 (x * 2)) := by
 go_enter Tryd.func121, Tryd.ntmps121
 go_wp2
 go_ret
 exact ⟨rfl, rfl⟩
theorem mask_sizes.calls (w : World) :
 Calls Tryd.prog 118 #[] w fun e w' => e = .returned (.func (.func 121) #[] #[.pointer (some ⟨w.heap.size, 0, none⟩)]) ∧ w' = w.alloc (.cells #[.int .i64 1] 3) := by
 have hmf : ∀ (fn : Fn) (first cap : Array Value) (w : World), (Instr.makeFunc fn first cap).run Tryd.prog w = .ok (.func fn first cap) w := fun _ _ _ _ => rfl
 go_enter Tryd.func118, Tryd.ntmps118
 go_wp2
 go_ret
 exact ⟨rfl, rfl⟩
theorem mask_extra_some (x : Int) (h0 : 0 ≤ x) (h1 : x ≤ 1000) : mask_extra.f x = some (if x = 64 then 0 else 64 - 2 * x) := by
 unfold mask_extra.f
 by_cases h : x = 64
 ·rw [if_pos h, if_pos h]
 ·rw [if_neg h, if_neg h]
  congr 1
  unfold wrap64
  omega
theorem set_own (W : World) (T : TypeId) (v u : Value) (m : Nat) : ((W.alloc (.cells #[v] T)).drewN m).setCell ⟨W.heap.size, 0, none⟩ u = (W.alloc (.cells #[u] T)).drewN m := by
 have h : (W.alloc (.cells #[v] T)).setCell ⟨W.heap.size, 0, none⟩ u = W.alloc (.cells #[u] T) := by go_simp
 rw [← h]; rfl
set_option maxHeartbeats 1600000 in
set_option maxRecDepth 100000 in
theorem mask_read.calls (a0 : Int) (a1 : Int) (a2 : Int) (r1 : Int) (r2 : Int) (r3 : Int) (w : World) (h : mask_read.f a0 a1 a2 = some (r1, r2, r3)) :
 Calls Tryd.prog 111 #[.int .i64 a0, .int .i64 a1, .int .i64 a2] w fun e w' => e = .returned (.agg #[.int .i64 r1, .int .i64 r2, .int .i64 r3]) ∧ Below w.heap.size w w' := by
 unfold mask_read.f at h
 by_cases hs : 0 ≤ a2 ∧ a2 ≤ 63
 ·rw [if_pos hs] at h
  obtain ⟨hs0, hs1⟩ := hs
  have H' := Azz.mk h
  clear h
  go_enter Tryd.func111, Tryd.ntmps111
  go_wp2_with (first | (go_at_call 118; refine (mask_sizes.calls _).mono ?_; rintro e w' ⟨rfl, rfl⟩) | (go_at_call 121; refine (mask_sizes1.calls _ 1 _ (by go_simp) (by go_simp) (by omega) (by omega)).mono ?_; rintro e w' ⟨rfl, rfl⟩))
  go_loopg [8, 9] 7 (fun kq v8 v9 w' => ∃ (x : Int), v8 = .int .i64 x ∧ (2 ≤ x ∧ x ≤ 128) ∧ Azz (mask_read.l0 kq a0 a1 a2 x = some (r1, r2, r3)) ∧ ∃ m : Nat, w' = ((w.alloc (Obj.cells #[Value.int IntKind.i64 0, Value.int IntKind.i64 0, Value.int IntKind.i64 0] 168)).alloc (Obj.cells #[Value.int IntKind.i64 x] 3)).drewN m)
  case atStart => exact ⟨2, rfl, by omega, H', 0, rfl⟩
  case round =>
   clear H'
   obtain ⟨x, rfl, ⟨hx0, hx1⟩, HA, m, rfl⟩ := hrel
   cases gk with
   | zero => exact absurd HA.out (by simp [mask_read.l0])
   | succ k1 =>
    have H := HA.out
    clear HA
    simp only [mask_read.l0] at H
    by_cases c1 : x ≤ 64
    ·rw [if_pos c1] at H
     have b1 : decide (x ≤ 64) = true := decide_eq_true c1
     have hE := mask_extra_some x (by omega) (by omega)
     obtain ⟨t, ht⟩ : ∃ t, (if x = 64 then 0 else 64 - 2 * x) = t := ⟨_, rfl⟩
     rw [ht] at H hE
     have HE := Azz.mk hE
     have ht0 : -64 ≤ t := by rw [← ht]; split <;> omega
     have ht1 : t ≤ 64 := by rw [← ht]; split <;> omega
     clear ht hE
     have arm : ∀ W, Calls Tryd.prog 119 #[.int .i64 x] W fun e w' => e = .returned (.int .i64 t) ∧ Drawn0 W w' := fun W => mask_extra.calls x t W HE.out
     have ARM := Azz.mk arm
     clear arm
     by_cases c2 : ((x == 64) == (a0 == 1)) = true
     ·rw [if_pos c2] at H
      by_cases c3 : a2 + 1 - t ≥ 1
      ·rw [if_pos c3] at H
       have b3 : decide (1 ≤ a2 + 1 - t) = true := decide_eq_true c3
       by_cases c4 : a2 + 1 - t < x
       ·rw [if_pos c4] at H
        have b4 : decide (a2 + 1 - t < x) = true := decide_eq_true c4
        by_cases c5 : a1 < x
        ·rw [if_pos c5] at H
         have b5 : decide (a1 < x) = true := decide_eq_true c5
         simp only [Option.some.injEq, Prod.mk.injEq] at H
         obtain ⟨rfl, rfl, rfl⟩ := H
         go_wp2_with (first | (go_at_call 119; refine (ARM.out _).mono ?_; rintro e w' ⟨rfl, ⟨nd, rfl⟩⟩))
         refine bodyPost_ret (v := .agg #[.int .i64 x, .int .i64 a1, .int .i64 (a2 + 1 - t)]) (by simp [results, Tryd.results111, go_sem]) rfl ⟨rfl, ?_⟩
         repeat (first | exact Below.refl _ _ | apply bAA | apply bNN | apply bDD | (refine bSS ?_ (by simp)))
        ·rw [if_neg c5] at H
         have b5 : decide (a1 < x) = false := decide_eq_false c5
         have H' := Azz.mk H
         clear H
         go_wp2_with (first | (go_at_call 119; refine (ARM.out _).mono ?_; rintro e w' ⟨rfl, ⟨nd, rfl⟩⟩) | (go_at_call 121; refine (mask_sizes1.calls _ x _ (by go_simp) (by go_simp) (by omega) (by omega)).mono ?_; rintro e w' ⟨rfl, rfl⟩))
         go_roundg k1
         case measure => omega
         case rel => exact ⟨x * 2, rfl, by omega, H', _, by simpa using set_own (w.alloc (Obj.cells #[Value.int IntKind.i64 0, Value.int IntKind.i64 0, Value.int IntKind.i64 0] 168)) 3 (.int .i64 x) (.int .i64 (x * 2)) _⟩
       ·rw [if_neg c4] at H
        have b4 : decide (a2 + 1 - t < x) = false := decide_eq_false c4
        have H' := Azz.mk H
        clear H
        go_wp2_with (first | (go_at_call 119; refine (ARM.out _).mono ?_; rintro e w' ⟨rfl, ⟨nd, rfl⟩⟩) | (go_at_call 121; refine (mask_sizes1.calls _ x _ (by go_simp) (by go_simp) (by omega) (by omega)).mono ?_; rintro e w' ⟨rfl, rfl⟩))
        go_roundg k1
        case measure => omega
        case rel => exact ⟨x * 2, rfl, by omega, H', _, by simpa using set_own (w.alloc (Obj.cells #[Value.int IntKind.i64 0, Value.int IntKind.i64 0, Value.int IntKind.i64 0] 168)) 3 (.int .i64 x) (.int .i64 (x * 2)) _⟩
      ·rw [if_neg c3] at H
       have b3 : decide (1 ≤ a2 + 1 - t) = false := decide_eq_false c3
       have H' := Azz.mk H
       clear H
       go_wp2_with (first | (go_at_call 119; refine (ARM.out _).mono ?_; rintro e w' ⟨rfl, ⟨nd, rfl⟩⟩) | (go_at_call 121; refine (mask_sizes1.calls _ x _ (by go_simp) (by go_simp) (by omega) (by omega)).mono ?_; rintro e w' ⟨rfl, rfl⟩))
       go_roundg k1
       case measure => omega
       case rel => exact ⟨x * 2, rfl, by omega, H', _, by simpa using set_own (w.alloc (Obj.cells #[Value.int IntKind.i64 0, Value.int IntKind.i64 0, Value.int IntKind.i64 0] 168)) 3 (.int .i64 x) (.int .i64 (x * 2)) _⟩
     ·rw [if_neg c2] at H
      replace c2 := Bool.eq_false_iff.mpr c2
      have H' := Azz.mk H
      clear H
      go_wp2_with (first | (go_at_call 119; refine (ARM.out _).mono ?_; rintro e w' ⟨rfl, ⟨nd, rfl⟩⟩) | (go_at_call 121; refine (mask_sizes1.calls _ x _ (by go_simp) (by go_simp) (by omega) (by omega)).mono ?_; rintro e w' ⟨rfl, rfl⟩))
      go_roundg k1
      case measure => omega
      case rel => exact ⟨x * 2, rfl, by omega, H', _, by simpa using set_own (w.alloc (Obj.cells #[Value.int IntKind.i64 0, Value.int IntKind.i64 0, Value.int IntKind.i64 0] 168)) 3 (.int .i64 x) (.int .i64 (x * 2)) _⟩
    ·rw [if_neg c1] at H
     have b1 : decide (x ≤ 64) = false := decide_eq_false c1
     simp only [Option.some.injEq, Prod.mk.injEq] at H
     obtain ⟨rfl, rfl, rfl⟩ := H
     go_wp2
     refine bodyPost_ret (v := .agg #[.int .i64 0, .int .i64 0, .int .i64 0]) (by simp [results, Tryd.results111, go_sem]) rfl ⟨rfl, ?_⟩
     repeat (first | exact Below.refl _ _ | apply bAA | apply bNN | apply bDD | (refine bSS ?_ (by simp)))
 ·rw [if_neg hs] at h
  exact absurd h (by simp)
def bits_Low.f (a0 : Int) (a1 : Int) : Option (Int) := if a1 ≤ 0 then (some 0) else (if a1 ≥ 64 then (some a0) else (if 0 ≤ a1 then (some (Go.bits .and .u64 a0 (IntKind.u64.wrap ((shl .u64 1 a1) - 1)))) else (none)))
set_option maxHeartbeats 8000000 in
set_option maxRecDepth 100000 in
theorem bits_Low.calls (a0 : Int) (a1 : Int) (r : Int) (w : World) (h : bits_Low.f a0 a1 = some r) :
 Calls Tryd.prog 114 #[.int .u64 a0, .int .i64 a1] w fun e w' => e = .returned (.int .u64 r) ∧ Drawn0 w w' := by
 have H : (if a1 ≤ 0 then (some 0) else (if a1 ≥ 64 then (some a0) else (if 0 ≤ a1 then (some (Go.bits .and .u64 a0 (IntKind.u64.wrap ((shl .u64 1 a1) - 1)))) else (none)))) = some r := h
 clear h
 by_cases c3 : a1 ≤ 0
 ·rw [if_pos c3] at H
  have c3b0 := decide_eq_true c3
  clear c3
  obtain rfl := Option.some.inj H
  go_enter Tryd.func114, Tryd.ntmps114
  go_wp2
  go_ret
  exact ⟨by first | rfl | (simp; done) | (simp [*]; done), by repeat (first | exact Drawn0.refl _ | apply Drawn0.step)⟩
 ·rw [if_neg c3] at H
  have c3b0 := decide_eq_false c3
  clear c3
  by_cases c4 : a1 ≥ 64
  ·rw [if_pos c4] at H
   have c4b0 := decide_eq_true c4
   clear c4
   obtain rfl := Option.some.inj H
   go_enter Tryd.func114, Tryd.ntmps114
   go_wp2
   go_ret
   exact ⟨by first | rfl | (simp; done) | (simp [*]; done), by repeat (first | exact Drawn0.refl _ | apply Drawn0.step)⟩
  ·rw [if_neg c4] at H
   have c4b0 := decide_eq_false c4
   clear c4
   by_cases c5 : 0 ≤ a1
   ·rw [if_pos c5] at H
    have c5b0 := eq_true c5
    have c5b1 := decide_eq_true c5
    clear c5
    obtain ⟨ji6, hji6⟩ : ∃ j_ : Int, (shl .u64 1 a1) = j_ := ⟨_, rfl⟩
    replace H : (some (Go.bits .and .u64 a0 (IntKind.u64.wrap ((ji6) - 1)))) = some r := by first | (rw [hji6] at H; exact H) | (simp only [hji6] at H ⊢; exact H)
    have hji6_ : (IntKind.u64.wrap (1 * 2 ^ min a1.toNat 64)) = ji6 := hji6
    have hji6z : a1 ≤ 64 → (IntKind.u64.wrap (1 * 2 ^ a1.toNat)) = ji6 := shl_small hji6
    have hji6u : (IntKind.u64.wrap (2 ^ min a1.toNat 64)) = ji6 := by have h_ := hji6_; rw [Int.one_mul] at h_; exact h_
    have hji6v : a1 ≤ 64 → (IntKind.u64.wrap (2 ^ a1.toNat)) = ji6 := fun hle_ => by have h_ := hji6z hle_; rw [Int.one_mul] at h_; exact h_
    obtain rfl := Option.some.inj H
    go_enter Tryd.func114, Tryd.ntmps114
    go_wp2
    go_ret
    exact ⟨by first | rfl | (simp; done) | (simp only [← hji6] <;> (first | rfl | simp)) | (simp [*]; done), by repeat (first | exact Drawn0.refl _ | apply Drawn0.step)⟩
   ·rw [if_neg c5] at H
    exact absurd H (by simp)
end Go.Proofs.YtngmipfodjgmmaaDoor.P
