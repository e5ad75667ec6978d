/- Walks and plain laws of this claim, a part. -/
import Derived.Test.YtpcdebakiccecaaGreatDoorPs30
import Derived.Test.YtpcdebakiccecaaGreatDoorPs28
import Derived.Test.YtpcdebakiccecaaGreatDoorPs31
namespace Go.Proofs.YtpcdebakiccecaaGreatDoor.P
open Go.RowKit Go.Proofs.YtpcdebakiccecaaGreatDoorW.PrintWords Go.Proofs.YtpcdebakiccecaaGreatDoorW.PrintLast Go.Proofs.YtpcdebakiccecaaGreatDoorW.PrintMore
attribute [local go_sem] max2_int min2_int max_two min_two max_three min_three max_four min_four   -- for this text's walks alone
set_option linter.unusedVariables false
set_option linter.unusedSimpArgs false
attribute [local go_sem high] eqA118
def code_Opcode.l0 : Nat → Int → Int → Option Int
 | 0, _, _ => none
 | k + 1, x0, x3 => if x3 ≤ 39 then (if Go.bits .andNot .u32 x0 (rd fieldsL (rd shapesL x3)) = rd basesL x3 then some x3 else code_Opcode.l0 k x0 (x3 + 1)) else some 0
def code_Opcode.f (a0 : Int) : Option Int := code_Opcode.l0 40 a0 1
theorem shapesL_in (i : Nat) : 0 ≤ shapesL.getD i 0 ∧ shapesL.getD i 0 < 17 := by
 rcases Nat.lt_or_ge i 40 with h | h
 ·exact (by decide : ∀ i : Nat, i < 40 → 0 ≤ shapesL.getD i 0 ∧ shapesL.getD i 0 < 17) i h
 ·rw [List.getD_eq_getElem?_getD, List.getElem?_eq_none (by simpa [shapesL] using h)]; decide
set_option maxHeartbeats 1600000 in
set_option maxRecDepth 100000 in
theorem code_Opcode.calls (a0 : Int) (r : Int) (w : World) (hG : Glob w) (h : code_Opcode.f a0 = some r) :
 Calls Tryz.prog 77 #[.int .u32 a0] w fun e w' => e = .returned (.int .i64 r) ∧ Drawn0 w w' := by
 have H : code_Opcode.l0 40 a0 1 = some r := h
 clear h
 have H' := Azz.mk H
 clear H
 go_enter Tryz.func77, Tryz.ntmps77
 go_wp2
 go_loopg [3] 40 (fun kq v3 w' => ∃ (x3 : Int), v3 = .int .i64 x3 ∧ (1 ≤ x3 ∧ x3 ≤ 40) ∧ Azz (code_Opcode.l0 kq a0 x3 = some r) ∧ Azz (kq ≤ 40) ∧ Drawn0 w w')
 case atStart => exact ⟨1, rfl, by omega, H', ⟨Nat.le_refl _⟩, Drawn0.refl _⟩
 case round =>
  clear H'
  obtain ⟨x3, rfl, ⟨hx0, hx1⟩, HA, HK, ⟨m1, rfl⟩⟩ := hrel
  cases gk with
  | zero => exact absurd HA.out (by simp [code_Opcode.l0])
  | succ k1 =>
   have H := HA.out
   clear HA
   simp only [code_Opcode.l0] at H
   by_cases c1 : x3 ≤ 39
   ·rw [if_pos c1] at H
    have b1 : decide (x3 ≤ 39) = true := decide_eq_true c1
    have hS : inst_Shape.f x3 = some (rd shapesL x3) := by unfold inst_Shape.f; rw [if_neg (by omega), if_neg (by omega)]
    have hc1 : ∀ n, (w.drewN n).cell? ⟨0, x3.toNat, none⟩ = some (.int .u32 (rd basesL x3)) := fun n => hG.bases x3.toNat (by omega)
    have hs := shapesL_in x3.toNat
    obtain ⟨s, hs'⟩ : ∃ s, rd shapesL x3 = s := ⟨_, rfl⟩
    rw [show shapesL.getD x3.toNat 0 = rd shapesL x3 from rfl, hs'] at hs
    rw [hs'] at hS H
    clear hs'
    have HS := Azz.mk hS
    clear hS
    obtain ⟨hs0, hs1⟩ := hs
    have hc2 : ∀ n, (w.drewN n).cell? ⟨4, s.toNat, none⟩ = some (.int .u32 (rd fieldsL s)) := fun n => hG.fields s.toNat (by omega)
    obtain ⟨bb, hbb⟩ : ∃ b, rd basesL x3 = b := ⟨_, rfl⟩
    obtain ⟨ff, hff⟩ : ∃ f, rd fieldsL s = f := ⟨_, rfl⟩
    rw [hbb] at H hc1
    rw [hff] at H hc2
    clear hbb hff
    have hc1' := hc1 0
    have hc2' := hc2 0
    simp only [World.cell?_drewN] at hc1' hc2'
    clear hc1 hc2
    by_cases c2 : Go.bits .andNot .u32 a0 ff = bb
    ·rw [if_pos c2] at H
     have b2 : (Go.bits .andNot .u32 a0 ff == bb) = true := beq_iff_eq.mpr c2
     clear c2
     obtain rfl := Option.some.inj H
     clear H
     go_wp2
     repeat (go_quiet ((go_at_call 40; (with_reducible refine (inst_Shape.calls x3 s _ (hG.drewN) HS.out).mono ?_); rintro e w' ⟨rfl, ⟨nd, rfl⟩⟩; (try first | exact ⟨rfl, _, World.drewN_drewN _ _ _⟩ | exact ⟨rfl, _, Eq.trans (World.drewN_drewN _ _ _) (congrArg (World.drewN _) (Nat.add_assoc _ _ _))⟩))); try go_wp2)
     go_ret
     exact ⟨rfl, by repeat (first | exact Drawn0.refl _ | apply Drawn0.step)⟩
    ·rw [if_neg c2] at H
     have b2 : (Go.bits .andNot .u32 a0 ff == bb) = false := beq_eq_false_iff_ne.mpr c2
     clear c2
     have H' := Azz.mk H
     clear H
     go_wp2
     repeat (go_quiet ((go_at_call 40; (with_reducible refine (inst_Shape.calls x3 s _ (hG.drewN) HS.out).mono ?_); rintro e w' ⟨rfl, ⟨nd, rfl⟩⟩; (try first | exact ⟨rfl, _, World.drewN_drewN _ _ _⟩ | exact ⟨rfl, _, Eq.trans (World.drewN_drewN _ _ _) (congrArg (World.drewN _) (Nat.add_assoc _ _ _))⟩))); try go_wp2)
     go_roundg k1
     case measure => have := HK.out; omega
     case rel => exact ⟨x3 + 1, rfl, by omega, H', ⟨by have := HK.out; omega⟩, by repeat (first | exact Drawn0.refl _ | apply Drawn0.step)⟩
   ·rw [if_neg c1] at H
    have b1 : decide (x3 ≤ 39) = false := decide_eq_false c1
    obtain rfl := Option.some.inj H
    clear H
    go_wp2
    go_ret
    exact ⟨rfl, by repeat (first | exact Drawn0.refl _ | apply Drawn0.step)⟩
def bits_right.f (a0 : Int) (a1 : Int) : Option (Bool) := if a0 ≥ 0 then (if a1 ≥ 1 then (if a1 ≤ 32 then (some (decide (a0 ≤ (wrap64 (32 - a1))))) else (some false)) else (some false)) else (some false)
set_option maxHeartbeats 8000000 in
set_option maxRecDepth 100000 in
theorem bits_right.calls (a0 : Int) (a1 : Int) (r : Bool) (w : World) (h : bits_right.f a0 a1 = some r) :
 Calls Tryz.prog 76 #[.int .i64 a0, .int .i64 a1] w fun e w' => e = .returned (.bool r) ∧ Drawn0 w w' := by
 have H : (if a0 ≥ 0 then (if a1 ≥ 1 then (if a1 ≤ 32 then (some (decide (a0 ≤ (wrap64 (32 - a1))))) else (some false)) else (some false)) else (some false)) = some r := h
 clear h
 by_cases c3 : a0 ≥ 0
 ·rw [if_pos c3] at H
  have c3b0 := decide_eq_true c3
  clear c3
  by_cases c4 : a1 ≥ 1
  ·rw [if_pos c4] at H
   have c4b0 := decide_eq_true c4
   clear c4
   by_cases c5 : a1 ≤ 32
   ·rw [if_pos c5] at H
    have c5b0 := decide_eq_true c5
    clear c5
    obtain rfl := Option.some.inj H
    go_enter Tryz.func76, Tryz.ntmps76
    go_wp2
    go_ret
    exact ⟨by first | rfl | (simp; done) | (simp [*]; done), by repeat (first | exact Drawn0.refl _ | apply Drawn0.step)⟩
   ·rw [if_neg c5] at H
    have c5b0 := decide_eq_false c5
    clear c5
    obtain rfl := Option.some.inj H
    go_enter Tryz.func76, Tryz.ntmps76
    go_wp2
    go_ret
    exact ⟨by first | rfl | (simp; done) | (simp [*]; done), by repeat (first | exact Drawn0.refl _ | apply Drawn0.step)⟩
  ·rw [if_neg c4] at H
   have c4b0 := decide_eq_false c4
   clear c4
   obtain rfl := Option.some.inj H
   go_enter Tryz.func76, Tryz.ntmps76
   go_wp2
   go_ret
   exact ⟨by first | rfl | (simp; done) | (simp [*]; done), by repeat (first | exact Drawn0.refl _ | apply Drawn0.step)⟩
 ·rw [if_neg c3] at H
  have c3b0 := decide_eq_false c3
  clear c3
  obtain rfl := Option.some.inj H
  go_enter Tryz.func76, Tryz.ntmps76
  go_wp2
  go_ret
  exact ⟨by first | rfl | (simp; done) | (simp [*]; done), by repeat (first | exact Drawn0.refl _ | apply Drawn0.step)⟩
def bits_Field.f (a0 : Int) (a1 : Int) (a2 : Int) : Option (Int × Int) := (bits_right.f a1 a2).bind fun t184 => (if t184 = true then (if 0 ≤ a1 then (if 0 ≤ a2 then (some (Go.bits .and .u32 (shr .u32 a0 a1) (((shl .u32 1 a2) - 1) % 4294967296), 0)) else (none)) else (none)) else (some (0, 1)))
set_option maxHeartbeats 8000000 in
set_option maxRecDepth 100000 in
theorem bits_Field.calls (a0 : Int) (a1 : Int) (a2 : Int) (r1 : Int) (r2 : Int) (w : World) (h : bits_Field.f a0 a1 a2 = some (r1, r2)) :
 Calls Tryz.prog 52 #[.int .u32 a0, .int .i64 a1, .int .i64 a2] w fun e w' => e = .returned (.tuple #[.int .u32 r1, .int .i64 r2]) ∧ Drawn0 w w' := by
 have H : ((bits_right.f a1 a2).bind fun t184 => (if t184 = true then (if 0 ≤ a1 then (if 0 ≤ a2 then (some (Go.bits .and .u32 (shr .u32 a0 a1) (((shl .u32 1 a2) - 1) % 4294967296), 0)) else (none)) else (none)) else (some (0, 1)))) = some (r1, r2) := h
 clear h
 replace H := Option.bind_eq_some_iff.mp H
 obtain ⟨t184, A40, H⟩ := H
 (try dsimp only at H)
 have A4 := Azz.mk A40
 clear A40
 by_cases c5 : t184 = true
 ·subst c5
  rw [if_pos rfl] at H
  by_cases c6 : 0 ≤ a1
  ·rw [if_pos c6] at H
   have c6b0 := eq_true c6
   have c6b1 := decide_eq_true c6
   clear c6
   obtain ⟨ji7, hji7⟩ : ∃ j_ : Int, (shr .u32 a0 a1) = j_ := ⟨_, rfl⟩
   replace H : (if 0 ≤ a2 then (some (Go.bits .and .u32 (ji7) (((shl .u32 1 a2) - 1) % 4294967296), 0)) else (none)) = some (r1, r2) := by first | (rw [hji7] at H; exact H) | (simp only [hji7] at H ⊢; exact H)
   (try rw [hji7] at A4)
   have hji7_ : (a0 / 2 ^ min a1.toNat 32) = ji7 := hji7
   have hji7z : a1 ≤ 32 → (a0 / 2 ^ a1.toNat) = ji7 := shr_small hji7
   by_cases c8 : 0 ≤ a2
   ·rw [if_pos c8] at H
    have c8b0 := eq_true c8
    have c8b1 := decide_eq_true c8
    clear c8
    obtain ⟨ji9, hji9⟩ : ∃ j_ : Int, (shl .u32 1 a2) = j_ := ⟨_, rfl⟩
    replace H : (some (Go.bits .and .u32 (ji7) (((ji9) - 1) % 4294967296), 0)) = some (r1, r2) := by first | (rw [hji9] at H; exact H) | (simp only [hji9] at H ⊢; exact H)
    (try rw [hji9] at A4)
    have hji9_ : (IntKind.u32.wrap (1 * 2 ^ min a2.toNat 32)) = ji9 := hji9
    have hji9z : a2 ≤ 32 → (IntKind.u32.wrap (1 * 2 ^ a2.toNat)) = ji9 := shl_small hji9
    have hji9u : (IntKind.u32.wrap (2 ^ min a2.toNat 32)) = ji9 := by have h_ := hji9_; rw [Int.one_mul] at h_; exact h_
    have hji9v : a2 ≤ 32 → (IntKind.u32.wrap (2 ^ a2.toNat)) = ji9 := fun hle_ => by have h_ := hji9z hle_; rw [Int.one_mul] at h_; exact h_
    simp only [Option.some.injEq, Prod.mk.injEq] at H
    obtain ⟨rfl, rfl⟩ := H
    go_enter Tryz.func52, Tryz.ntmps52
    go_wp2_with (first | (go_at_call 76; (with_reducible refine (bits_right.calls a1 a2 true _ A4.out).mono ?_); rintro e w' ⟨rfl, ⟨nd, rfl⟩⟩; (try first | exact ⟨rfl, _, World.drewN_drewN _ _ _⟩ | exact ⟨rfl, _, Eq.trans (World.drewN_drewN _ _ _) (congrArg (World.drewN _) (Nat.add_assoc _ _ _))⟩)))
    repeat (go_quiet (first | (go_at_call 76; (with_reducible refine (bits_right.calls a1 a2 true _ A4.out).mono ?_); rintro e w' ⟨rfl, ⟨nd, rfl⟩⟩; (try first | exact ⟨rfl, _, World.drewN_drewN _ _ _⟩ | exact ⟨rfl, _, Eq.trans (World.drewN_drewN _ _ _) (congrArg (World.drewN _) (Nat.add_assoc _ _ _))⟩))); try go_wp2_with (first | (go_at_call 76; (with_reducible refine (bits_right.calls a1 a2 true _ A4.out).mono ?_); rintro e w' ⟨rfl, ⟨nd, rfl⟩⟩; (try first | exact ⟨rfl, _, World.drewN_drewN _ _ _⟩ | exact ⟨rfl, _, Eq.trans (World.drewN_drewN _ _ _) (congrArg (World.drewN _) (Nat.add_assoc _ _ _))⟩))))
    go_ret2
    exact ⟨by first | rfl | (simp; done) | (simp only [← hji7, ← hji9] <;> (first | rfl | simp)) | (simp [*]; done), by repeat (first | exact Drawn0.refl _ | apply Drawn0.step)⟩
   ·rw [if_neg c8] at H
    exact absurd H (by simp)
  ·rw [if_neg c6] at H
   exact absurd H (by simp)
 ·replace c5 := Bool.eq_false_iff.mpr c5
  subst c5
  rw [if_neg (show ¬ (false = true) by decide)] at H
  simp only [Option.some.injEq, Prod.mk.injEq] at H
  obtain ⟨rfl, rfl⟩ := H
  go_enter Tryz.func52, Tryz.ntmps52
  go_wp2_with (first | (go_at_call 76; (with_reducible refine (bits_right.calls a1 a2 false _ A4.out).mono ?_); rintro e w' ⟨rfl, ⟨nd, rfl⟩⟩; (try first | exact ⟨rfl, _, World.drewN_drewN _ _ _⟩ | exact ⟨rfl, _, Eq.trans (World.drewN_drewN _ _ _) (congrArg (World.drewN _) (Nat.add_assoc _ _ _))⟩)))
  repeat (go_quiet (first | (go_at_call 76; (with_reducible refine (bits_right.calls a1 a2 false _ A4.out).mono ?_); rintro e w' ⟨rfl, ⟨nd, rfl⟩⟩; (try first | exact ⟨rfl, _, World.drewN_drewN _ _ _⟩ | exact ⟨rfl, _, Eq.trans (World.drewN_drewN _ _ _) (congrArg (World.drewN _) (Nat.add_assoc _ _ _))⟩))); try go_wp2_with (first | (go_at_call 76; (with_reducible refine (bits_right.calls a1 a2 false _ A4.out).mono ?_); rintro e w' ⟨rfl, ⟨nd, rfl⟩⟩; (try first | exact ⟨rfl, _, World.drewN_drewN _ _ _⟩ | exact ⟨rfl, _, Eq.trans (World.drewN_drewN _ _ _) (congrArg (World.drewN _) (Nat.add_assoc _ _ _))⟩))))
  go_ret2
  exact ⟨by first | rfl | (simp; done) | (simp [*]; done), by repeat (first | exact Drawn0.refl _ | apply Drawn0.step)⟩
def code_part.f (a0 : Int) (a1 : Int) (a2 : Int) : Option (Int) := (bits_Field.f a0 a1 a2).bind fun bt185 => (some (wrap64 (bt185.1)))
set_option maxHeartbeats 8000000 in
set_option maxRecDepth 100000 in
theorem code_part.calls (a0 : Int) (a1 : Int) (a2 : Int) (r : Int) (w : World) (h : code_part.f a0 a1 a2 = some r) :
 Calls Tryz.prog 78 #[.int .u32 a0, .int .i64 a1, .int .i64 a2] w fun e w' => e = .returned (.int .i64 r) ∧ Drawn0 w w' := by
 have H : ((bits_Field.f a0 a1 a2).bind fun bt185 => (some (wrap64 (bt185.1)))) = some r := h
 clear h
 replace H := Option.bind_eq_some_iff.mp H
 obtain ⟨⟨t185, t186⟩, A40, H⟩ := H
 (try dsimp only at H)
 have A4 := Azz.mk A40
 clear A40
 obtain rfl := Option.some.inj H
 go_enter Tryz.func78, Tryz.ntmps78
 go_wp2_with (first | ((with_reducible refine gate_callee (f := 52) rfl ?_); refine goesL_ (some 13) rfl rfl Tryz.func52 (by kernel_rfl) rfl #[.int .u32 a0, .int .i64 a1, .int .i64 a2] rfl (by (try simp only [List.map_toArray, List.map_cons, List.map_nil]); first | done | rfl | (simp only [List.length_drop, List.length_take]; rfl)) ?_; (with_reducible refine (bits_Field.calls a0 a1 a2 t185 t186 _ A4.out).mono ?_); rintro e w' ⟨rfl, ⟨nd, rfl⟩⟩; refine ⟨_, rfl, ?_⟩))
 go_ret
 exact ⟨by first | rfl | (simp; done) | (simp [*]; done), by repeat (first | exact Drawn0.refl _ | apply Drawn0.step)⟩
mutual
def mask_Decode.j0 : Nat → Int → Int → Int → Bool → Option (Int × Int)
 | 0, _, _, _, _ => none
 | k + 1, x0, x1, x2, x33 => if x33 = true then (some (0, 1)) else ((mask_read.f x0 x1 x2).bind fun bt187 => (if (bt187.1 == 0 && (bt187.2.1 == 0 && (bt187.2.2 == 0))) = true then (some (0, 3)) else ((mask_part.f k bt187.1 bt187.2.1 bt187.2.2).bind fun t191 => (mask_Decode.l0 k t191 0 0 bt187.1 bt187.2.1 bt187.2.2))))
def mask_Decode.l0 : Nat → Int → Int → Int → Int → Int → Int → Option (Int × Int)
 | 0, _, _, _, _, _, _ => none
 | k + 1, x9, x10, x11, x191000, x191001, x191002 => if x11 < 64 then (if 0 ≤ x11 then (mask_Decode.l0 k x9 (Go.bits .or .u64 x10 (shl .u64 x9 x11)) (wrap64 (x11 + x191000)) x191000 x191001 x191002) else (none)) else (some (x10, 0))
end
def mask_Decode.f (k : Nat) (a0 : Int) (a1 : Int) (a2 : Int) : Option (Int × Int) := if a0 < 0 then (mask_Decode.j0 k a0 a1 a2 true) else (if a0 > 1 then (mask_Decode.j0 k a0 a1 a2 true) else (if a1 < 0 then (mask_Decode.j0 k a0 a1 a2 true) else (if a1 > 63 then (mask_Decode.j0 k a0 a1 a2 true) else (if a2 < 0 then (mask_Decode.j0 k a0 a1 a2 true) else (mask_Decode.j0 k a0 a1 a2 (decide (a2 > 63)))))))
theorem mask_Decode.mono_l : ∀ k, (∀ y0 y1 y2 y3, LeO (mask_Decode.j0 k y0 y1 y2 y3) (mask_Decode.j0 (k + 1) y0 y1 y2 y3)) ∧ (∀ y0 y1 y2 y3 y4 y5, LeO (mask_Decode.l0 k y0 y1 y2 y3 y4 y5) (mask_Decode.l0 (k + 1) y0 y1 y2 y3 y4 y5))
 | 0 => ⟨fun _ _ _ _ r h => by simp [mask_Decode.j0] at h, fun _ _ _ _ _ _ r h => by simp [mask_Decode.l0] at h⟩
 | k + 1 => by
  obtain ⟨ih0, ih1⟩ := mask_Decode.mono_l k
  refine ⟨?_, ?_⟩
  ·intro y0 y1 y2 y3
   unfold mask_Decode.j0
   repeat' first
   | (with_reducible exact ih0 _ _ _ _)
   | (with_reducible exact ih1 _ _ _ _ _ _)
   | (with_reducible exact mask_part.mono _ _ _ _)
   | (with_reducible exact LeO.refl _)
   | (with_reducible exact LeO.none _)
   | (with_reducible refine LeO.ite ?_ ?_)
   | (with_reducible refine LeO.bind ?_ (fun _ => ?_))
  ·intro y0 y1 y2 y3 y4 y5
   unfold mask_Decode.l0
   repeat' first
   | (with_reducible exact ih0 _ _ _ _)
   | (with_reducible exact ih1 _ _ _ _ _ _)
   | (with_reducible exact mask_part.mono _ _ _ _)
   | (with_reducible exact LeO.refl _)
   | (with_reducible exact LeO.none _)
   | (with_reducible refine LeO.ite ?_ ?_)
   | (with_reducible refine LeO.bind ?_ (fun _ => ?_))
theorem mask_Decode.mono : ∀ a0 a1 a2 k, LeO (mask_Decode.f k a0 a1 a2) (mask_Decode.f (k + 1) a0 a1 a2) := by
 intro a0 a1 a2 k
 obtain ⟨ih0, ih1⟩ := mask_Decode.mono_l k
 unfold mask_Decode.f
 repeat' first
  | (with_reducible exact ih0 _ _ _ _)
  | (with_reducible exact ih1 _ _ _ _ _ _)
  | (with_reducible exact mask_part.mono _ _ _ _)
  | (with_reducible exact LeO.refl _)
  | (with_reducible exact LeO.none _)
  | (with_reducible refine LeO.ite ?_ ?_)
  | (with_reducible refine LeO.bind ?_ (fun _ => ?_))
set_option maxHeartbeats 8000000 in
set_option maxRecDepth 100000 in
theorem mask_Decode.calls (k : Nat) (a0 : Int) (a1 : Int) (a2 : Int) (r1 : Int) (r2 : Int) (w : World) (h : mask_Decode.f k a0 a1 a2 = some (r1, r2)) :
 Calls Tryz.prog 93 #[.int .i64 a0, .int .i64 a1, .int .i64 a2] w fun e w' => e = .returned (.tuple #[.int .u64 r1, .int .i64 r2]) ∧ Below w.heap.size w w' := by
 have hu118 := Tryz.underlying118
 have HB := Azz.mk (Below.refl w.heap.size w)
 have H : (if a0 < 0 then (mask_Decode.j0 k a0 a1 a2 true) else (if a0 > 1 then (mask_Decode.j0 k a0 a1 a2 true) else (if a1 < 0 then (mask_Decode.j0 k a0 a1 a2 true) else (if a1 > 63 then (mask_Decode.j0 k a0 a1 a2 true) else (if a2 < 0 then (mask_Decode.j0 k a0 a1 a2 true) else (mask_Decode.j0 k a0 a1 a2 (decide (a2 > 63)))))))) = some (r1, r2) := h
 clear h
 have HC4 := Azz.mk H
 clear H
 go_enter Tryz.func93, Tryz.ntmps93
 go_upto_region 1 with (fail)
 go_cut [33] (fun v33 wc => ∃ (kq : Nat) (x33_3 : Bool), v33 = .bool x33_3 ∧ Azz (mask_Decode.j0 kq a0 a1 a2 x33_3 = some (r1, r2)) ∧ Azz (kq ≤ k) ∧ Azz (Below w.heap.size w wc))
 case first =>
  have H := HC4.out
  clear HC4
  by_cases c5 : a0 < 0
  ·rw [if_pos c5] at H
   have c5b0 := decide_eq_true c5
   clear c5
   (first | rw [c5b0] | (simp only [i64_w, i32_w]; rw [c5b0]) | skip)
   have H' := Azz.mk H
   clear H
   go_wp2
   go_meet
   case rel => exact ⟨_, (true), (by first | rfl | (simp; done) | (simp [*]; done)), H', ⟨by first | omega | exact Nat.le_refl _⟩, ⟨by repeat (first | (with_reducible first | exact HB.out | apply bAA | apply bNN | apply bDD) | exact HB.out)⟩⟩
  ·rw [if_neg c5] at H
   have c5b0 := decide_eq_false c5
   clear c5
   (first | rw [c5b0] | (simp only [i64_w, i32_w]; rw [c5b0]) | skip)
   by_cases c6 : a0 > 1
   ·rw [if_pos c6] at H
    have c6b0 := decide_eq_true c6
    clear c6
    have H' := Azz.mk H
    clear H
    go_wp2
    go_meet
    case rel => exact ⟨_, (true), (by first | rfl | (simp; done) | (simp [*]; done)), H', ⟨by first | omega | exact Nat.le_refl _⟩, ⟨by repeat (first | (with_reducible first | exact HB.out | apply bAA | apply bNN | apply bDD) | exact HB.out)⟩⟩
   ·rw [if_neg c6] at H
    have c6b0 := decide_eq_false c6
    clear c6
    by_cases c7 : a1 < 0
    ·rw [if_pos c7] at H
     have c7b0 := decide_eq_true c7
     clear c7
     have H' := Azz.mk H
     clear H
     go_wp2
     go_meet
     case rel => exact ⟨_, (true), (by first | rfl | (simp; done) | (simp [*]; done)), H', ⟨by first | omega | exact Nat.le_refl _⟩, ⟨by repeat (first | (with_reducible first | exact HB.out | apply bAA | apply bNN | apply bDD) | exact HB.out)⟩⟩
    ·rw [if_neg c7] at H
     have c7b0 := decide_eq_false c7
     clear c7
     by_cases c8 : a1 > 63
     ·rw [if_pos c8] at H
      have c8b0 := decide_eq_true c8
      clear c8
      have H' := Azz.mk H
      clear H
      go_wp2
      go_meet
      case rel => exact ⟨_, (true), (by first | rfl | (simp; done) | (simp [*]; done)), H', ⟨by first | omega | exact Nat.le_refl _⟩, ⟨by repeat (first | (with_reducible first | exact HB.out | apply bAA | apply bNN | apply bDD) | exact HB.out)⟩⟩
     ·rw [if_neg c8] at H
      have c8b0 := decide_eq_false c8
      clear c8
      by_cases c9 : a2 < 0
      ·rw [if_pos c9] at H
       have c9b0 := decide_eq_true c9
       clear c9
       have H' := Azz.mk H
       clear H
       go_wp2
       go_meet
       case rel => exact ⟨_, (true), (by first | rfl | (simp; done) | (simp [*]; done)), H', ⟨by first | omega | exact Nat.le_refl _⟩, ⟨by repeat (first | (with_reducible first | exact HB.out | apply bAA | apply bNN | apply bDD) | exact HB.out)⟩⟩
      ·rw [if_neg c9] at H
       have c9b0 := decide_eq_false c9
       clear c9
       have H' := Azz.mk H
       clear H
       go_wp2
       go_meet
       case rel => exact ⟨_, (decide (a2 > 63)), (by first | rfl | (simp; done) | (simp [*]; done)), H', ⟨by first | omega | exact Nat.le_refl _⟩, ⟨by repeat (first | (with_reducible first | exact HB.out | apply bAA | apply bNN | apply bDD) | exact HB.out)⟩⟩
 case rest =>
  clear HC4
  try clear p2
  try clear c5
  try clear c5b0
  try clear c6
  try clear c6b0
  try clear c7
  try clear c7b0
  try clear c8
  try clear c8b0
  try clear c9
  try clear c9b0
  obtain ⟨kq, x33_3, rfl, HA, HJ3, HB⟩ := hcut
  cases kq with
  | zero => exact absurd HA.out (by simp [mask_Decode.j0])
  | succ kj3 =>
   have H := HA.out
   clear HA
   simp only [mask_Decode.j0] at H
   by_cases c10 : x33_3 = true
   ·subst c10
    rw [if_pos rfl] at H
    simp only [Option.some.injEq, Prod.mk.injEq] at H
    obtain ⟨rfl, rfl⟩ := H
    go_wp2
    go_ret2
    exact ⟨by first | rfl | (simp [eNN, eSS] <;> rfl) | (simp [*, eNN, eSS] <;> rfl), by repeat (first | (with_reducible first | exact HB.out | apply bAA | apply bNN | apply bDD) | exact HB.out)⟩
   ·replace c10 := Bool.eq_false_iff.mpr c10
    subst c10
    rw [if_neg (show ¬ (false = true) by decide)] at H
    replace H := Option.bind_eq_some_iff.mp H
    obtain ⟨⟨t187, t188, t189⟩, A110, H⟩ := H
    (try dsimp only at H)
    have A11 := Azz.mk A110
    clear A110
    by_cases c12 : (t187 == 0 && (t188 == 0 && (t189 == 0))) = true
    ·rw [if_pos c12] at H
     have c12b0 : (t187 == 0 && (t188 == 0 && (t189 == 0))) = true := c12
     (try (have c12b1 : decide (t187 = 0 && (t188 == 0 && (t189 == 0))) = true := by simpa using c12))
     (try (have c12b2 : (t187 == 0 && (t188 == 0 && (t189 == 0))) = true := by simpa using c12))
     clear c12
     simp only [Option.some.injEq, Prod.mk.injEq] at H
     obtain ⟨rfl, rfl⟩ := H
     go_wp2_with (first | ((with_reducible refine gate_callee (f := 106) rfl ?_); refine goesL_ (some 37) rfl rfl Tryz.func106 (by kernel_rfl) rfl #[.int .i64 a0, .int .i64 a1, .int .i64 a2] rfl (by (try simp only [List.map_toArray, List.map_cons, List.map_nil]); first | done | rfl | (simp only [List.length_drop, List.length_take]; rfl)) ?_; (with_reducible refine (mask_read.calls a0 a1 a2 t187 t188 t189 _ A11.out).mono ?_); rintro e w13 ⟨rfl, hb⟩; refine ⟨_, rfl, ?_⟩; have n0_ := Azz.mk (bTT (by with_reducible repeat first | exact HB.out | apply bAA | apply bNN | apply bDD) hb); clear HB; have HB := n0_; clear n0_; (try clear hb); (try clear hb2); (try clear hk); (try clear hi)) | ((with_reducible refine gate_dst (N := 8) rfl ?_); refine box_event ?hg (N := 8) ?hd (cs := #[.int .i64 0, .int .i64 0, .int .i64 0]) (t := 118) ?hr ?_; (case hd => rfl); (case hg => rfl); (case hr => first | (go_simp; done) | (go_simp; rfl)); intro gb190 hg w14 hbox hb; have n0_ := Azz.mk (bTT (by with_reducible repeat first | exact HB.out | apply bAA | apply bNN | apply bDD) hb); have n1_ := Azz.mk (hbox); have n2_ := Azz.mk ((by rw [hg]; exact (bZZ (by with_reducible repeat first | exact HB.out | apply bAA | apply bNN | apply bDD)) : w.heap.size ≤ gb190)); have n3_ := Azz.mk ((by rw [hg]; exact (bZZ (by with_reducible repeat first | exact HB.out | apply bAA | apply bNN | apply bDD)) : w.heap.size ≤ gb190)); clear HB; have HB := n0_; have BK190 := n1_; have GW190 := n2_; have GE190 := n3_; clear n0_ n1_ n2_ n3_; clear hb hbox hg; obtain ⟨hcz15_0, hcz15_1, hcz15_2, hfz15_0, hfz15_1, hfz15_2⟩ := cel3 BK190.out))
     go_ret2
     exact ⟨by first | rfl | (simp [eNN, eSS] <;> rfl) | (simp [*, eNN, eSS] <;> rfl), by repeat (first | (with_reducible first | exact HB.out | apply bAA | apply bNN | apply bDD | refine bSS ?_ GE190.out) | exact HB.out)⟩
    ·rw [if_neg c12] at H
     have c12b0 : (t187 == 0 && (t188 == 0 && (t189 == 0))) = false := by simpa using c12
     (try (have c12b1 : decide (t187 = 0 && (t188 == 0 && (t189 == 0))) = false := by simpa using c12))
     (try (have c12b2 : (t187 == 0 && (t188 == 0 && (t189 == 0))) = false := by simpa using c12))
     (try (have c12b3 : ¬ (t187 = 0 && (t188 == 0 && (t189 == 0))) := by simpa using c12))
     clear c12
     replace H := Option.bind_eq_some_iff.mp H
     obtain ⟨t191, A160, H⟩ := H
     (try dsimp only at H)
     have A16 := Azz.mk A160
     clear A160
     have H' := Azz.mk H
     clear H
     go_wp2_with (first | ((with_reducible refine gate_callee (f := 106) rfl ?_); refine goesL_ (some 37) rfl rfl Tryz.func106 (by kernel_rfl) rfl #[.int .i64 a0, .int .i64 a1, .int .i64 a2] rfl (by (try simp only [List.map_toArray, List.map_cons, List.map_nil]); first | done | rfl | (simp only [List.length_drop, List.length_take]; rfl)) ?_; (with_reducible refine (mask_read.calls a0 a1 a2 t187 t188 t189 _ A11.out).mono ?_); rintro e w17 ⟨rfl, hb⟩; refine ⟨_, rfl, ?_⟩; have n0_ := Azz.mk (bTT (by with_reducible repeat first | exact HB.out | apply bAA | apply bNN | apply bDD) hb); clear HB; have HB := n0_; clear n0_; (try clear hb); (try clear hb2); (try clear hk); (try clear hi)) | ((with_reducible refine gate_dst (N := 8) rfl ?_); refine box_event ?hg (N := 8) ?hd (cs := #[.int .i64 0, .int .i64 0, .int .i64 0]) (t := 118) ?hr ?_; (case hd => rfl); (case hg => rfl); (case hr => first | (go_simp; done) | (go_simp; rfl)); intro gb190 hg w18 hbox hb; have n0_ := Azz.mk (bTT (by with_reducible repeat first | exact HB.out | apply bAA | apply bNN | apply bDD) hb); have n1_ := Azz.mk (hbox); have n2_ := Azz.mk ((by rw [hg]; exact (bZZ (by with_reducible repeat first | exact HB.out | apply bAA | apply bNN | apply bDD)) : w.heap.size ≤ gb190)); have n3_ := Azz.mk ((by rw [hg]; exact (bZZ (by with_reducible repeat first | exact HB.out | apply bAA | apply bNN | apply bDD)) : w.heap.size ≤ gb190)); clear HB; have HB := n0_; have BK190 := n1_; have GW190 := n2_; have GE190 := n3_; clear n0_ n1_ n2_ n3_; clear hb hbox hg; obtain ⟨hcz19_0, hcz19_1, hcz19_2, hfz19_0, hfz19_1, hfz19_2⟩ := cel3 BK190.out) | ((with_reducible refine gate_callee (f := 92) rfl ?_); refine goesL_ (some 42) rfl rfl Tryz.func92 (by kernel_rfl) rfl #[.agg #[.int .i64 t187, .int .i64 t188, .int .i64 t189]] rfl (by (try simp only [List.map_toArray, List.map_cons, List.map_nil]); first | done | rfl | (simp only [List.length_drop, List.length_take]; rfl)) ?_; (with_reducible refine (mask_part.calls kj3 t187 t188 t189 t191 _ A16.out).mono ?_); rintro e w20 ⟨rfl, hb⟩; refine ⟨_, rfl, ?_⟩; have n0_ := Azz.mk (kBB (g := gb190) (o := .cells #[.int .i64 t187, .int .i64 t188, .int .i64 t189] 118 (0, 0)) (by apply put3; (with_reducible repeat first | apply kNN | apply kDD | apply kAA); exact BK190.out) hb); have n1_ := Azz.mk (bTT (by with_reducible repeat first | exact HB.out | apply bAA | apply bNN | apply bDD | refine bSS ?_ GE190.out) hb); clear BK190; clear HB; have BK190 := n0_; have HB := n1_; clear n0_ n1_; (try clear hb); (try clear hb2); (try clear hk); (try clear hi)))
     go_loopg [10, 11] kj3 (fun kq v10 v11 w' => ∃ (x10_2 : Int) (x11_2 : Int), v10 = .int .u64 x10_2 ∧ v11 = .int .i64 x11_2 ∧ Azz (mask_Decode.l0 kq t191 x10_2 x11_2 t187 t188 t189 = some (r1, r2)) ∧ Azz (kq ≤ kj3) ∧ Azz (w'.heap[gb190]? = some (.cells #[.int .i64 t187, .int .i64 t188, .int .i64 t189] 118 (0, 0))) ∧ Azz (Below w.heap.size w w'))
     case atStart => exact ⟨(0), (0), (by first | rfl | (simp; done) | (simp [*]; done)), (by first | rfl | (simp; done) | (simp [*]; done)), H', ⟨Nat.le_refl _⟩, ⟨by (with_reducible repeat first | apply kNN | apply kDD | apply kAA); exact BK190.out⟩, ⟨by repeat (first | (with_reducible first | exact HB.out | apply bAA | apply bNN | apply bDD | refine bSS ?_ GE190.out) | exact HB.out)⟩⟩
     case round =>
      clear H'
      try clear c1
      try clear p2
      try clear c5
      try clear c5b0
      try clear c6
      try clear c6b0
      try clear c7
      try clear c7b0
      try clear c8
      try clear c8b0
      try clear c9
      try clear c9b0
      try clear c10
      try clear c12
      try clear c12b0
      try clear c12b1
      try clear c12b2
      try clear p2
      try clear hcz15_0 hcz15_1 hcz15_2 hcz19_0 hcz19_1 hcz19_2 hfz15_0 hfz15_1 hfz15_2 hfz19_0 hfz19_1 hfz19_2
      obtain ⟨x10_2, x11_2, rfl, rfl, HA, HK2, BK190, HB⟩ := hrel
      cases gk with
      | zero => exact absurd HA.out (by simp [mask_Decode.l0])
      | succ k2 =>
       have H := HA.out
       clear HA
       simp only [mask_Decode.l0] at H
       by_cases c21 : x11_2 < 64
       ·rw [if_pos c21] at H
        have c21b0 := decide_eq_true c21
        clear c21
        by_cases c22 : 0 ≤ x11_2
        ·rw [if_pos c22] at H
         have c22b0 := eq_true c22
         have c22b1 := decide_eq_true c22
         clear c22
         obtain ⟨ji23, hji23⟩ : ∃ j_ : Int, (shl .u64 t191 x11_2) = j_ := ⟨_, rfl⟩
         replace H : (mask_Decode.l0 k2 t191 (Go.bits .or .u64 x10_2 (ji23)) (wrap64 (x11_2 + t187)) t187 t188 t189) = some (r1, r2) := by first | (rw [hji23] at H; exact H) | (simp only [hji23] at H ⊢; exact H)
         have hji23_ : (IntKind.u64.wrap (t191 * 2 ^ min x11_2.toNat 64)) = ji23 := hji23
         have hji23z : x11_2 ≤ 64 → (IntKind.u64.wrap (t191 * 2 ^ x11_2.toNat)) = ji23 := shl_small hji23
         have H' := Azz.mk H
         clear H
         obtain ⟨hcz24_0, hcz24_1, hcz24_2, hfz24_0, hfz24_1, hfz24_2⟩ := cel3 BK190.out
         go_wp2
         go_roundg k2
         case measure => have := HJ3.out; have := HK2.out; omega
         case rel => exact ⟨(Go.bits .or .u64 x10_2 (ji23)), (wrap64 (x11_2 + t187)), (by first | rfl | (simp; done) | (simp only [← hji23] <;> (first | rfl | simp)) | (simp [*]; done)), (by first | rfl | (simp; done) | (simp [*]; done)), H', ⟨by have := HJ3.out; have := HK2.out; omega⟩, ⟨by (with_reducible repeat first | apply kNN | apply kDD | apply kAA); exact BK190.out⟩, ⟨by repeat (first | (with_reducible first | exact HB.out | apply bAA | apply bNN | apply bDD | refine bSS ?_ GE190.out) | exact HB.out)⟩⟩
        ·rw [if_neg c22] at H
         exact absurd H (by simp)
       ·rw [if_neg c21] at H
        have c21b0 := decide_eq_false c21
        clear c21
        simp only [Option.some.injEq, Prod.mk.injEq] at H
        obtain ⟨rfl, rfl⟩ := H
        go_wp2
        go_ret2
        exact ⟨by first | rfl | (simp [eNN, eSS] <;> rfl) | (simp [*, eNN, eSS] <;> rfl), by repeat (first | (with_reducible first | exact HB.out | apply bAA | apply bNN | apply bDD | refine bSS ?_ GE190.out) | exact HB.out)⟩
def code_masked.f (k : Nat) (a0 : Int) : Option (Int) := (code_part.f a0 22 1).bind fun t192 => ((code_part.f a0 16 6).bind fun t193 => ((code_part.f a0 10 6).bind fun t194 => ((mask_Decode.f k t192 t193 t194).bind fun bt195 => (if bt195.2 = 0 then (some bt195.1) else (none)))))
theorem code_masked.mono : ∀ a0 k, LeO (code_masked.f k a0) (code_masked.f (k + 1) a0) := by
 intro a0 k
 unfold code_masked.f
 repeat' first
  | (with_reducible exact mask_Decode.mono _ _ _ _)
  | (with_reducible exact LeO.refl _)
  | (with_reducible exact LeO.none _)
  | (with_reducible refine LeO.ite ?_ ?_)
  | (with_reducible refine LeO.bind ?_ (fun _ => ?_))
set_option maxHeartbeats 8000000 in
set_option maxRecDepth 100000 in
theorem code_masked.calls (k : Nat) (a0 : Int) (r : Int) (w : World) (h : code_masked.f k a0 = some r) :
 Calls Tryz.prog 79 #[.int .u32 a0] w fun e w' => e = .returned (.int .u64 r) ∧ Below w.heap.size w w' := by
 have HB := Azz.mk (Below.refl w.heap.size w)
 have H : ((code_part.f a0 22 1).bind fun t192 => ((code_part.f a0 16 6).bind fun t193 => ((code_part.f a0 10 6).bind fun t194 => ((mask_Decode.f k t192 t193 t194).bind fun bt195 => (if bt195.2 = 0 then (some bt195.1) else (none)))))) = some r := h
 clear h
 replace H := Option.bind_eq_some_iff.mp H
 obtain ⟨t192, A20, H⟩ := H
 (try dsimp only at H)
 have A2 := Azz.mk A20
 clear A20
 replace H := Option.bind_eq_some_iff.mp H
 obtain ⟨t193, A30, H⟩ := H
 (try dsimp only at H)
 have A3 := Azz.mk A30
 clear A30
 replace H := Option.bind_eq_some_iff.mp H
 obtain ⟨t194, A40, H⟩ := H
 (try dsimp only at H)
 have A4 := Azz.mk A40
 clear A40
 replace H := Option.bind_eq_some_iff.mp H
 obtain ⟨⟨t195, t196⟩, A50, H⟩ := H
 (try dsimp only at H)
 have A5 := Azz.mk A50
 clear A50
 by_cases c6 : t196 = 0
 ·rw [if_pos c6] at H
  have c6b0 := beq_iff_eq.mpr c6
  have c6b1 := bne_eq_false_iff_eq.mpr c6
  clear c6
  obtain rfl := Option.some.inj H
  go_enter Tryz.func79, Tryz.ntmps79
  go_wp2_with (first | ((with_reducible refine gate_callee (f := 78) rfl ?_); refine goesL_ (some 7) rfl rfl Tryz.func78 (by kernel_rfl) rfl #[.int .u32 a0, .int .i64 22, .int .i64 1] rfl (by (try simp only [List.map_toArray, List.map_cons, List.map_nil]); first | done | rfl | (simp only [List.length_drop, List.length_take]; rfl)) ?_; (with_reducible refine (code_part.calls a0 22 1 t192 _ A2.out).mono ?_); rintro e w' ⟨rfl, ⟨nd, rfl⟩⟩; refine ⟨_, rfl, ?_⟩) | ((with_reducible refine gate_callee (f := 78) rfl ?_); refine goesL_ (some 9) rfl rfl Tryz.func78 (by kernel_rfl) rfl #[.int .u32 a0, .int .i64 16, .int .i64 6] rfl (by (try simp only [List.map_toArray, List.map_cons, List.map_nil]); first | done | rfl | (simp only [List.length_drop, List.length_take]; rfl)) ?_; (with_reducible refine (code_part.calls a0 16 6 t193 _ A3.out).mono ?_); rintro e w' ⟨rfl, ⟨nd, rfl⟩⟩; refine ⟨_, rfl, ?_⟩) | ((with_reducible refine gate_callee (f := 78) rfl ?_); refine goesL_ (some 11) rfl rfl Tryz.func78 (by kernel_rfl) rfl #[.int .u32 a0, .int .i64 10, .int .i64 6] rfl (by (try simp only [List.map_toArray, List.map_cons, List.map_nil]); first | done | rfl | (simp only [List.length_drop, List.length_take]; rfl)) ?_; (with_reducible refine (code_part.calls a0 10 6 t194 _ A4.out).mono ?_); rintro e w' ⟨rfl, ⟨nd, rfl⟩⟩; refine ⟨_, rfl, ?_⟩) | ((with_reducible refine gate_callee (f := 93) rfl ?_); refine goesL_ (some 12) rfl rfl Tryz.func93 (by kernel_rfl) rfl #[.int .i64 t192, .int .i64 t193, .int .i64 t194] rfl (by (try simp only [List.map_toArray, List.map_cons, List.map_nil]); first | done | rfl | (simp only [List.length_drop, List.length_take]; rfl)) ?_; (with_reducible refine (mask_Decode.calls k t192 t193 t194 t195 t196 _ A5.out).mono ?_); rintro e w7 ⟨rfl, hb⟩; refine ⟨_, rfl, ?_⟩; have n0_ := Azz.mk (bTT (by with_reducible repeat first | exact HB.out | apply bAA | apply bNN | apply bDD) hb); clear HB; have HB := n0_; clear n0_; (try clear hb); (try clear hb2); (try clear hk); (try clear hi)))
  go_ret
  exact ⟨by first | rfl | (simp [eNN, eSS] <;> rfl) | (simp [*, eNN, eSS] <;> rfl), by repeat (first | (with_reducible first | exact HB.out | apply bAA | apply bNN | apply bDD) | exact HB.out)⟩
 ·rw [if_neg c6] at H
  exact absurd H (by simp)
end Go.Proofs.YtpcdebakiccecaaGreatDoor.P
