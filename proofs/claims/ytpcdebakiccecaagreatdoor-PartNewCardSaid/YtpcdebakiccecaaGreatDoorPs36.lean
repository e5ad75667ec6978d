/- Walks and plain laws of this claim, a part. -/
import Derived.Test.YtpcdebakiccecaaGreatDoorPs35
namespace Go.Proofs.YtpcdebakiccecaaGreatDoor.P
open Go.RowKit Go.Proofs.YtpcdebakiccecaaGreatDoorW.PrintWords Go.Proofs.YtpcdebakiccecaaGreatDoorW.PrintLast Go.Proofs.YtpcdebakiccecaaGreatDoorW.PrintMore
attribute [local go_sem] max2_int min2_int max_two min_two max_three min_three max_four min_four   -- for this text's walks alone
set_option linter.unusedVariables false
set_option linter.unusedSimpArgs false
def bits_Signed.j0 : Nat → Int → Int → Bool → Option (Int × Int)
 | 0, _, _, _ => none
 | k + 1, x0, x1, x12 => if x12 = true then (some (0, 1)) else (if 0 ≤ x1 then (if (shr .u32 x0 x1) = 0 then (if 0 ≤ (wrap64 (x1 - 1)) then (if (shr .u32 x0 (wrap64 (x1 - 1))) = 1 then (some (wrap64 ((wrap64 (x0)) - (shl .i64 1 x1)), 0)) else (some (wrap64 (x0), 0))) else (none)) else (some (0, 4))) else (none))
def bits_Signed.f (k : Nat) (a0 : Int) (a1 : Int) : Option (Int × Int) := if a1 < 1 then (bits_Signed.j0 k a0 a1 true) else (bits_Signed.j0 k a0 a1 (decide (a1 > 32)))
set_option maxHeartbeats 8000000 in
set_option maxRecDepth 100000 in
theorem bits_Signed.calls (k : Nat) (a0 : Int) (a1 : Int) (r1 : Int) (r2 : Int) (w : World) (h : bits_Signed.f k a0 a1 = some (r1, r2)) :
 Calls Tryz.prog 81 #[.int .u32 a0, .int .i64 a1] w fun e w' => e = .returned (.tuple #[.int .i64 r1, .int .i64 r2]) ∧ Drawn0 w w' := by
 have H : (if a1 < 1 then (bits_Signed.j0 k a0 a1 true) else (bits_Signed.j0 k a0 a1 (decide (a1 > 32)))) = some (r1, r2) := h
 clear h
 have HC3 := Azz.mk H
 clear H
 go_enter Tryz.func81, Tryz.ntmps81
 go_upto_region 1 with (fail)
 go_cut [12] (fun v12 wc => ∃ (kq : Nat) (x12_2 : Bool), v12 = .bool x12_2 ∧ Azz (bits_Signed.j0 kq a0 a1 x12_2 = some (r1, r2)) ∧ Azz (kq ≤ k) ∧ Drawn0 w wc)
 case first =>
  have H := HC3.out
  clear HC3
  by_cases c4 : a1 < 1
  ·rw [if_pos c4] at H
   have c4b0 := decide_eq_true c4
   clear c4
   (first | rw [c4b0] | (simp only [i64_w, i32_w]; rw [c4b0]) | skip)
   have H' := Azz.mk H
   clear H
   go_wp2
   go_meet
   case rel => exact ⟨_, (true), (by first | rfl | (simp; done) | (simp [*]; done)), H', ⟨by first | omega | exact Nat.le_refl _⟩, by repeat (first | exact Drawn0.refl _ | apply Drawn0.step)⟩
  ·rw [if_neg c4] at H
   have c4b0 := decide_eq_false c4
   clear c4
   (first | rw [c4b0] | (simp only [i64_w, i32_w]; rw [c4b0]) | skip)
   have H' := Azz.mk H
   clear H
   go_wp2
   go_meet
   case rel => exact ⟨_, (decide (a1 > 32)), (by first | rfl | (simp; done) | (simp [*]; done)), H', ⟨by first | omega | exact Nat.le_refl _⟩, by repeat (first | exact Drawn0.refl _ | apply Drawn0.step)⟩
 case rest =>
  clear HC3
  try clear p2
  try clear c4
  try clear c4b0
  obtain ⟨kq, x12_2, rfl, HA, HJ2, ⟨mc2, rfl⟩⟩ := hcut
  cases kq with
  | zero => exact absurd HA.out (by simp [bits_Signed.j0])
  | succ kj2 =>
   have H := HA.out
   clear HA
   simp only [bits_Signed.j0] at H
   by_cases c5 : x12_2 = true
   ·subst c5
    rw [if_pos rfl] at H
    simp only [Option.some.injEq, Prod.mk.injEq] at H
    obtain ⟨rfl, rfl⟩ := H
    go_wp2
    go_ret2
    exact ⟨by first | rfl | (simp; done) | (simp [*]; done), by repeat (first | exact Drawn0.refl _ | apply Drawn0.step)⟩
   ·replace c5 := Bool.eq_false_iff.mpr c5
    subst c5
    rw [if_neg (show ¬ (false = true) by decide)] at H
    by_cases c6 : 0 ≤ a1
    ·rw [if_pos c6] at H
     have c6b0 := eq_true c6
     have c6b1 := decide_eq_true c6
     clear c6
     obtain ⟨ji7, hji7⟩ : ∃ j_ : Int, (shr .u32 a0 a1) = j_ := ⟨_, rfl⟩
     replace H : (if (ji7) = 0 then (if 0 ≤ (wrap64 (a1 - 1)) then (if (shr .u32 a0 (wrap64 (a1 - 1))) = 1 then (some (wrap64 ((wrap64 (a0)) - (shl .i64 1 a1)), 0)) else (some (wrap64 (a0), 0))) else (none)) else (some (0, 4))) = some (r1, r2) := by first | (rw [hji7] at H; exact H) | (simp only [hji7] at H ⊢; exact H)
     have hji7_ : (a0 / 2 ^ min a1.toNat 32) = ji7 := hji7
     have hji7z : a1 ≤ 32 → (a0 / 2 ^ a1.toNat) = ji7 := shr_small hji7
     by_cases c8 : (ji7) = 0
     ·rw [if_pos c8] at H
      have c8b0 := beq_iff_eq.mpr c8
      have c8b1 := bne_eq_false_iff_eq.mpr c8
      clear c8
      obtain ⟨ji9, hji9⟩ : ∃ j_ : Int, (wrap64 (a1 - 1)) = j_ := ⟨_, rfl⟩
      replace H : (if 0 ≤ (ji9) then (if (shr .u32 a0 (ji9)) = 1 then (some (wrap64 ((wrap64 (a0)) - (shl .i64 1 a1)), 0)) else (some (wrap64 (a0), 0))) else (none)) = some (r1, r2) := by first | (rw [hji9] at H; exact H) | (simp only [hji9] at H ⊢; exact H)
      have hji9w : (IntKind.i64.wrap (a1 - 1)) = ji9 := (i64_w _).trans hji9
      by_cases c10 : 0 ≤ (ji9)
      ·rw [if_pos c10] at H
       have c10b0 := eq_true c10
       have c10b1 := decide_eq_true c10
       clear c10
       obtain ⟨ji11, hji11⟩ : ∃ j_ : Int, (shr .u32 a0 (ji9)) = j_ := ⟨_, rfl⟩
       replace H : (if (ji11) = 1 then (some (wrap64 ((wrap64 (a0)) - (shl .i64 1 a1)), 0)) else (some (wrap64 (a0), 0))) = some (r1, r2) := by first | (rw [hji11] at H; exact H) | (simp only [hji11] at H ⊢; exact H)
       have hji11_ : (a0 / 2 ^ min (ji9).toNat 32) = ji11 := hji11
       have hji11z : (ji9) ≤ 32 → (a0 / 2 ^ (ji9).toNat) = ji11 := shr_small hji11
       by_cases c12 : (ji11) = 1
       ·rw [if_pos c12] at H
        have c12b0 := beq_iff_eq.mpr c12
        have c12b1 := bne_eq_false_iff_eq.mpr c12
        clear c12
        have c13b0 := eq_true (of_decide_eq_true (by first | (with_reducible assumption) | assumption) : 0 ≤ a1)
        obtain ⟨ji14, hji14⟩ : ∃ j_ : Int, (shl .i64 1 a1) = j_ := ⟨_, rfl⟩
        replace H : (some (wrap64 ((wrap64 (a0)) - (ji14)), 0)) = some (r1, r2) := by first | (rw [hji14] at H; exact H) | (simp only [hji14] at H ⊢; exact H)
        have hji14_ : (IntKind.i64.wrap (1 * 2 ^ min a1.toNat 64)) = ji14 := hji14
        have hji14z : a1 ≤ 64 → (IntKind.i64.wrap (1 * 2 ^ a1.toNat)) = ji14 := shl_small hji14
        have hji14u : (IntKind.i64.wrap (2 ^ min a1.toNat 64)) = ji14 := by have h_ := hji14_; rw [Int.one_mul] at h_; exact h_
        have hji14v : a1 ≤ 64 → (IntKind.i64.wrap (2 ^ a1.toNat)) = ji14 := fun hle_ => by have h_ := hji14z hle_; rw [Int.one_mul] at h_; exact h_
        have hji14y : (wrap64 (1 * 2 ^ min a1.toNat 64)) = ji14 := (i64_w _).symm.trans hji14_
        have hji14x : a1 ≤ 64 → (wrap64 (1 * 2 ^ a1.toNat)) = ji14 := fun h_ => (i64_w _).symm.trans (hji14z h_)
        simp only [Option.some.injEq, Prod.mk.injEq] at H
        obtain ⟨rfl, rfl⟩ := H
        go_wp2
        go_ret2
        exact ⟨by first | rfl | (simp; done) | (simp only [← hji7, ← hji9, ← hji11, ← hji14] <;> (first | rfl | simp)) | (simp [*]; done), by repeat (first | exact Drawn0.refl _ | apply Drawn0.step)⟩
       ·rw [if_neg c12] at H
        have c12b0 := beq_eq_false_iff_ne.mpr c12
        have c12b1 := bne_iff_ne.mpr c12
        simp only [Option.some.injEq, Prod.mk.injEq] at H
        obtain ⟨rfl, rfl⟩ := H
        go_wp2
        go_ret2
        exact ⟨by first | rfl | (simp; done) | (simp only [← hji7, ← hji9, ← hji11] <;> (first | rfl | simp)) | (simp [*]; done), by repeat (first | exact Drawn0.refl _ | apply Drawn0.step)⟩
      ·rw [if_neg c10] at H
       exact absurd H (by simp)
     ·rw [if_neg c8] at H
      have c8b0 := beq_eq_false_iff_ne.mpr c8
      have c8b1 := bne_iff_ne.mpr c8
      simp only [Option.some.injEq, Prod.mk.injEq] at H
      obtain ⟨rfl, rfl⟩ := H
      go_wp2
      go_ret2
      exact ⟨by first | rfl | (simp; done) | (simp only [← hji7] <;> (first | rfl | simp)) | (simp [*]; done), by repeat (first | exact Drawn0.refl _ | apply Drawn0.step)⟩
    ·rw [if_neg c6] at H
     exact absurd H (by simp)
def code_signed.f (k : Nat) (a0 : Int) (a1 : Int) (a2 : Int) : Option (Int) := (bits_Field.f a0 a1 a2).bind fun bt197 => ((bits_Signed.f k bt197.1 a2).bind fun bt199 => (some bt199.1))
set_option maxHeartbeats 8000000 in
set_option maxRecDepth 100000 in
theorem code_signed.calls (k : Nat) (a0 : Int) (a1 : Int) (a2 : Int) (r : Int) (w : World) (h : code_signed.f k a0 a1 a2 = some r) :
 Calls Tryz.prog 80 #[.int .u32 a0, .int .i64 a1, .int .i64 a2] w fun e w' => e = .returned (.int .i64 r) ∧ Drawn0 w w' := by
 have H : ((bits_Field.f a0 a1 a2).bind fun bt197 => ((bits_Signed.f k bt197.1 a2).bind fun bt199 => (some bt199.1))) = some r := h
 clear h
 replace H := Option.bind_eq_some_iff.mp H
 obtain ⟨⟨t197, t198⟩, A40, H⟩ := H
 (try dsimp only at H)
 have A4 := Azz.mk A40
 clear A40
 replace H := Option.bind_eq_some_iff.mp H
 obtain ⟨⟨t199, t200⟩, A50, H⟩ := H
 (try dsimp only at H)
 have A5 := Azz.mk A50
 clear A50
 obtain rfl := Option.some.inj H
 go_enter Tryz.func80, Tryz.ntmps80
 go_wp2_with (first | ((with_reducible refine gate_callee (f := 52) rfl ?_); refine goesL_ (some 15) rfl rfl Tryz.func52 (by kernel_rfl) rfl #[.int .u32 a0, .int .i64 a1, .int .i64 a2] rfl (by (try simp only [List.map_toArray, List.map_cons, List.map_nil]); first | done | rfl | (simp only [List.length_drop, List.length_take]; rfl)) ?_; (with_reducible refine (bits_Field.calls a0 a1 a2 t197 t198 _ A4.out).mono ?_); rintro e w' ⟨rfl, ⟨nd, rfl⟩⟩; refine ⟨_, rfl, ?_⟩) | ((with_reducible refine gate_callee (f := 81) rfl ?_); refine goesL_ (some 21) rfl rfl Tryz.func81 (by kernel_rfl) rfl #[.int .u32 t197, .int .i64 a2] rfl (by (try simp only [List.map_toArray, List.map_cons, List.map_nil]); first | done | rfl | (simp only [List.length_drop, List.length_take]; rfl)) ?_; (with_reducible refine (bits_Signed.calls k t197 a2 t199 t200 _ A5.out).mono ?_); rintro e w' ⟨rfl, ⟨nd, rfl⟩⟩; refine ⟨_, rfl, ?_⟩))
 go_ret
 exact ⟨by first | rfl | (simp; done) | (simp [*]; done), by repeat (first | exact Drawn0.refl _ | apply Drawn0.step)⟩
def fld (w a n : Int) : Int := (code_part.f w a n).getD 0
def sfl (w a n : Int) : Int := (code_signed.f 1 w a n).getD 0
theorem blk_new_at {W : World} {o : Obj} {n : Nat} (h : n = W.heap.size) : (W.alloc o).heap[n]? = some o := h ▸ blk_new W o
theorem row10 {W : World} {b : Nat} {t : TypeId} {c0 c1 c2 c3 c4 c5 c6 c7 c8 c9 : Value} (h : W.heap[b]? = some (.cells #[c0, c1, c2, c3, c4, c5, c6, c7, c8, c9] t (0, 0))) (v0 v1 v2 v3 v4 v5 v6 v7 v8 v9 : Value) :
 ((((((((((W.setCell ⟨b, 0, none⟩ v0).setCell ⟨b, 1, none⟩ v1).setCell ⟨b, 2, none⟩ v2).setCell ⟨b, 3, none⟩ v3).setCell ⟨b, 4, none⟩ v4).setCell ⟨b, 5, none⟩ v5).setCell ⟨b, 6, none⟩ v6).setCell ⟨b, 7, none⟩ v7).setCell ⟨b, 8, none⟩ v8).setCell ⟨b, 9, none⟩ v9).heap[b]? = some (.cells #[v0, v1, v2, v3, v4, v5, v6, v7, v8, v9] t (0, 0)) := by
 refine blk_put (cs := #[v0, v1, v2, v3, v4, v5, v6, v7, v8, c9]) ?_ 9 _ rfl
 refine blk_put (cs := #[v0, v1, v2, v3, v4, v5, v6, v7, c8, c9]) ?_ 8 _ rfl
 refine blk_put (cs := #[v0, v1, v2, v3, v4, v5, v6, c7, c8, c9]) ?_ 7 _ rfl
 refine blk_put (cs := #[v0, v1, v2, v3, v4, v5, c6, c7, c8, c9]) ?_ 6 _ rfl
 refine blk_put (cs := #[v0, v1, v2, v3, v4, c5, c6, c7, c8, c9]) ?_ 5 _ rfl
 refine blk_put (cs := #[v0, v1, v2, v3, c4, c5, c6, c7, c8, c9]) ?_ 4 _ rfl
 refine blk_put (cs := #[v0, v1, v2, c3, c4, c5, c6, c7, c8, c9]) ?_ 3 _ rfl
 refine blk_put (cs := #[v0, v1, c2, c3, c4, c5, c6, c7, c8, c9]) ?_ 2 _ rfl
 refine blk_put (cs := #[v0, c1, c2, c3, c4, c5, c6, c7, c8, c9]) ?_ 1 _ rfl
 exact blk_put h 0 _ rfl
theorem right_true (a n : Int) (h0 : 0 ≤ a) (h1 : 1 ≤ n) (h2 : n ≤ 32) (h3 : a ≤ 32 - n) : bits_right.f a n = some true := by
 unfold bits_right.f
 rw [if_pos (by omega), if_pos (by omega), if_pos (by omega)]
 congr 1
 unfold wrap64
 simp only [decide_eq_true_eq]
 omega
theorem field_some (w a n : Int) (h0 : 0 ≤ a) (h1 : 1 ≤ n) (h2 : n ≤ 32) (h3 : a ≤ 32 - n) : ∃ t, bits_Field.f w a n = some (t, 0) := by
 unfold bits_Field.f
 rw [right_true a n h0 h1 h2 h3]
 simp only [Option.bind_some, if_true]
 rw [if_pos h0, if_pos (by omega)]
 exact ⟨_, rfl⟩
theorem fld_eq (w a n : Int) (h0 : 0 ≤ a) (h1 : 1 ≤ n) (h2 : n ≤ 32) (h3 : a ≤ 32 - n) : code_part.f w a n = some (fld w a n) := by
 obtain ⟨t, ht⟩ := field_some w a n h0 h1 h2 h3
 unfold fld code_part.f
 rw [ht]
 rfl
theorem signed_some (v n : Int) (h1 : 1 ≤ n) (h2 : n ≤ 32) : ∃ t e, bits_Signed.f 1 v n = some (t, e) := by
 unfold bits_Signed.f
 rw [if_neg (by omega), show decide (n > 32) = false from decide_eq_false (by omega)]
 simp only [bits_Signed.j0, Bool.false_eq_true, if_false]
 rw [if_pos (by omega)]
 have hw : 0 ≤ wrap64 (n - 1) := by unfold wrap64; omega
 rw [if_pos hw]
 split
 ·split <;> exact ⟨_, _, rfl⟩
 ·exact ⟨_, _, rfl⟩
theorem sfl_eq (w a n : Int) (h0 : 0 ≤ a) (h1 : 1 ≤ n) (h2 : n ≤ 32) (h3 : a ≤ 32 - n) : code_signed.f 1 w a n = some (sfl w a n) := by
 obtain ⟨t, ht⟩ := field_some w a n h0 h1 h2 h3
 obtain ⟨u, e, hu⟩ := signed_some t n h1 h2
 unfold sfl code_signed.f
 rw [ht]
 simp only [Option.bind_some]
 rw [hu]
 rfl
theorem part_any (w a n : Int) (h0 : 0 ≤ a) (h1 : 1 ≤ n) (h2 : n ≤ 32) (h3 : a ≤ 32 - n) (W : World) :
 Calls Tryz.prog 78 #[.int .u32 w, .int .i64 a, .int .i64 n] W fun e w' => e = .returned (.int .i64 (fld w a n)) ∧ Drawn0 W w' := code_part.calls _ _ _ _ _ (fld_eq w a n h0 h1 h2 h3)
theorem signed_any (w a n : Int) (h0 : 0 ≤ a) (h1 : 1 ≤ n) (h2 : n ≤ 32) (h3 : a ≤ 32 - n) (W : World) :
 Calls Tryz.prog 80 #[.int .u32 w, .int .i64 a, .int .i64 n] W fun e w' => e = .returned (.int .i64 (sfl w a n)) ∧ Drawn0 W w' := code_signed.calls 1 _ _ _ _ _ (sfl_eq w a n h0 h1 h2 h3)
theorem part_all (a0 : Int) : Azz (∀ a n : Int, ((0 ≤ a ∧ 1 ≤ n) ∧ n ≤ 32 ∧ a ≤ 32 - n) → ∀ W : World, Calls Tryz.prog 78 #[.int .u32 a0, .int .i64 a, .int .i64 n] W fun e w' => e = .returned (.int .i64 (fld a0 a n)) ∧ Drawn0 W w') := ⟨fun a n h W => part_any a0 a n h.1.1 h.1.2 h.2.1 h.2.2 W⟩
theorem signed_all (a0 : Int) : Azz (∀ a n : Int, ((0 ≤ a ∧ 1 ≤ n) ∧ n ≤ 32 ∧ a ≤ 32 - n) → ∀ W : World, Calls Tryz.prog 80 #[.int .u32 a0, .int .i64 a, .int .i64 n] W fun e w' => e = .returned (.int .i64 (sfl a0 a n)) ∧ Drawn0 W w') := ⟨fun a n h W => signed_any a0 a n h.1.1 h.1.2 h.2.1 h.2.2 W⟩
theorem read_op {a0 op : Int} {w : World} (hG : Glob w) (h : code_Opcode.f a0 = some op) : Azz (∀ o, Calls Tryz.prog 77 #[.int .u32 a0] (w.alloc o) fun e w' => e = .returned (.int .i64 op) ∧ Drawn0 (w.alloc o) w') := ⟨fun o => code_Opcode.calls a0 op (w.alloc o) (hG.below ((Below.refl w.heap.size w).alloc (Nat.le_refl _) o)) h⟩
theorem read_sh {op s : Int} {w : World} (hG : Glob w) (h : inst_Shape.f op = some s) : Azz (∀ o n o' m, Calls Tryz.prog 40 #[.int .i64 op] ((((w.alloc o).drewN n).alloc o').drewN m) fun e w' => e = .returned (.int .i64 s) ∧ Drawn0 ((((w.alloc o).drewN n).alloc o').drewN m) w') := ⟨fun o n o' m => inst_Shape.calls op s _ (hG.below (bNN (bAA (bNN (bAA (Below.refl w.heap.size w) o) n) o') m)) h⟩
theorem row10z {W : World} {b : Nat} (h : W.heap[b]? = some (.cells #[.int .i64 0, .int .i64 0, .int .i64 0, .int .i64 0, .int .i64 0, .int .i64 0, .int .u64 0, .int .i64 0, .int .i64 0, .int .i64 0] 40 (0, 0))) (v0 v1 v2 v3 v4 v5 v6 v7 v8 v9 : Value) :
 ((((((((((W.setCell ⟨b, 0, none⟩ v0).setCell ⟨b, 1, none⟩ v1).setCell ⟨b, 2, none⟩ v2).setCell ⟨b, 3, none⟩ v3).setCell ⟨b, 4, none⟩ v4).setCell ⟨b, 5, none⟩ v5).setCell ⟨b, 6, none⟩ v6).setCell ⟨b, 7, none⟩ v7).setCell ⟨b, 8, none⟩ v8).setCell ⟨b, 9, none⟩ v9).heap[b]? = some (.cells #[v0, v1, v2, v3, v4, v5, v6, v7, v8, v9] 40 (0, 0)) := row10 h v0 v1 v2 v3 v4 v5 v6 v7 v8 v9
theorem cl10 {w : World} {g t : Nat} {v0 v1 v2 v3 v4 v5 v6 v7 v8 v9 : Value} (h : w.heap[g]? = some (.cells #[v0, v1, v2, v3, v4, v5, v6, v7, v8, v9] t (0, 0))) : w.cell? ⟨g, 0, none⟩ = some v0 ∧ w.cell? ⟨g, 1, none⟩ = some v1 ∧ w.cell? ⟨g, 2, none⟩ = some v2 ∧ w.cell? ⟨g, 3, none⟩ = some v3 ∧ w.cell? ⟨g, 4, none⟩ = some v4 ∧ w.cell? ⟨g, 5, none⟩ = some v5 ∧ w.cell? ⟨g, 6, none⟩ = some v6 ∧ w.cell? ⟨g, 7, none⟩ = some v7 ∧ w.cell? ⟨g, 8, none⟩ = some v8 ∧ w.cell? ⟨g, 9, none⟩ = some v9 :=
 ⟨kCC h 0, kCC h 1, kCC h 2, kCC h 3, kCC h 4, kCC h 5, kCC h 6, kCC h 7, kCC h 8, kCC h 9⟩
def ReadPost (r : Array Value) (w : World) (e : Ending) (w' : World) : Prop := e = .returned (.agg r) ∧ Below w.heap.size w w'
set_option maxHeartbeats 3200000 in
set_option maxRecDepth 100000 in
theorem code_read.s1 (a0 op : Int) (w : World) (hG : Glob w) (h1 : code_Opcode.f a0 = some op) (h2 : inst_Shape.f op = some 1) :
 Calls Tryz.prog 55 #[.int .u32 a0] w (ReadPost #[.int .i64 (op), .int .i64 (fld a0 0 5), .int .i64 (0), .int .i64 (0), .int .i64 (0), .int .i64 (fld a0 5 16), .int .u64 (0), .int .i64 (0), .int .i64 (wrap64 (fld a0 21 2 * 16)), .int .i64 (0)] w) := by
 have A4 := read_op hG h1
 have A5 := read_sh hG h2
 clear h1 h2
 have HP := part_all a0
 go_enter Tryz.func55, Tryz.ntmps55
 go_wp2_with (first | (go_at_call 77; (with_reducible refine (A4.out _).mono ?_); rintro e w' ⟨rfl, ⟨nd, rfl⟩⟩) | (go_at_call 40; (with_reducible refine (A5.out _ _ _ _).mono ?_); rintro e w' ⟨rfl, ⟨nd, rfl⟩⟩) | (go_at_call 78; (with_reducible refine (HP.out _ _ (by decide) _).mono ?_); rintro e w' ⟨rfl, ⟨nd, rfl⟩⟩))
 refine bodyPost_ret (results_cell_row rfl _ _ w.heap.size 40 _ (0, 0) _ rfl (row10z ?blk _ _ _ _ _ _ _ _ _ _) Tryz.underlying40 rfl (by kernel_rfl)) rfl ⟨rfl, ?bel⟩
 all_goals repeat (first | (with_reducible exact blk_new _ _) | (with_reducible exact Below.refl _ _) | (with_reducible refine kNN ?_ _) | (with_reducible refine kAA ?_ _) | (with_reducible refine blk_far ?_ (Nat.succ_ne_self _).symm _) | (with_reducible apply bAA) | (with_reducible apply bNN) | (with_reducible apply bDD) | (with_reducible refine bSS ?_ (Nat.le_refl _)) | (with_reducible refine bSS ?_ (Nat.le_succ _)))
set_option maxHeartbeats 3200000 in
set_option maxRecDepth 100000 in
theorem code_read.s2 (a0 op : Int) (w : World) (hG : Glob w) (h1 : code_Opcode.f a0 = some op) (h2 : inst_Shape.f op = some 2) :
 Calls Tryz.prog 55 #[.int .u32 a0] w (ReadPost #[.int .i64 (op), .int .i64 (fld a0 0 5), .int .i64 (fld a0 5 5), .int .i64 (0), .int .i64 (0), .int .i64 (fld a0 10 12), .int .u64 (0), .int .i64 (0), .int .i64 (wrap64 (fld a0 22 1 * 12)), .int .i64 (0)] w) := by
 have A4 := read_op hG h1
 have A5 := read_sh hG h2
 clear h1 h2
 have HP := part_all a0
 go_enter Tryz.func55, Tryz.ntmps55
 go_wp2_with (first | (go_at_call 77; (with_reducible refine (A4.out _).mono ?_); rintro e w' ⟨rfl, ⟨nd, rfl⟩⟩) | (go_at_call 40; (with_reducible refine (A5.out _ _ _ _).mono ?_); rintro e w' ⟨rfl, ⟨nd, rfl⟩⟩) | (go_at_call 78; (with_reducible refine (HP.out _ _ (by decide) _).mono ?_); rintro e w' ⟨rfl, ⟨nd, rfl⟩⟩))
 refine bodyPost_ret (results_cell_row rfl _ _ w.heap.size 40 _ (0, 0) _ rfl (row10z ?blk _ _ _ _ _ _ _ _ _ _) Tryz.underlying40 rfl (by kernel_rfl)) rfl ⟨rfl, ?bel⟩
 all_goals repeat (first | (with_reducible exact blk_new _ _) | (with_reducible exact Below.refl _ _) | (with_reducible refine kNN ?_ _) | (with_reducible refine kAA ?_ _) | (with_reducible refine blk_far ?_ (Nat.succ_ne_self _).symm _) | (with_reducible apply bAA) | (with_reducible apply bNN) | (with_reducible apply bDD) | (with_reducible refine bSS ?_ (Nat.le_refl _)) | (with_reducible refine bSS ?_ (Nat.le_succ _)))
set_option maxHeartbeats 3200000 in
set_option maxRecDepth 100000 in
theorem code_read.s3 (a0 op mk : Int) (w : World) (hG : Glob w) (h1 : code_Opcode.f a0 = some op) (h2 : inst_Shape.f op = some 3) (k : Nat) (h3 : code_masked.f k a0 = some mk) :
 Calls Tryz.prog 55 #[.int .u32 a0] w (ReadPost #[.int .i64 (op), .int .i64 (fld a0 0 5), .int .i64 (fld a0 5 5), .int .i64 (0), .int .i64 (0), .int .i64 (0), .int .u64 (mk), .int .i64 (0), .int .i64 (0), .int .i64 (0)] w) := by
 have A4 := read_op hG h1
 have A5 := read_sh hG h2
 have A6 := Azz.mk (fun W => code_masked.calls k a0 mk W h3)
 clear h3
 clear h1 h2
 have HP := part_all a0
 go_enter Tryz.func55, Tryz.ntmps55
 go_wp2_with (first | (go_at_call 77; (with_reducible refine (A4.out _).mono ?_); rintro e w' ⟨rfl, ⟨nd, rfl⟩⟩) | (go_at_call 40; (with_reducible refine (A5.out _ _ _ _).mono ?_); rintro e w' ⟨rfl, ⟨nd, rfl⟩⟩) | (go_at_call 78; (with_reducible refine (HP.out _ _ (by decide) _).mono ?_); rintro e w' ⟨rfl, ⟨nd, rfl⟩⟩))
 refine (A6.out _).mono ?_
 rintro e w1 ⟨rfl, hb⟩
 have hi : w1.heap[w.heap.size]? = some (.cells #[Value.int .i64 0, Value.int .i64 0, Value.int .i64 0, Value.int .i64 0, Value.int .i64 0, Value.int .i64 0, Value.int .u64 0, Value.int .i64 0, Value.int .i64 0, Value.int .i64 0] 40 (0, 0)) := kBB (by repeat (first | (with_reducible exact blk_new _ _) | (with_reducible refine kNN ?_ _) | (with_reducible refine kAA ?_ _) | (with_reducible refine blk_far ?_ (Nat.succ_ne_self _).symm _))) hb
 have he : w1.heap[w.heap.size + 1]? = some (.cells #[Value.int .i64 op, Value.int .i64 0, Value.int .i64 0, Value.int .i64 0, Value.int .i64 0, Value.int .i64 0, Value.int .u64 0, Value.int .i64 0, Value.int .i64 0, Value.int .i64 0] 40 (0, 0)) := kBB (by repeat (first | (exact blk_new_at (by simp)) | (with_reducible refine kNN ?_ _) | (with_reducible refine kAA ?_ _) | (with_reducible refine blk_far ?_ (Nat.succ_ne_self _).symm _))) hb
 have HB : Azz (Below w.heap.size w w1) := ⟨bTT (by repeat (first | (with_reducible exact Below.refl _ _) | (with_reducible apply bAA) | (with_reducible apply bNN) | (with_reducible apply bDD) | (with_reducible refine bSS ?_ (Nat.le_refl _)) | (with_reducible refine bSS ?_ (Nat.le_succ _)))) hb⟩
 clear hb
 obtain ⟨hic0, hic1, hic2, hic3, hic4, hic5, hic6, hic7, hic8, hic9⟩ := cl10 hi
 have hif := fun i => kFF hi i
 obtain ⟨hec0, hec1, hec2, hec3, hec4, hec5, hec6, hec7, hec8, hec9⟩ := cl10 he
 have hef := fun i => kFF he i
 have HBi := Azz.mk hi
 clear hi he
 go_wp2
 refine bodyPost_ret (results_cell_row rfl _ _ w.heap.size 40 _ (0, 0) _ rfl (row10z ?blk _ _ _ _ _ _ _ _ _ _) Tryz.underlying40 rfl (by kernel_rfl)) rfl ⟨rfl, ?bel⟩
 all_goals repeat (first | (with_reducible exact HBi.out) | (with_reducible exact HB.out) | (with_reducible refine kNN ?_ _) | (with_reducible refine kAA ?_ _) | (with_reducible refine blk_far ?_ (Nat.succ_ne_self _).symm _) | (with_reducible apply bAA) | (with_reducible apply bNN) | (with_reducible apply bDD) | (with_reducible refine bSS ?_ (Nat.le_refl _)) | (with_reducible refine bSS ?_ (Nat.le_succ _)))
set_option maxHeartbeats 3200000 in
set_option maxRecDepth 100000 in
theorem code_read.s4 (a0 op : Int) (w : World) (hG : Glob w) (h1 : code_Opcode.f a0 = some op) (h2 : inst_Shape.f op = some 4) :
 Calls Tryz.prog 55 #[.int .u32 a0] w (ReadPost #[.int .i64 (op), .int .i64 (fld a0 0 5), .int .i64 (fld a0 5 5), .int .i64 (fld a0 16 5), .int .i64 (0), .int .i64 (0), .int .u64 (0), .int .i64 (fld a0 22 2), .int .i64 (fld a0 10 6), .int .i64 (0)] w) := by
 have A4 := read_op hG h1
 have A5 := read_sh hG h2
 clear h1 h2
 have HP := part_all a0
 go_enter Tryz.func55, Tryz.ntmps55
 go_wp2_with (first | (go_at_call 77; (with_reducible refine (A4.out _).mono ?_); rintro e w' ⟨rfl, ⟨nd, rfl⟩⟩) | (go_at_call 40; (with_reducible refine (A5.out _ _ _ _).mono ?_); rintro e w' ⟨rfl, ⟨nd, rfl⟩⟩) | (go_at_call 78; (first | (with_reducible refine (HP.out 0 5 (by decide) _).mono ?_) | (with_reducible refine (HP.out 5 5 (by decide) _).mono ?_) | (with_reducible refine (HP.out 16 5 (by decide) _).mono ?_)); rintro e w' ⟨rfl, ⟨nd, rfl⟩⟩))
 refine (HP.out 10 6 (by decide) _).mono ?_
 rintro e w1 ⟨rfl, hd⟩
 have hb := hd.below
 clear hd
 have hi : w1.heap[w.heap.size]? = some (.cells #[Value.int .i64 0, Value.int .i64 0, Value.int .i64 0, Value.int .i64 0, Value.int .i64 0, Value.int .i64 0, Value.int .u64 0, Value.int .i64 0, Value.int .i64 0, Value.int .i64 0] 40 (0, 0)) := kBB (by repeat (first | (with_reducible exact blk_new _ _) | (with_reducible refine kNN ?_ _) | (with_reducible refine kAA ?_ _) | (with_reducible refine blk_far ?_ (Nat.succ_ne_self _).symm _))) hb
 have he : w1.heap[w.heap.size + 1]? = some (.cells #[Value.int .i64 op, Value.int .i64 (fld a0 0 5), Value.int .i64 (fld a0 5 5), Value.int .i64 (fld a0 16 5), Value.int .i64 0, Value.int .i64 0, Value.int .u64 0, Value.int .i64 0, Value.int .i64 0, Value.int .i64 0] 40 (0, 0)) := kBB (by (try refine kNN ?_ _); refine blk_put (cs := #[Value.int .i64 op, Value.int .i64 (fld a0 0 5), Value.int .i64 (fld a0 5 5), Value.int .i64 0, Value.int .i64 0, Value.int .i64 0, Value.int .u64 0, Value.int .i64 0, Value.int .i64 0, Value.int .i64 0]) ?_ 3 _ rfl; (try refine kNN ?_ _); refine blk_put (cs := #[Value.int .i64 op, Value.int .i64 (fld a0 0 5), Value.int .i64 0, Value.int .i64 0, Value.int .i64 0, Value.int .i64 0, Value.int .u64 0, Value.int .i64 0, Value.int .i64 0, Value.int .i64 0]) ?_ 2 _ rfl; (try refine kNN ?_ _); refine blk_put (cs := #[Value.int .i64 op, Value.int .i64 0, Value.int .i64 0, Value.int .i64 0, Value.int .i64 0, Value.int .i64 0, Value.int .u64 0, Value.int .i64 0, Value.int .i64 0, Value.int .i64 0]) ?_ 1 _ rfl; repeat (first | (exact blk_new_at (by simp)) | (with_reducible refine kNN ?_ _) | (with_reducible refine kAA ?_ _) | (with_reducible refine blk_far ?_ (Nat.succ_ne_self _).symm _))) hb
 have HB : Azz (Below w.heap.size w w1) := ⟨bTT (by repeat (first | (with_reducible exact Below.refl _ _) | (with_reducible apply bAA) | (with_reducible apply bNN) | (with_reducible apply bDD) | (with_reducible refine bSS ?_ (Nat.le_refl _)) | (with_reducible refine bSS ?_ (Nat.le_succ _)))) hb⟩
 clear hb
 obtain ⟨hic0, hic1, hic2, hic3, hic4, hic5, hic6, hic7, hic8, hic9⟩ := cl10 hi
 have hif := fun i => kFF hi i
 obtain ⟨hec0, hec1, hec2, hec3, hec4, hec5, hec6, hec7, hec8, hec9⟩ := cl10 he
 have hef := fun i => kFF he i
 have HBi := Azz.mk hi
 clear hi he
 go_wp2_with (first | (go_at_call 78; (with_reducible refine (HP.out _ _ (by decide) _).mono ?_); rintro e w' ⟨rfl, ⟨nd, rfl⟩⟩))
 refine bodyPost_ret (results_cell_row rfl _ _ w.heap.size 40 _ (0, 0) _ rfl (row10z ?blk _ _ _ _ _ _ _ _ _ _) Tryz.underlying40 rfl (by kernel_rfl)) rfl ⟨rfl, ?bel⟩
 all_goals repeat (first | (with_reducible exact HBi.out) | (with_reducible exact HB.out) | (with_reducible refine kNN ?_ _) | (with_reducible refine kAA ?_ _) | (with_reducible refine blk_far ?_ (Nat.succ_ne_self _).symm _) | (with_reducible apply bAA) | (with_reducible apply bNN) | (with_reducible apply bDD) | (with_reducible refine bSS ?_ (Nat.le_refl _)) | (with_reducible refine bSS ?_ (Nat.le_succ _)))
set_option maxHeartbeats 3200000 in
set_option maxRecDepth 100000 in
theorem code_read.s5 (a0 op : Int) (w : World) (hG : Glob w) (h1 : code_Opcode.f a0 = some op) (h2 : inst_Shape.f op = some 5) :
 Calls Tryz.prog 55 #[.int .u32 a0] w (ReadPost #[.int .i64 (op), .int .i64 (fld a0 0 5), .int .i64 (fld a0 5 5), .int .i64 (fld a0 16 5), .int .i64 (0), .int .i64 (0), .int .u64 (0), .int .i64 (fld a0 22 2), .int .i64 (fld a0 10 6), .int .i64 (0)] w) := by
 have A4 := read_op hG h1
 have A5 := read_sh hG h2
 clear h1 h2
 have HP := part_all a0
 go_enter Tryz.func55, Tryz.ntmps55
 go_wp2_with (first | (go_at_call 77; (with_reducible refine (A4.out _).mono ?_); rintro e w' ⟨rfl, ⟨nd, rfl⟩⟩) | (go_at_call 40; (with_reducible refine (A5.out _ _ _ _).mono ?_); rintro e w' ⟨rfl, ⟨nd, rfl⟩⟩) | (go_at_call 78; (first | (with_reducible refine (HP.out 0 5 (by decide) _).mono ?_) | (with_reducible refine (HP.out 5 5 (by decide) _).mono ?_) | (with_reducible refine (HP.out 16 5 (by decide) _).mono ?_)); rintro e w' ⟨rfl, ⟨nd, rfl⟩⟩))
 refine (HP.out 10 6 (by decide) _).mono ?_
 rintro e w1 ⟨rfl, hd⟩
 have hb := hd.below
 clear hd
 have hi : w1.heap[w.heap.size]? = some (.cells #[Value.int .i64 0, Value.int .i64 0, Value.int .i64 0, Value.int .i64 0, Value.int .i64 0, Value.int .i64 0, Value.int .u64 0, Value.int .i64 0, Value.int .i64 0, Value.int .i64 0] 40 (0, 0)) := kBB (by repeat (first | (with_reducible exact blk_new _ _) | (with_reducible refine kNN ?_ _) | (with_reducible refine kAA ?_ _) | (with_reducible refine blk_far ?_ (Nat.succ_ne_self _).symm _))) hb
 have he : w1.heap[w.heap.size + 1]? = some (.cells #[Value.int .i64 op, Value.int .i64 (fld a0 0 5), Value.int .i64 (fld a0 5 5), Value.int .i64 (fld a0 16 5), Value.int .i64 0, Value.int .i64 0, Value.int .u64 0, Value.int .i64 0, Value.int .i64 0, Value.int .i64 0] 40 (0, 0)) := kBB (by (try refine kNN ?_ _); refine blk_put (cs := #[Value.int .i64 op, Value.int .i64 (fld a0 0 5), Value.int .i64 (fld a0 5 5), Value.int .i64 0, Value.int .i64 0, Value.int .i64 0, Value.int .u64 0, Value.int .i64 0, Value.int .i64 0, Value.int .i64 0]) ?_ 3 _ rfl; (try refine kNN ?_ _); refine blk_put (cs := #[Value.int .i64 op, Value.int .i64 (fld a0 0 5), Value.int .i64 0, Value.int .i64 0, Value.int .i64 0, Value.int .i64 0, Value.int .u64 0, Value.int .i64 0, Value.int .i64 0, Value.int .i64 0]) ?_ 2 _ rfl; (try refine kNN ?_ _); refine blk_put (cs := #[Value.int .i64 op, Value.int .i64 0, Value.int .i64 0, Value.int .i64 0, Value.int .i64 0, Value.int .i64 0, Value.int .u64 0, Value.int .i64 0, Value.int .i64 0, Value.int .i64 0]) ?_ 1 _ rfl; repeat (first | (exact blk_new_at (by simp)) | (with_reducible refine kNN ?_ _) | (with_reducible refine kAA ?_ _) | (with_reducible refine blk_far ?_ (Nat.succ_ne_self _).symm _))) hb
 have HB : Azz (Below w.heap.size w w1) := ⟨bTT (by repeat (first | (with_reducible exact Below.refl _ _) | (with_reducible apply bAA) | (with_reducible apply bNN) | (with_reducible apply bDD) | (with_reducible refine bSS ?_ (Nat.le_refl _)) | (with_reducible refine bSS ?_ (Nat.le_succ _)))) hb⟩
 clear hb
 obtain ⟨hic0, hic1, hic2, hic3, hic4, hic5, hic6, hic7, hic8, hic9⟩ := cl10 hi
 have hif := fun i => kFF hi i
 obtain ⟨hec0, hec1, hec2, hec3, hec4, hec5, hec6, hec7, hec8, hec9⟩ := cl10 he
 have hef := fun i => kFF he i
 have HBi := Azz.mk hi
 clear hi he
 go_wp2_with (first | (go_at_call 78; (with_reducible refine (HP.out _ _ (by decide) _).mono ?_); rintro e w' ⟨rfl, ⟨nd, rfl⟩⟩))
 refine bodyPost_ret (results_cell_row rfl _ _ w.heap.size 40 _ (0, 0) _ rfl (row10z ?blk _ _ _ _ _ _ _ _ _ _) Tryz.underlying40 rfl (by kernel_rfl)) rfl ⟨rfl, ?bel⟩
 all_goals repeat (first | (with_reducible exact HBi.out) | (with_reducible exact HB.out) | (with_reducible refine kNN ?_ _) | (with_reducible refine kAA ?_ _) | (with_reducible refine blk_far ?_ (Nat.succ_ne_self _).symm _) | (with_reducible apply bAA) | (with_reducible apply bNN) | (with_reducible apply bDD) | (with_reducible refine bSS ?_ (Nat.le_refl _)) | (with_reducible refine bSS ?_ (Nat.le_succ _)))
set_option maxHeartbeats 3200000 in
set_option maxRecDepth 100000 in
theorem code_read.s6 (a0 op : Int) (w : World) (hG : Glob w) (h1 : code_Opcode.f a0 = some op) (h2 : inst_Shape.f op = some 6) :
 Calls Tryz.prog 55 #[.int .u32 a0] w (ReadPost #[.int .i64 (op), .int .i64 (fld a0 0 5), .int .i64 (fld a0 5 5), .int .i64 (fld a0 16 5), .int .i64 (fld a0 10 5), .int .i64 (0), .int .u64 (0), .int .i64 (0), .int .i64 (0), .int .i64 (0)] w) := by
 have A4 := read_op hG h1
 have A5 := read_sh hG h2
 clear h1 h2
 have HP := part_all a0
 go_enter Tryz.func55, Tryz.ntmps55
 go_wp2_with (first | (go_at_call 77; (with_reducible refine (A4.out _).mono ?_); rintro e w' ⟨rfl, ⟨nd, rfl⟩⟩) | (go_at_call 40; (with_reducible refine (A5.out _ _ _ _).mono ?_); rintro e w' ⟨rfl, ⟨nd, rfl⟩⟩) | (go_at_call 78; (with_reducible refine (HP.out _ _ (by decide) _).mono ?_); rintro e w' ⟨rfl, ⟨nd, rfl⟩⟩))
 refine bodyPost_ret (results_cell_row rfl _ _ w.heap.size 40 _ (0, 0) _ rfl (row10z ?blk _ _ _ _ _ _ _ _ _ _) Tryz.underlying40 rfl (by kernel_rfl)) rfl ⟨rfl, ?bel⟩
 all_goals repeat (first | (with_reducible exact blk_new _ _) | (with_reducible exact Below.refl _ _) | (with_reducible refine kNN ?_ _) | (with_reducible refine kAA ?_ _) | (with_reducible refine blk_far ?_ (Nat.succ_ne_self _).symm _) | (with_reducible apply bAA) | (with_reducible apply bNN) | (with_reducible apply bDD) | (with_reducible refine bSS ?_ (Nat.le_refl _)) | (with_reducible refine bSS ?_ (Nat.le_succ _)))
set_option maxHeartbeats 3200000 in
set_option maxRecDepth 100000 in
theorem code_read.s7 (a0 op : Int) (w : World) (hG : Glob w) (h1 : code_Opcode.f a0 = some op) (h2 : inst_Shape.f op = some 7) :
 Calls Tryz.prog 55 #[.int .u32 a0] w (ReadPost #[.int .i64 (op), .int .i64 (fld a0 0 5), .int .i64 (fld a0 5 5), .int .i64 (0), .int .i64 (0), .int .i64 (wrap64 (fld a0 10 12 * 8)), .int .u64 (0), .int .i64 (0), .int .i64 (0), .int .i64 (0)] w) := by
 have A4 := read_op hG h1
 have A5 := read_sh hG h2
 clear h1 h2
 have HP := part_all a0
 go_enter Tryz.func55, Tryz.ntmps55
 go_wp2_with (first | (go_at_call 77; (with_reducible refine (A4.out _).mono ?_); rintro e w' ⟨rfl, ⟨nd, rfl⟩⟩) | (go_at_call 40; (with_reducible refine (A5.out _ _ _ _).mono ?_); rintro e w' ⟨rfl, ⟨nd, rfl⟩⟩) | (go_at_call 78; (with_reducible refine (HP.out _ _ (by decide) _).mono ?_); rintro e w' ⟨rfl, ⟨nd, rfl⟩⟩))
 refine bodyPost_ret (results_cell_row rfl _ _ w.heap.size 40 _ (0, 0) _ rfl (row10z ?blk _ _ _ _ _ _ _ _ _ _) Tryz.underlying40 rfl (by kernel_rfl)) rfl ⟨rfl, ?bel⟩
 all_goals repeat (first | (with_reducible exact blk_new _ _) | (with_reducible exact Below.refl _ _) | (with_reducible refine kNN ?_ _) | (with_reducible refine kAA ?_ _) | (with_reducible refine blk_far ?_ (Nat.succ_ne_self _).symm _) | (with_reducible apply bAA) | (with_reducible apply bNN) | (with_reducible apply bDD) | (with_reducible refine bSS ?_ (Nat.le_refl _)) | (with_reducible refine bSS ?_ (Nat.le_succ _)))
set_option maxHeartbeats 3200000 in
set_option maxRecDepth 100000 in
theorem code_read.s8 (a0 op : Int) (w : World) (hG : Glob w) (h1 : code_Opcode.f a0 = some op) (h2 : inst_Shape.f op = some 8) :
 Calls Tryz.prog 55 #[.int .u32 a0] w (ReadPost #[.int .i64 (op), .int .i64 (fld a0 0 5), .int .i64 (fld a0 5 5), .int .i64 (0), .int .i64 (0), .int .i64 (fld a0 10 12), .int .u64 (0), .int .i64 (0), .int .i64 (0), .int .i64 (0)] w) := by
 have A4 := read_op hG h1
 have A5 := read_sh hG h2
 clear h1 h2
 have HP := part_all a0
 go_enter Tryz.func55, Tryz.ntmps55
 go_wp2_with (first | (go_at_call 77; (with_reducible refine (A4.out _).mono ?_); rintro e w' ⟨rfl, ⟨nd, rfl⟩⟩) | (go_at_call 40; (with_reducible refine (A5.out _ _ _ _).mono ?_); rintro e w' ⟨rfl, ⟨nd, rfl⟩⟩) | (go_at_call 78; (with_reducible refine (HP.out _ _ (by decide) _).mono ?_); rintro e w' ⟨rfl, ⟨nd, rfl⟩⟩))
 refine bodyPost_ret (results_cell_row rfl _ _ w.heap.size 40 _ (0, 0) _ rfl (row10z ?blk _ _ _ _ _ _ _ _ _ _) Tryz.underlying40 rfl (by kernel_rfl)) rfl ⟨rfl, ?bel⟩
 all_goals repeat (first | (with_reducible exact blk_new _ _) | (with_reducible exact Below.refl _ _) | (with_reducible refine kNN ?_ _) | (with_reducible refine kAA ?_ _) | (with_reducible refine blk_far ?_ (Nat.succ_ne_self _).symm _) | (with_reducible apply bAA) | (with_reducible apply bNN) | (with_reducible apply bDD) | (with_reducible refine bSS ?_ (Nat.le_refl _)) | (with_reducible refine bSS ?_ (Nat.le_succ _)))
set_option maxHeartbeats 3200000 in
set_option maxRecDepth 100000 in
theorem code_read.s9 (a0 op : Int) (w : World) (hG : Glob w) (h1 : code_Opcode.f a0 = some op) (h2 : inst_Shape.f op = some 9) :
 Calls Tryz.prog 55 #[.int .u32 a0] w (ReadPost #[.int .i64 (op), .int .i64 (fld a0 0 5), .int .i64 (0), .int .i64 (0), .int .i64 (0), .int .i64 (wrap64 (sfl a0 5 19 * 4)), .int .u64 (0), .int .i64 (0), .int .i64 (0), .int .i64 (0)] w) := by
 have A4 := read_op hG h1
 have A5 := read_sh hG h2
 clear h1 h2
 have HP := part_all a0
 have HQ := signed_all a0
 go_enter Tryz.func55, Tryz.ntmps55
 go_wp2_with (first | (go_at_call 77; (with_reducible refine (A4.out _).mono ?_); rintro e w' ⟨rfl, ⟨nd, rfl⟩⟩) | (go_at_call 40; (with_reducible refine (A5.out _ _ _ _).mono ?_); rintro e w' ⟨rfl, ⟨nd, rfl⟩⟩) | (go_at_call 78; (with_reducible refine (HP.out _ _ (by decide) _).mono ?_); rintro e w' ⟨rfl, ⟨nd, rfl⟩⟩) | (go_at_call 80; (with_reducible refine (HQ.out _ _ (by decide) _).mono ?_); rintro e w' ⟨rfl, ⟨nd, rfl⟩⟩))
 refine bodyPost_ret (results_cell_row rfl _ _ w.heap.size 40 _ (0, 0) _ rfl (row10z ?blk _ _ _ _ _ _ _ _ _ _) Tryz.underlying40 rfl (by kernel_rfl)) rfl ⟨rfl, ?bel⟩
 all_goals repeat (first | (with_reducible exact blk_new _ _) | (with_reducible exact Below.refl _ _) | (with_reducible refine kNN ?_ _) | (with_reducible refine kAA ?_ _) | (with_reducible refine blk_far ?_ (Nat.succ_ne_self _).symm _) | (with_reducible apply bAA) | (with_reducible apply bNN) | (with_reducible apply bDD) | (with_reducible refine bSS ?_ (Nat.le_refl _)) | (with_reducible refine bSS ?_ (Nat.le_succ _)))
set_option maxHeartbeats 3200000 in
set_option maxRecDepth 100000 in
theorem code_read.s10 (a0 op t e1 : Int) (w : World) (hG : Glob w) (h1 : code_Opcode.f a0 = some op) (h2 : inst_Shape.f op = some 10) (h3 : bits_Signed.f 1 ((Go.bits .or .i64 (wrap64 (fld a0 5 19 * 4)) (fld a0 29 2)) % 4294967296) 21 = some (t, e1)) :
 Calls Tryz.prog 55 #[.int .u32 a0] w (ReadPost #[.int .i64 (op), .int .i64 (fld a0 0 5), .int .i64 (0), .int .i64 (0), .int .i64 (0), .int .i64 (t), .int .u64 (0), .int .i64 (0), .int .i64 (0), .int .i64 (0)] w) := by
 have A4 := read_op hG h1
 have A5 := read_sh hG h2
 clear h1 h2
 have Q21 := Azz.mk (fun W => bits_Signed.calls 1 _ 21 t e1 W h3)
 clear h3
 have HP := part_all a0
 go_enter Tryz.func55, Tryz.ntmps55
 go_wp2_with (first | (go_at_call 77; (with_reducible refine (A4.out _).mono ?_); rintro e w' ⟨rfl, ⟨nd, rfl⟩⟩) | (go_at_call 40; (with_reducible refine (A5.out _ _ _ _).mono ?_); rintro e w' ⟨rfl, ⟨nd, rfl⟩⟩) | (go_at_call 78; (with_reducible refine (HP.out _ _ (by decide) _).mono ?_); rintro e w' ⟨rfl, ⟨nd, rfl⟩⟩) | (go_at_call 81; (with_reducible refine (Q21.out _).mono ?_); rintro e w' ⟨rfl, ⟨nd, rfl⟩⟩))
 refine bodyPost_ret (results_cell_row rfl _ _ w.heap.size 40 _ (0, 0) _ rfl (row10z ?blk _ _ _ _ _ _ _ _ _ _) Tryz.underlying40 rfl (by kernel_rfl)) rfl ⟨rfl, ?bel⟩
 all_goals repeat (first | (with_reducible exact blk_new _ _) | (with_reducible exact Below.refl _ _) | (with_reducible refine kNN ?_ _) | (with_reducible refine kAA ?_ _) | (with_reducible refine blk_far ?_ (Nat.succ_ne_self _).symm _) | (with_reducible apply bAA) | (with_reducible apply bNN) | (with_reducible apply bDD) | (with_reducible refine bSS ?_ (Nat.le_refl _)) | (with_reducible refine bSS ?_ (Nat.le_succ _)))
set_option maxHeartbeats 3200000 in
set_option maxRecDepth 100000 in
theorem code_read.s11 (a0 op : Int) (w : World) (hG : Glob w) (h1 : code_Opcode.f a0 = some op) (h2 : inst_Shape.f op = some 11) :
 Calls Tryz.prog 55 #[.int .u32 a0] w (ReadPost #[.int .i64 (op), .int .i64 (0), .int .i64 (0), .int .i64 (0), .int .i64 (0), .int .i64 (wrap64 (sfl a0 0 26 * 4)), .int .u64 (0), .int .i64 (0), .int .i64 (0), .int .i64 (0)] w) := by
 have A4 := read_op hG h1
 have A5 := read_sh hG h2
 clear h1 h2
 have HP := part_all a0
 have HQ := signed_all a0
 go_enter Tryz.func55, Tryz.ntmps55
 go_wp2_with (first | (go_at_call 77; (with_reducible refine (A4.out _).mono ?_); rintro e w' ⟨rfl, ⟨nd, rfl⟩⟩) | (go_at_call 40; (with_reducible refine (A5.out _ _ _ _).mono ?_); rintro e w' ⟨rfl, ⟨nd, rfl⟩⟩) | (go_at_call 78; (with_reducible refine (HP.out _ _ (by decide) _).mono ?_); rintro e w' ⟨rfl, ⟨nd, rfl⟩⟩) | (go_at_call 80; (with_reducible refine (HQ.out _ _ (by decide) _).mono ?_); rintro e w' ⟨rfl, ⟨nd, rfl⟩⟩))
 refine bodyPost_ret (results_cell_row rfl _ _ w.heap.size 40 _ (0, 0) _ rfl (row10z ?blk _ _ _ _ _ _ _ _ _ _) Tryz.underlying40 rfl (by kernel_rfl)) rfl ⟨rfl, ?bel⟩
 all_goals repeat (first | (with_reducible exact blk_new _ _) | (with_reducible exact Below.refl _ _) | (with_reducible refine kNN ?_ _) | (with_reducible refine kAA ?_ _) | (with_reducible refine blk_far ?_ (Nat.succ_ne_self _).symm _) | (with_reducible apply bAA) | (with_reducible apply bNN) | (with_reducible apply bDD) | (with_reducible refine bSS ?_ (Nat.le_refl _)) | (with_reducible refine bSS ?_ (Nat.le_succ _)))
set_option maxHeartbeats 3200000 in
set_option maxRecDepth 100000 in
theorem code_read.s12 (a0 op : Int) (w : World) (hG : Glob w) (h1 : code_Opcode.f a0 = some op) (h2 : inst_Shape.f op = some 12) :
 Calls Tryz.prog 55 #[.int .u32 a0] w (ReadPost #[.int .i64 (op), .int .i64 (0), .int .i64 (0), .int .i64 (0), .int .i64 (0), .int .i64 (wrap64 (sfl a0 5 19 * 4)), .int .u64 (0), .int .i64 (0), .int .i64 (0), .int .i64 (fld a0 0 4)] w) := by
 have A4 := read_op hG h1
 have A5 := read_sh hG h2
 clear h1 h2
 have HP := part_all a0
 have HQ := signed_all a0
 go_enter Tryz.func55, Tryz.ntmps55
 go_wp2_with (first | (go_at_call 77; (with_reducible refine (A4.out _).mono ?_); rintro e w' ⟨rfl, ⟨nd, rfl⟩⟩) | (go_at_call 40; (with_reducible refine (A5.out _ _ _ _).mono ?_); rintro e w' ⟨rfl, ⟨nd, rfl⟩⟩) | (go_at_call 78; (with_reducible refine (HP.out _ _ (by decide) _).mono ?_); rintro e w' ⟨rfl, ⟨nd, rfl⟩⟩) | (go_at_call 80; (with_reducible refine (HQ.out _ _ (by decide) _).mono ?_); rintro e w' ⟨rfl, ⟨nd, rfl⟩⟩))
 refine bodyPost_ret (results_cell_row rfl _ _ w.heap.size 40 _ (0, 0) _ rfl (row10z ?blk _ _ _ _ _ _ _ _ _ _) Tryz.underlying40 rfl (by kernel_rfl)) rfl ⟨rfl, ?bel⟩
 all_goals repeat (first | (with_reducible exact blk_new _ _) | (with_reducible exact Below.refl _ _) | (with_reducible refine kNN ?_ _) | (with_reducible refine kAA ?_ _) | (with_reducible refine blk_far ?_ (Nat.succ_ne_self _).symm _) | (with_reducible apply bAA) | (with_reducible apply bNN) | (with_reducible apply bDD) | (with_reducible refine bSS ?_ (Nat.le_refl _)) | (with_reducible refine bSS ?_ (Nat.le_succ _)))
set_option maxHeartbeats 3200000 in
set_option maxRecDepth 100000 in
theorem code_read.s13 (a0 op : Int) (w : World) (hG : Glob w) (h1 : code_Opcode.f a0 = some op) (h2 : inst_Shape.f op = some 13) :
 Calls Tryz.prog 55 #[.int .u32 a0] w (ReadPost #[.int .i64 (op), .int .i64 (0), .int .i64 (fld a0 5 5), .int .i64 (0), .int .i64 (0), .int .i64 (0), .int .u64 (0), .int .i64 (0), .int .i64 (0), .int .i64 (0)] w) := by
 have A4 := read_op hG h1
 have A5 := read_sh hG h2
 clear h1 h2
 have HP := part_all a0
 go_enter Tryz.func55, Tryz.ntmps55
 go_wp2_with (first | (go_at_call 77; (with_reducible refine (A4.out _).mono ?_); rintro e w' ⟨rfl, ⟨nd, rfl⟩⟩) | (go_at_call 40; (with_reducible refine (A5.out _ _ _ _).mono ?_); rintro e w' ⟨rfl, ⟨nd, rfl⟩⟩) | (go_at_call 78; (with_reducible refine (HP.out _ _ (by decide) _).mono ?_); rintro e w' ⟨rfl, ⟨nd, rfl⟩⟩))
 refine bodyPost_ret (results_cell_row rfl _ _ w.heap.size 40 _ (0, 0) _ rfl (row10z ?blk _ _ _ _ _ _ _ _ _ _) Tryz.underlying40 rfl (by kernel_rfl)) rfl ⟨rfl, ?bel⟩
 all_goals repeat (first | (with_reducible exact blk_new _ _) | (with_reducible exact Below.refl _ _) | (with_reducible refine kNN ?_ _) | (with_reducible refine kAA ?_ _) | (with_reducible refine blk_far ?_ (Nat.succ_ne_self _).symm _) | (with_reducible apply bAA) | (with_reducible apply bNN) | (with_reducible apply bDD) | (with_reducible refine bSS ?_ (Nat.le_refl _)) | (with_reducible refine bSS ?_ (Nat.le_succ _)))
set_option maxHeartbeats 3200000 in
set_option maxRecDepth 100000 in
theorem code_read.s14 (a0 op : Int) (w : World) (hG : Glob w) (h1 : code_Opcode.f a0 = some op) (h2 : inst_Shape.f op = some 14) :
 Calls Tryz.prog 55 #[.int .u32 a0] w (ReadPost #[.int .i64 (op), .int .i64 (0), .int .i64 (0), .int .i64 (0), .int .i64 (0), .int .i64 (fld a0 5 16), .int .u64 (0), .int .i64 (0), .int .i64 (0), .int .i64 (0)] w) := by
 have A4 := read_op hG h1
 have A5 := read_sh hG h2
 clear h1 h2
 have HP := part_all a0
 go_enter Tryz.func55, Tryz.ntmps55
 go_wp2_with (first | (go_at_call 77; (with_reducible refine (A4.out _).mono ?_); rintro e w' ⟨rfl, ⟨nd, rfl⟩⟩) | (go_at_call 40; (with_reducible refine (A5.out _ _ _ _).mono ?_); rintro e w' ⟨rfl, ⟨nd, rfl⟩⟩) | (go_at_call 78; (with_reducible refine (HP.out _ _ (by decide) _).mono ?_); rintro e w' ⟨rfl, ⟨nd, rfl⟩⟩))
 refine bodyPost_ret (results_cell_row rfl _ _ w.heap.size 40 _ (0, 0) _ rfl (row10z ?blk _ _ _ _ _ _ _ _ _ _) Tryz.underlying40 rfl (by kernel_rfl)) rfl ⟨rfl, ?bel⟩
 all_goals repeat (first | (with_reducible exact blk_new _ _) | (with_reducible exact Below.refl _ _) | (with_reducible refine kNN ?_ _) | (with_reducible refine kAA ?_ _) | (with_reducible refine blk_far ?_ (Nat.succ_ne_self _).symm _) | (with_reducible apply bAA) | (with_reducible apply bNN) | (with_reducible apply bDD) | (with_reducible refine bSS ?_ (Nat.le_refl _)) | (with_reducible refine bSS ?_ (Nat.le_succ _)))
set_option maxHeartbeats 3200000 in
set_option maxRecDepth 100000 in
theorem code_read.s15 (a0 op : Int) (w : World) (hG : Glob w) (h1 : code_Opcode.f a0 = some op) (h2 : inst_Shape.f op = some 15) :
 Calls Tryz.prog 55 #[.int .u32 a0] w (ReadPost #[.int .i64 (op), .int .i64 (0), .int .i64 (0), .int .i64 (0), .int .i64 (0), .int .i64 (0), .int .u64 (0), .int .i64 (0), .int .i64 (0), .int .i64 (0)] w) := by
 have A4 := read_op hG h1
 have A5 := read_sh hG h2
 clear h1 h2
 have HP := part_all a0
 go_enter Tryz.func55, Tryz.ntmps55
 go_wp2_with (first | (go_at_call 77; (with_reducible refine (A4.out _).mono ?_); rintro e w' ⟨rfl, ⟨nd, rfl⟩⟩) | (go_at_call 40; (with_reducible refine (A5.out _ _ _ _).mono ?_); rintro e w' ⟨rfl, ⟨nd, rfl⟩⟩) | (go_at_call 78; (with_reducible refine (HP.out _ _ (by decide) _).mono ?_); rintro e w' ⟨rfl, ⟨nd, rfl⟩⟩))
 refine bodyPost_ret (results_cell_row rfl _ _ w.heap.size 40 _ (0, 0) _ rfl (row10z ?blk _ _ _ _ _ _ _ _ _ _) Tryz.underlying40 rfl (by kernel_rfl)) rfl ⟨rfl, ?bel⟩
 all_goals repeat (first | (with_reducible exact blk_new _ _) | (with_reducible exact Below.refl _ _) | (with_reducible refine kNN ?_ _) | (with_reducible refine kAA ?_ _) | (with_reducible refine blk_far ?_ (Nat.succ_ne_self _).symm _) | (with_reducible apply bAA) | (with_reducible apply bNN) | (with_reducible apply bDD) | (with_reducible refine bSS ?_ (Nat.le_refl _)) | (with_reducible refine bSS ?_ (Nat.le_succ _)))
set_option maxHeartbeats 3200000 in
set_option maxRecDepth 100000 in
theorem code_read.s16 (a0 op : Int) (w : World) (hG : Glob w) (h1 : code_Opcode.f a0 = some op) (h2 : inst_Shape.f op = some 16) :
 Calls Tryz.prog 55 #[.int .u32 a0] w (ReadPost #[.int .i64 (op), .int .i64 (fld a0 0 5), .int .i64 (fld a0 5 5), .int .i64 (fld a0 16 5), .int .i64 (0), .int .i64 (0), .int .u64 (0), .int .i64 (0), .int .i64 (0), .int .i64 (fld a0 12 4)] w) := by
 have A4 := read_op hG h1
 have A5 := read_sh hG h2
 clear h1 h2
 have HP := part_all a0
 go_enter Tryz.func55, Tryz.ntmps55
 go_wp2_with (first | (go_at_call 77; (with_reducible refine (A4.out _).mono ?_); rintro e w' ⟨rfl, ⟨nd, rfl⟩⟩) | (go_at_call 40; (with_reducible refine (A5.out _ _ _ _).mono ?_); rintro e w' ⟨rfl, ⟨nd, rfl⟩⟩) | (go_at_call 78; (with_reducible refine (HP.out _ _ (by decide) _).mono ?_); rintro e w' ⟨rfl, ⟨nd, rfl⟩⟩))
 refine bodyPost_ret (results_cell_row rfl _ _ w.heap.size 40 _ (0, 0) _ rfl (row10z ?blk _ _ _ _ _ _ _ _ _ _) Tryz.underlying40 rfl (by kernel_rfl)) rfl ⟨rfl, ?bel⟩
 all_goals repeat (first | (with_reducible exact blk_new _ _) | (with_reducible exact Below.refl _ _) | (with_reducible refine kNN ?_ _) | (with_reducible refine kAA ?_ _) | (with_reducible refine blk_far ?_ (Nat.succ_ne_self _).symm _) | (with_reducible apply bAA) | (with_reducible apply bNN) | (with_reducible apply bDD) | (with_reducible refine bSS ?_ (Nat.le_refl _)) | (with_reducible refine bSS ?_ (Nat.le_succ _)))
def code_read.of (k : Nat) (a0 op s : Int) : Option (Int × Int × Int × Int × Int × Int × Int × Int × Int × Int) := if s = 1 then some (op, fld a0 0 5, 0, 0, 0, fld a0 5 16, 0, 0, wrap64 (fld a0 21 2 * 16), 0) else (if s = 2 then some (op, fld a0 0 5, fld a0 5 5, 0, 0, fld a0 10 12, 0, 0, wrap64 (fld a0 22 1 * 12), 0) else (if s = 3 then (code_masked.f k a0).bind fun mk => some (op, fld a0 0 5, fld a0 5 5, 0, 0, 0, mk, 0, 0, 0) else (if s = 4 then some (op, fld a0 0 5, fld a0 5 5, fld a0 16 5, 0, 0, 0, fld a0 22 2, fld a0 10 6, 0) else (if s = 5 then some (op, fld a0 0 5, fld a0 5 5, fld a0 16 5, 0, 0, 0, fld a0 22 2, fld a0 10 6, 0) else (if s = 6 then some (op, fld a0 0 5, fld a0 5 5, fld a0 16 5, fld a0 10 5, 0, 0, 0, 0, 0) else (if s = 7 then some (op, fld a0 0 5, fld a0 5 5, 0, 0, wrap64 (fld a0 10 12 * 8), 0, 0, 0, 0) else (if s = 8 then some (op, fld a0 0 5, fld a0 5 5, 0, 0, fld a0 10 12, 0, 0, 0, 0) else (if s = 9 then some (op, fld a0 0 5, 0, 0, 0, wrap64 (sfl a0 5 19 * 4), 0, 0, 0, 0) else (if s = 10 then (bits_Signed.f 1 ((Go.bits .or .i64 (wrap64 (fld a0 5 19 * 4)) (fld a0 29 2)) % 4294967296) 21).bind fun t => some (op, fld a0 0 5, 0, 0, 0, t.1, 0, 0, 0, 0) else (if s = 11 then some (op, 0, 0, 0, 0, wrap64 (sfl a0 0 26 * 4), 0, 0, 0, 0) else (if s = 12 then some (op, 0, 0, 0, 0, wrap64 (sfl a0 5 19 * 4), 0, 0, 0, fld a0 0 4) else (if s = 13 then some (op, 0, fld a0 5 5, 0, 0, 0, 0, 0, 0, 0) else (if s = 14 then some (op, 0, 0, 0, 0, fld a0 5 16, 0, 0, 0, 0) else (if s = 15 then some (op, 0, 0, 0, 0, 0, 0, 0, 0, 0) else (if s = 16 then some (op, fld a0 0 5, fld a0 5 5, fld a0 16 5, 0, 0, 0, 0, 0, fld a0 12 4) else (none))))))))))))))))
def code_read.f (k : Nat) (a0 : Int) : Option (Int × Int × Int × Int × Int × Int × Int × Int × Int × Int) := (code_Opcode.f a0).bind fun op => (inst_Shape.f op).bind fun s => code_read.of k a0 op s
theorem code_read.calls (k : Nat) (a0 : Int) (r1 : Int) (r2 : Int) (r3 : Int) (r4 : Int) (r5 : Int) (r6 : Int) (r7 : Int) (r8 : Int) (r9 : Int) (r10 : Int) (w : World) (hG : Glob w) (h : code_read.f k a0 = some (r1, r2, r3, r4, r5, r6, r7, r8, r9, r10)) :
 Calls Tryz.prog 55 #[.int .u32 a0] w fun e w' => e = .returned (.agg #[.int .i64 r1, .int .i64 r2, .int .i64 r3, .int .i64 r4, .int .i64 r5, .int .i64 r6, .int .u64 r7, .int .i64 r8, .int .i64 r9, .int .i64 r10]) ∧ Below w.heap.size w w' := by
 unfold code_read.f at h
 obtain ⟨op, h1, h⟩ := Option.bind_eq_some_iff.mp h
 obtain ⟨s, h2, h⟩ := Option.bind_eq_some_iff.mp h
 unfold code_read.of at h
 by_cases c1 : s = 1
 ·rw [if_pos c1] at h
  subst c1
  cases h
  exact code_read.s1 a0 _ w hG h1 h2
 rw [if_neg c1] at h
 by_cases c2 : s = 2
 ·rw [if_pos c2] at h
  subst c2
  cases h
  exact code_read.s2 a0 _ w hG h1 h2
 rw [if_neg c2] at h
 by_cases c3 : s = 3
 ·rw [if_pos c3] at h
  subst c3
  obtain ⟨mk, h3, h⟩ := Option.bind_eq_some_iff.mp h
  cases h
  exact code_read.s3 a0 _ _ w hG h1 h2 k h3
 rw [if_neg c3] at h
 by_cases c4 : s = 4
 ·rw [if_pos c4] at h
  subst c4
  cases h
  exact code_read.s4 a0 _ w hG h1 h2
 rw [if_neg c4] at h
 by_cases c5 : s = 5
 ·rw [if_pos c5] at h
  subst c5
  cases h
  exact code_read.s5 a0 _ w hG h1 h2
 rw [if_neg c5] at h
 by_cases c6 : s = 6
 ·rw [if_pos c6] at h
  subst c6
  cases h
  exact code_read.s6 a0 _ w hG h1 h2
 rw [if_neg c6] at h
 by_cases c7 : s = 7
 ·rw [if_pos c7] at h
  subst c7
  cases h
  exact code_read.s7 a0 _ w hG h1 h2
 rw [if_neg c7] at h
 by_cases c8 : s = 8
 ·rw [if_pos c8] at h
  subst c8
  cases h
  exact code_read.s8 a0 _ w hG h1 h2
 rw [if_neg c8] at h
 by_cases c9 : s = 9
 ·rw [if_pos c9] at h
  subst c9
  cases h
  exact code_read.s9 a0 _ w hG h1 h2
 rw [if_neg c9] at h
 by_cases c10 : s = 10
 ·rw [if_pos c10] at h
  subst c10
  obtain ⟨⟨t, e1⟩, h3, h⟩ := Option.bind_eq_some_iff.mp h
  cases h
  exact code_read.s10 a0 _ _ _ w hG h1 h2 h3
 rw [if_neg c10] at h
 by_cases c11 : s = 11
 ·rw [if_pos c11] at h
  subst c11
  cases h
  exact code_read.s11 a0 _ w hG h1 h2
 rw [if_neg c11] at h
 by_cases c12 : s = 12
 ·rw [if_pos c12] at h
  subst c12
  cases h
  exact code_read.s12 a0 _ w hG h1 h2
 rw [if_neg c12] at h
 by_cases c13 : s = 13
 ·rw [if_pos c13] at h
  subst c13
  cases h
  exact code_read.s13 a0 _ w hG h1 h2
 rw [if_neg c13] at h
 by_cases c14 : s = 14
 ·rw [if_pos c14] at h
  subst c14
  cases h
  exact code_read.s14 a0 _ w hG h1 h2
 rw [if_neg c14] at h
 by_cases c15 : s = 15
 ·rw [if_pos c15] at h
  subst c15
  cases h
  exact code_read.s15 a0 _ w hG h1 h2
 rw [if_neg c15] at h
 by_cases c16 : s = 16
 ·rw [if_pos c16] at h
  subst c16
  cases h
  exact code_read.s16 a0 _ w hG h1 h2
 rw [if_neg c16] at h
 exact absurd h (by simp)
end Go.Proofs.YtpcdebakiccecaaGreatDoor.P
