/- Walks and plain laws of this claim, a part. -/
import Derived.Test.YtngmipfodjgmmaaGreatDoorFz23
set_option maxRecDepth 100000
set_option maxHeartbeats 8000000
set_option linter.unusedVariables false
set_option linter.unusedSimpArgs false
namespace Go.Proofs.YtngmipfodjgmmaaGreatDoor.P
open Go.RowKit Wa Wb Wc
attribute [local go_sem] max2_int min2_int max_two min_two max_three min_three max_four min_four
def bits_right.f (a0 : Int) (a1 : Int) : Option (Bool) := if a0 ≥ 0 then (if a1 ≥ 1 then (if a1 ≤ 32 then (some (decide (a0 ≤ (wrap64 (32 - a1))))) else (some false)) else (some false)) else (some false)
theorem bits_right.calls (a0 : Int) (a1 : Int) (r : Bool) (w : World) (h : bits_right.f a0 a1 = some r) :
 Calls Tryz.prog 163 #[.int .i64 a0, .int .i64 a1] w fun e w' => e = .returned (.bool r) ∧ Drawn0 w w' := by
 have H : (if a0 ≥ 0 then (if a1 ≥ 1 then (if a1 ≤ 32 then (some (decide (a0 ≤ (wrap64 (32 - a1))))) else (some false)) else (some false)) else (some false)) = some r := h
 clear h
 by_cases c3 : a0 ≥ 0
 rotate_left
 ·rw [if_neg c3] at H
  have c3b0 := dF_ c3
  clear c3
  obtain rfl := sI H
  go_enter Tryz.func163, Tryz.ntmps163
  go_wp2
  go_ret
  exact ⟨by first | rfl | (simp; done) | (simp [*]; done), d0S⟩
 rw [if_pos c3] at H
 have c3b0 := dT_ c3
 clear c3
 by_cases c4 : a1 ≥ 1
 ·rw [if_pos c4] at H
  have c4b0 := dT_ c4
  clear c4
  by_cases c5 : a1 ≤ 32
  ·rw [if_pos c5] at H
   have c5b0 := dT_ c5
   clear c5
   obtain rfl := sI H
   go_enter Tryz.func163, Tryz.ntmps163
   go_wp2
   go_ret
   exact ⟨by first | rfl | (simp; done) | (simp [*]; done), d0S⟩
  rw [if_neg c5] at H
  have c5b0 := dF_ c5
  clear c5
  obtain rfl := sI H
  go_enter Tryz.func163, Tryz.ntmps163
  go_wp2
  go_ret
  exact ⟨by first | rfl | (simp; done) | (simp [*]; done), d0S⟩
 rw [if_neg c4] at H
 have c4b0 := dF_ c4
 clear c4
 obtain rfl := sI H
 go_enter Tryz.func163, Tryz.ntmps163
 go_wp2
 go_ret
 exact ⟨by first | rfl | (simp; done) | (simp [*]; done), d0S⟩
def bits_Field.f (a0 : Int) (a1 : Int) (a2 : Int) : Option (Int × Int) := (bits_right.f a1 a2).bind fun t116 => (if t116 = true then (if 0 ≤ a1 then (if 0 ≤ a2 then (some (Go.bits .and .u32 (shr .u32 a0 a1) (((shl .u32 1 a2) - 1) % 4294967296), 0)) else (none)) else (none)) else (some (0, 1)))
theorem bits_Field.calls (a0 : Int) (a1 : Int) (a2 : Int) (r1 : Int) (r2 : Int) (w : World) (h : bits_Field.f a0 a1 a2 = some (r1, r2)) :
 Calls Tryz.prog 146 #[.int .u32 a0, .int .i64 a1, .int .i64 a2] w fun e w' => e = .returned (.tuple #[.int .u32 r1, .int .i64 r2]) ∧ Drawn0 w w' := by
 have H : ((bits_right.f a1 a2).bind fun t116 => (if t116 = true then (if 0 ≤ a1 then (if 0 ≤ a2 then (some (Go.bits .and .u32 (shr .u32 a0 a1) (((shl .u32 1 a2) - 1) % 4294967296), 0)) else (none)) else (none)) else (some (0, 1)))) = some (r1, r2) := h
 clear h
 obtain ⟨t116, A4, H⟩ := bnd H
 (try dsimp only at H)
 by_cases c5 : t116 = true
 rotate_left
 ·replace c5 := Bool.eq_false_iff.mpr c5
  subst c5
  rw [if_neg nFT] at H
  simp only [sJ_, pJ_] at H
  obtain ⟨rfl, rfl⟩ := H
  go_enter Tryz.func146, Tryz.ntmps146
  go_wp2_with (first | (go_at_call 163; (with_reducible refine (bits_right.calls a1 a2 false _ A4.out).mono ?_); rintro e w' ⟨rfl, ⟨nd, rfl⟩⟩; (try first | exact ⟨rfl, _, dd2⟩ | exact ⟨rfl, _, dd3⟩)))
  repeat (go_quiet (first | (go_at_call 163; (with_reducible refine (bits_right.calls a1 a2 false _ A4.out).mono ?_); rintro e w' ⟨rfl, ⟨nd, rfl⟩⟩; (try first | exact ⟨rfl, _, dd2⟩ | exact ⟨rfl, _, dd3⟩))); try go_wp2_with (first | (go_at_call 163; (with_reducible refine (bits_right.calls a1 a2 false _ A4.out).mono ?_); rintro e w' ⟨rfl, ⟨nd, rfl⟩⟩; (try first | exact ⟨rfl, _, dd2⟩ | exact ⟨rfl, _, dd3⟩))))
  go_ret2
  exact ⟨by first | rfl | (simp; done) | (simp [*]; done), d0S⟩
 subst c5
 rw [if_pos rfl] at H
 by_cases c6 : 0 ≤ a1
 rotate_left
 ·rw [if_neg c6] at H
  exact absurd H (by simp)
 rw [if_pos c6] at H
 have c6b0 := eq_true c6
 have c6b1 := dT_ c6
 clear c6
 obtain ⟨ji7, hji7⟩ : ∃ j_ : Int, (shr .u32 a0 a1) = j_ := ⟨_, rfl⟩
 replace H : (if 0 ≤ a2 then (some (Go.bits .and .u32 (ji7) (((shl .u32 1 a2) - 1) % 4294967296), 0)) else (none)) = some (r1, r2) := by first | (rw [hji7] at H; exact H) | (simp only [hji7] at H ⊢; exact H)
 (try rw [hji7] at A4)
 have hji7_ : (a0 / 2 ^ min a1.toNat 32) = ji7 := hji7
 have hji7z : a1 ≤ 32 → (a0 / 2 ^ a1.toNat) = ji7 := shr_small hji7
 by_cases c8 : 0 ≤ a2
 ·rw [if_pos c8] at H
  have c8b0 := eq_true c8
  have c8b1 := dT_ c8
  clear c8
  obtain ⟨ji9, hji9⟩ : ∃ j_ : Int, (shl .u32 1 a2) = j_ := ⟨_, rfl⟩
  replace H : (some (Go.bits .and .u32 (ji7) (((ji9) - 1) % 4294967296), 0)) = some (r1, r2) := by first | (rw [hji9] at H; exact H) | (simp only [hji9] at H ⊢; exact H)
  (try rw [hji9] at A4)
  have hji9_ : (IntKind.u32.wrap (1 * 2 ^ min a2.toNat 32)) = ji9 := hji9
  have hji9z : a2 ≤ 32 → (IntKind.u32.wrap (1 * 2 ^ a2.toNat)) = ji9 := shl_small hji9
  have hji9u : (IntKind.u32.wrap (2 ^ min a2.toNat 32)) = ji9 := by have h_ := hji9_; rw [Int.one_mul] at h_; exact h_
  have hji9v : a2 ≤ 32 → (IntKind.u32.wrap (2 ^ a2.toNat)) = ji9 := fun hle_ => by have h_ := hji9z hle_; rw [Int.one_mul] at h_; exact h_
  simp only [sJ_, pJ_] at H
  obtain ⟨rfl, rfl⟩ := H
  go_enter Tryz.func146, Tryz.ntmps146
  go_wp2_with (first | (go_at_call 163; (with_reducible refine (bits_right.calls a1 a2 true _ A4.out).mono ?_); rintro e w' ⟨rfl, ⟨nd, rfl⟩⟩; (try first | exact ⟨rfl, _, dd2⟩ | exact ⟨rfl, _, dd3⟩)))
  repeat (go_quiet (first | (go_at_call 163; (with_reducible refine (bits_right.calls a1 a2 true _ A4.out).mono ?_); rintro e w' ⟨rfl, ⟨nd, rfl⟩⟩; (try first | exact ⟨rfl, _, dd2⟩ | exact ⟨rfl, _, dd3⟩))); try go_wp2_with (first | (go_at_call 163; (with_reducible refine (bits_right.calls a1 a2 true _ A4.out).mono ?_); rintro e w' ⟨rfl, ⟨nd, rfl⟩⟩; (try first | exact ⟨rfl, _, dd2⟩ | exact ⟨rfl, _, dd3⟩))))
  go_ret2
  exact ⟨by first | rfl | (simp; done) | (simp only [← hji7, ← hji9] <;> (first | rfl | simp)) | (simp [*]; done), d0S⟩
 rw [if_neg c8] at H
 exact absurd H (by simp)
def code_part.f (a0 : Int) (a1 : Int) (a2 : Int) : Option (Int) := (bits_Field.f a0 a1 a2).bind fun bt117 => (some (wrap64 (bt117.1)))
theorem code_part.calls (a0 : Int) (a1 : Int) (a2 : Int) (r : Int) (w : World) (h : code_part.f a0 a1 a2 = some r) :
 Calls Tryz.prog 117 #[.int .u32 a0, .int .i64 a1, .int .i64 a2] w fun e w' => e = .returned (.int .i64 r) ∧ Drawn0 w w' := by
 have H : ((bits_Field.f a0 a1 a2).bind fun bt117 => (some (wrap64 (bt117.1)))) = some r := h
 clear h
 obtain ⟨⟨t117, t118⟩, A4, H⟩ := bnd H
 (try dsimp only at H)
 obtain rfl := sI H
 go_enter Tryz.func117, Tryz.ntmps117
 go_wp2_with (first | ((with_reducible refine g_c (f := 146) rfl ?_); refine gM (some 13) rfl rfl Tryz.func146 #[.int .u32 a0, .int .i64 a1, .int .i64 a2] rfl ?_; (with_reducible refine (bits_Field.calls a0 a1 a2 t117 t118 _ A4.out).mono ?_); rintro e w' ⟨rfl, ⟨nd, rfl⟩⟩; refine ⟨_, rfl, ?_⟩))
 go_ret
 exact ⟨by first | rfl | (simp; done) | (simp [*]; done), d0S⟩
def mask_extra.f (a0 : Int) : Option (Int) := if a0 = 64 then (some 0) else (some (wrap64 (64 - (wrap64 (2 * a0)))))
theorem mask_extra.calls (a0 : Int) (r : Int) (w : World) (h : mask_extra.f a0 = some r) :
 Calls Tryz.prog 179 #[.int .i64 a0] w fun e w' => e = .returned (.int .i64 r) ∧ Drawn0 w w' := by
 have H : (if a0 = 64 then (some 0) else (some (wrap64 (64 - (wrap64 (2 * a0)))))) = some r := h
 clear h
 by_cases c2 : a0 = 64
 ·rw [if_pos c2] at H
  obtain ⟨c2b0, c2b1⟩ := be_ c2
  clear c2
  obtain rfl := sI H
  go_enter Tryz.func179, Tryz.ntmps179
  go_wp2
  go_ret
  exact ⟨by first | rfl | (simp; done) | (simp [*]; done), d0S⟩
 rw [if_neg c2] at H
 obtain ⟨c2b0, c2b1⟩ := bn_ c2
 obtain rfl := sI H
 go_enter Tryz.func179, Tryz.ntmps179
 go_wp2
 go_ret
 exact ⟨by first | rfl | (simp; done) | (simp [*]; done), d0S⟩
def mask_read.l0 : Nat → Int → Int → Int → Int → Option (Int × Int × Int)
 | 0, _, _, _, _ => none
 | k + 1, n, r, s, x => if x ≤ 64 then (if ((x == 64) == (n == 1)) = true then (if s + 1 - (if x = 64 then 0 else 64 - 2 * x) ≥ 1 then (if s + 1 - (if x = 64 then 0 else 64 - 2 * x) < x then (if r < x then some (x, r, s + 1 - (if x = 64 then 0 else 64 - 2 * x)) else mask_read.l0 k n r s (x * 2)) else mask_read.l0 k n r s (x * 2)) else mask_read.l0 k n r s (x * 2)) else mask_read.l0 k n r s (x * 2)) else some (0, 0, 0)
def mask_read.f (n : Int) (r : Int) (s : Int) : Option (Int × Int × Int) := if 0 ≤ s ∧ s ≤ 63 then mask_read.l0 7 n r s 2 else none
theorem mask_sizes1.calls (b : Nat) (x : Int) (w : World) (hc : w.cell? ⟨b, 0, none⟩ = some (.int .i64 x)) (hf : w.frozen? ⟨b, 0, none⟩ = false) (hx0 : 0 ≤ x) (hx1 : x ≤ 1000) :
 Calls Tryz.prog 181 #[.pointer (some ⟨b, 0, none⟩)] w fun e w' => e = .returned (.int .i64 (x * 2)) ∧ w' = w.setCell ⟨b, 0, none⟩ (.int .i64 (x * 2)) := by
 go_enter Tryz.func181, Tryz.ntmps181
 go_wp2
 go_ret
 exact ⟨rfl, rfl⟩
theorem mask_sizes.calls (w : World) :
 Calls Tryz.prog 178 #[] w fun e w' => e = .returned (.func (.func 181) #[] #[.pointer (some ⟨w.heap.size, 0, none⟩)]) ∧ w' = w.alloc (.cells #[.int .i64 1] 3) := by
 have hmf : ∀ (fn : Fn) (first cap : Array Value) (w : World), (Instr.makeFunc fn first cap).run Tryz.prog w = .ok (.func fn first cap) w := fun _ _ _ _ => rfl
 go_enter Tryz.func178, Tryz.ntmps178
 go_wp2
 go_ret
 exact ⟨rfl, rfl⟩
theorem mask_extra_some (x : Int) (h0 : 0 ≤ x) (h1 : x ≤ 1000) : mask_extra.f x = some (if x = 64 then 0 else 64 - 2 * x) := by
 unfold mask_extra.f
 by_cases h : x = 64
 ·rw [if_pos h, if_pos h]
 rw [if_neg h, if_neg h]
 congr 1
 unfold wrap64
 omega
theorem set_own (W : World) (T : TypeId) (v u : Value) (m : Nat) : ((W.alloc (.cells #[v] T)).drewN m).setCell ⟨W.heap.size, 0, none⟩ u = (W.alloc (.cells #[u] T)).drewN m := by
 have h : (W.alloc (.cells #[v] T)).setCell ⟨W.heap.size, 0, none⟩ u = W.alloc (.cells #[u] T) := by go_simp
 rw [← h]; rfl
theorem mask_read.calls (a0 : Int) (a1 : Int) (a2 : Int) (r1 : Int) (r2 : Int) (r3 : Int) (w : World) (h : mask_read.f a0 a1 a2 = some (r1, r2, r3)) :
 Calls Tryz.prog 164 #[.int .i64 a0, .int .i64 a1, .int .i64 a2] w fun e w' => e = .returned (.agg #[.int .i64 r1, .int .i64 r2, .int .i64 r3]) ∧ Below w.heap.size w w' := by
 unfold mask_read.f at h
 by_cases hs : 0 ≤ a2 ∧ a2 ≤ 63
 rotate_left
 ·rw [if_neg hs] at h
  exact absurd h (by simp)
 rw [if_pos hs] at h
 obtain ⟨hs0, hs1⟩ := hs
 have H' := Azz.mk h
 clear h
 go_enter Tryz.func164, Tryz.ntmps164
 go_wp2_with (first | (go_at_call 178; refine (mask_sizes.calls _).mono ?_; rintro e w' ⟨rfl, rfl⟩) | (go_at_call 181; refine (mask_sizes1.calls _ 1 _ (by go_simp) (by go_simp) (by omega) (by omega)).mono ?_; rintro e w' ⟨rfl, rfl⟩))
 go_loopg [8, 9] 7 (fun kq v8 v9 w' => ∃ (x : Int), v8 = .int .i64 x ∧ (2 ≤ x ∧ x ≤ 128) ∧ Azz (mask_read.l0 kq a0 a1 a2 x = some (r1, r2, r3)) ∧ ∃ m : Nat, w' = ((w.alloc (Obj.cells #[Value.int IntKind.i64 0, Value.int IntKind.i64 0, Value.int IntKind.i64 0] 197)).alloc (Obj.cells #[Value.int IntKind.i64 x] 3)).drewN m)
 case atStart => exact ⟨2, rfl, by omega, H', 0, rfl⟩
 case round =>
  clear H'
  obtain ⟨x, rfl, ⟨hx0, hx1⟩, HA, m, rfl⟩ := hrel
  cases gk with
  | zero => exact absurd HA.out (by simp [mask_read.l0])
  | succ k1 =>
   have H := HA.out
   clear HA
   simp only [mask_read.l0] at H
   by_cases c1 : x ≤ 64
   rotate_left
   ·rw [if_neg c1] at H
    have b1 : decide (x ≤ 64) = false := dF_ c1
    simp only [sJ_, pJ_] at H
    obtain ⟨rfl, rfl, rfl⟩ := H
    go_wp2
    refine bodyPost_ret (v := .agg #[.int .i64 0, .int .i64 0, .int .i64 0]) (by simp [results, Tryz.results164, go_sem]) rfl ⟨rfl, ?_⟩
    repeat (first | exact Below.refl _ _ | apply bAA | apply bNN | apply bDD | (refine bSS ?_ (by simp)))
   rw [if_pos c1] at H
   have b1 : decide (x ≤ 64) = true := dT_ c1
   have hE := mask_extra_some x (by omega) (by omega)
   obtain ⟨t, ht⟩ : ∃ t, (if x = 64 then 0 else 64 - 2 * x) = t := ⟨_, rfl⟩
   rw [ht] at H hE
   have HE := Azz.mk hE
   have ht0 : -64 ≤ t := by rw [← ht]; split <;> omega
   have ht1 : t ≤ 64 := by rw [← ht]; split <;> omega
   clear ht hE
   have arm : ∀ W, Calls Tryz.prog 179 #[.int .i64 x] W fun e w' => e = .returned (.int .i64 t) ∧ Drawn0 W w' := fun W => mask_extra.calls x t W HE.out
   have ARM := Azz.mk arm
   clear arm
   by_cases c2 : ((x == 64) == (a0 == 1)) = true
   rotate_left
   ·rw [if_neg c2] at H
    replace c2 := Bool.eq_false_iff.mpr c2
    have H' := Azz.mk H
    clear H
    go_wp2_with (first | (go_at_call 179; refine (ARM.out _).mono ?_; rintro e w' ⟨rfl, ⟨nd, rfl⟩⟩) | (go_at_call 181; refine (mask_sizes1.calls _ x _ (by go_simp) (by go_simp) (by omega) (by omega)).mono ?_; rintro e w' ⟨rfl, rfl⟩))
    go_roundg k1
    case measure => omega
    case rel => exact ⟨x * 2, rfl, by omega, H', _, by simpa using set_own (w.alloc (Obj.cells #[Value.int IntKind.i64 0, Value.int IntKind.i64 0, Value.int IntKind.i64 0] 197)) 3 (.int .i64 x) (.int .i64 (x * 2)) _⟩
   rw [if_pos c2] at H
   by_cases c3 : a2 + 1 - t ≥ 1
   rotate_left
   ·rw [if_neg c3] at H
    have b3 : decide (1 ≤ a2 + 1 - t) = false := dF_ c3
    have H' := Azz.mk H
    clear H
    go_wp2_with (first | (go_at_call 179; refine (ARM.out _).mono ?_; rintro e w' ⟨rfl, ⟨nd, rfl⟩⟩) | (go_at_call 181; refine (mask_sizes1.calls _ x _ (by go_simp) (by go_simp) (by omega) (by omega)).mono ?_; rintro e w' ⟨rfl, rfl⟩))
    go_roundg k1
    case measure => omega
    case rel => exact ⟨x * 2, rfl, by omega, H', _, by simpa using set_own (w.alloc (Obj.cells #[Value.int IntKind.i64 0, Value.int IntKind.i64 0, Value.int IntKind.i64 0] 197)) 3 (.int .i64 x) (.int .i64 (x * 2)) _⟩
   rw [if_pos c3] at H
   have b3 : decide (1 ≤ a2 + 1 - t) = true := dT_ c3
   by_cases c4 : a2 + 1 - t < x
   ·rw [if_pos c4] at H
    have b4 : decide (a2 + 1 - t < x) = true := dT_ c4
    by_cases c5 : a1 < x
    ·rw [if_pos c5] at H
     have b5 : decide (a1 < x) = true := dT_ c5
     simp only [sJ_, pJ_] at H
     obtain ⟨rfl, rfl, rfl⟩ := H
     go_wp2_with (first | (go_at_call 179; refine (ARM.out _).mono ?_; rintro e w' ⟨rfl, ⟨nd, rfl⟩⟩))
     refine bodyPost_ret (v := .agg #[.int .i64 x, .int .i64 a1, .int .i64 (a2 + 1 - t)]) (by simp [results, Tryz.results164, go_sem]) rfl ⟨rfl, ?_⟩
     repeat (first | exact Below.refl _ _ | apply bAA | apply bNN | apply bDD | (refine bSS ?_ (by simp)))
    rw [if_neg c5] at H
    have b5 : decide (a1 < x) = false := dF_ c5
    have H' := Azz.mk H
    clear H
    go_wp2_with (first | (go_at_call 179; refine (ARM.out _).mono ?_; rintro e w' ⟨rfl, ⟨nd, rfl⟩⟩) | (go_at_call 181; refine (mask_sizes1.calls _ x _ (by go_simp) (by go_simp) (by omega) (by omega)).mono ?_; rintro e w' ⟨rfl, rfl⟩))
    go_roundg k1
    case measure => omega
    case rel => exact ⟨x * 2, rfl, by omega, H', _, by simpa using set_own (w.alloc (Obj.cells #[Value.int IntKind.i64 0, Value.int IntKind.i64 0, Value.int IntKind.i64 0] 197)) 3 (.int .i64 x) (.int .i64 (x * 2)) _⟩
   rw [if_neg c4] at H
   have b4 : decide (a2 + 1 - t < x) = false := dF_ c4
   have H' := Azz.mk H
   clear H
   go_wp2_with (first | (go_at_call 179; refine (ARM.out _).mono ?_; rintro e w' ⟨rfl, ⟨nd, rfl⟩⟩) | (go_at_call 181; refine (mask_sizes1.calls _ x _ (by go_simp) (by go_simp) (by omega) (by omega)).mono ?_; rintro e w' ⟨rfl, rfl⟩))
   go_roundg k1
   case measure => omega
   case rel => exact ⟨x * 2, rfl, by omega, H', _, by simpa using set_own (w.alloc (Obj.cells #[Value.int IntKind.i64 0, Value.int IntKind.i64 0, Value.int IntKind.i64 0] 197)) 3 (.int .i64 x) (.int .i64 (x * 2)) _⟩
def bits_Low.f (a0 : Int) (a1 : Int) : Option (Int) := if a1 ≤ 0 then (some 0) else (if a1 ≥ 64 then (some a0) else (if 0 ≤ a1 then (some (Go.bits .and .u64 a0 (IntKind.u64.wrap ((shl .u64 1 a1) - 1)))) else (none)))
theorem bits_Low.calls (a0 : Int) (a1 : Int) (r : Int) (w : World) (h : bits_Low.f a0 a1 = some r) :
 Calls Tryz.prog 167 #[.int .u64 a0, .int .i64 a1] w fun e w' => e = .returned (.int .u64 r) ∧ Drawn0 w w' := by
 have H : (if a1 ≤ 0 then (some 0) else (if a1 ≥ 64 then (some a0) else (if 0 ≤ a1 then (some (Go.bits .and .u64 a0 (IntKind.u64.wrap ((shl .u64 1 a1) - 1)))) else (none)))) = some r := h
 clear h
 by_cases c3 : a1 ≤ 0
 ·rw [if_pos c3] at H
  have c3b0 := dT_ c3
  clear c3
  obtain rfl := sI H
  go_enter Tryz.func167, Tryz.ntmps167
  go_wp2
  go_ret
  exact ⟨by first | rfl | (simp; done) | (simp [*]; done), d0S⟩
 rw [if_neg c3] at H
 have c3b0 := dF_ c3
 clear c3
 by_cases c4 : a1 ≥ 64
 ·rw [if_pos c4] at H
  have c4b0 := dT_ c4
  clear c4
  obtain rfl := sI H
  go_enter Tryz.func167, Tryz.ntmps167
  go_wp2
  go_ret
  exact ⟨by first | rfl | (simp; done) | (simp [*]; done), d0S⟩
 rw [if_neg c4] at H
 have c4b0 := dF_ c4
 clear c4
 by_cases c5 : 0 ≤ a1
 ·rw [if_pos c5] at H
  have c5b0 := eq_true c5
  have c5b1 := dT_ c5
  clear c5
  obtain ⟨ji6, hji6⟩ : ∃ j_ : Int, (shl .u64 1 a1) = j_ := ⟨_, rfl⟩
  replace H : (some (Go.bits .and .u64 a0 (IntKind.u64.wrap ((ji6) - 1)))) = some r := by first | (rw [hji6] at H; exact H) | (simp only [hji6] at H ⊢; exact H)
  have hji6_ : (IntKind.u64.wrap (1 * 2 ^ min a1.toNat 64)) = ji6 := hji6
  have hji6z : a1 ≤ 64 → (IntKind.u64.wrap (1 * 2 ^ a1.toNat)) = ji6 := shl_small hji6
  have hji6u : (IntKind.u64.wrap (2 ^ min a1.toNat 64)) = ji6 := by have h_ := hji6_; rw [Int.one_mul] at h_; exact h_
  have hji6v : a1 ≤ 64 → (IntKind.u64.wrap (2 ^ a1.toNat)) = ji6 := fun hle_ => by have h_ := hji6z hle_; rw [Int.one_mul] at h_; exact h_
  obtain rfl := sI H
  go_enter Tryz.func167, Tryz.ntmps167
  go_wp2
  go_ret
  exact ⟨by first | rfl | (simp; done) | (simp only [← hji6] <;> (first | rfl | simp)) | (simp [*]; done), d0S⟩
 rw [if_neg c5] at H
 exact absurd H (by simp)
mutual
def bits_Rotate.j0 : Nat → Int → Int → Int → Option (Int × Int)
 | 0, _, _, _ => none
 | k + 1, x0, x1, x2 => if x1 < 0 then (bits_Rotate.j1 k x0 x1 x2 true) else (bits_Rotate.j1 k x0 x1 x2 (decide (x1 ≥ x2)))
def bits_Rotate.j1 : Nat → Int → Int → Int → Bool → Option (Int × Int)
 | 0, _, _, _, _ => none
 | k + 1, x0, x1, x2, x22 => if x22 = true then (some (0, 1)) else ((bits_Low.f x0 x2).bind fun t119 => (if t119 = x0 then (if 0 ≤ x1 then (if 0 ≤ (wrap64 (x2 - x1)) then ((bits_Low.f (Go.bits .or .u64 (shr .u64 x0 x1) (shl .u64 x0 (wrap64 (x2 - x1)))) x2).bind fun t120 => (some (t120, 0))) else (none)) else (none)) else (some (0, 4))))
end
def bits_Rotate.f (k : Nat) (a0 : Int) (a1 : Int) (a2 : Int) : Option (Int × Int) := if a2 = 2 then (bits_Rotate.j0 k a0 a1 a2) else (if a2 = 4 then (bits_Rotate.j0 k a0 a1 a2) else (if a2 = 8 then (bits_Rotate.j0 k a0 a1 a2) else (if a2 = 16 then (bits_Rotate.j0 k a0 a1 a2) else (if a2 = 32 then (bits_Rotate.j0 k a0 a1 a2) else (if a2 = 64 then (bits_Rotate.j0 k a0 a1 a2) else (some (0, 1)))))))
theorem bits_Rotate.mono_l : ∀ k, (∀ y0 y1 y2, LeO (bits_Rotate.j0 k y0 y1 y2) (bits_Rotate.j0 (k + 1) y0 y1 y2)) ∧ (∀ y0 y1 y2 y3, LeO (bits_Rotate.j1 k y0 y1 y2 y3) (bits_Rotate.j1 (k + 1) y0 y1 y2 y3))
 | 0 => ⟨fun _ _ _ r h => by simp [bits_Rotate.j0] at h, fun _ _ _ _ r h => by simp [bits_Rotate.j1] at h⟩
 | k + 1 => by
  obtain ⟨ih0, ih1⟩ := bits_Rotate.mono_l k
  refine ⟨?_, ?_⟩
  ·intro y0 y1 y2
   unfold bits_Rotate.j0
   repeat' first
   | (with_reducible exact ih0 _ _ _)
   | (with_reducible exact ih1 _ _ _ _)
   | (with_reducible exact LeO.refl _)
   | (with_reducible exact LeO.none _)
   | (with_reducible refine LeO.ite ?_ ?_)
   | (with_reducible refine LeO.bind ?_ (fun _ => ?_))
  intro y0 y1 y2 y3
  unfold bits_Rotate.j1
  repeat' first
  | (with_reducible exact ih0 _ _ _)
  | (with_reducible exact ih1 _ _ _ _)
  | (with_reducible exact LeO.refl _)
  | (with_reducible exact LeO.none _)
  | (with_reducible refine LeO.ite ?_ ?_)
  | (with_reducible refine LeO.bind ?_ (fun _ => ?_))
theorem bits_Rotate.mono : ∀ a0 a1 a2 k, LeO (bits_Rotate.f k a0 a1 a2) (bits_Rotate.f (k + 1) a0 a1 a2) := by
 intro a0 a1 a2 k
 obtain ⟨ih0, ih1⟩ := bits_Rotate.mono_l k
 unfold bits_Rotate.f
 repeat' first
  | (with_reducible exact ih0 _ _ _)
  | (with_reducible exact ih1 _ _ _ _)
  | (with_reducible exact LeO.refl _)
  | (with_reducible exact LeO.none _)
  | (with_reducible refine LeO.ite ?_ ?_)
  | (with_reducible refine LeO.bind ?_ (fun _ => ?_))
theorem bits_Rotate.calls (k : Nat) (a0 : Int) (a1 : Int) (a2 : Int) (r1 : Int) (r2 : Int) (w : World) (h : bits_Rotate.f k a0 a1 a2 = some (r1, r2)) :
 Calls Tryz.prog 180 #[.int .u64 a0, .int .i64 a1, .int .i64 a2] w fun e w' => e = .returned (.tuple #[.int .u64 r1, .int .i64 r2]) ∧ Drawn0 w w' := by
 have H : (if a2 = 2 then (bits_Rotate.j0 k a0 a1 a2) else (if a2 = 4 then (bits_Rotate.j0 k a0 a1 a2) else (if a2 = 8 then (bits_Rotate.j0 k a0 a1 a2) else (if a2 = 16 then (bits_Rotate.j0 k a0 a1 a2) else (if a2 = 32 then (bits_Rotate.j0 k a0 a1 a2) else (if a2 = 64 then (bits_Rotate.j0 k a0 a1 a2) else (some (0, 1)))))))) = some (r1, r2) := h
 clear h
 have HC4 := Azz.mk H
 clear H
 go_enter Tryz.func180, Tryz.ntmps180
 go_upto_block 0 with (fail)
 repeat (go_quiet (fail); go_upto_block 0 with (fail))
 go_cut [] (fun wc => ∃ (kq : Nat), Azz (bits_Rotate.j0 kq a0 a1 a2 = some (r1, r2)) ∧ Azz (kq ≤ k) ∧ Drawn0 w wc)
 case first =>
  have H := HC4.out
  clear HC4
  by_cases c5 : a2 = 2
  ·rw [if_pos c5] at H
   obtain ⟨c5b0, c5b1⟩ := be_ c5
   clear c5
   (first | rw [c5b0] | (simp only [i64_w, i32_w]; rw [c5b0]) | skip)
   have H' := Azz.mk H
   clear H
   go_wp2
   repeat (go_quiet (fail); try go_wp2)
   go_meet
   case rel => exact ⟨_, H', ⟨leS⟩, d0S⟩
  rw [if_neg c5] at H
  obtain ⟨c5b0, c5b1⟩ := bn_ c5
  (first | rw [c5b0] | (simp only [i64_w, i32_w]; rw [c5b0]) | skip)
  by_cases c6 : a2 = 4
  ·rw [if_pos c6] at H
   obtain ⟨c6b0, c6b1⟩ := be_ c6
   clear c6
   have H' := Azz.mk H
   clear H
   go_wp2
   repeat (go_quiet (fail); try go_wp2)
   go_meet
   case rel => exact ⟨_, H', ⟨leS⟩, d0S⟩
  rw [if_neg c6] at H
  obtain ⟨c6b0, c6b1⟩ := bn_ c6
  by_cases c7 : a2 = 8
  ·rw [if_pos c7] at H
   obtain ⟨c7b0, c7b1⟩ := be_ c7
   clear c7
   have H' := Azz.mk H
   clear H
   go_wp2
   repeat (go_quiet (fail); try go_wp2)
   go_meet
   case rel => exact ⟨_, H', ⟨leS⟩, d0S⟩
  rw [if_neg c7] at H
  obtain ⟨c7b0, c7b1⟩ := bn_ c7
  by_cases c8 : a2 = 16
  ·rw [if_pos c8] at H
   obtain ⟨c8b0, c8b1⟩ := be_ c8
   clear c8
   have H' := Azz.mk H
   clear H
   go_wp2
   repeat (go_quiet (fail); try go_wp2)
   go_meet
   case rel => exact ⟨_, H', ⟨leS⟩, d0S⟩
  rw [if_neg c8] at H
  obtain ⟨c8b0, c8b1⟩ := bn_ c8
  by_cases c9 : a2 = 32
  ·rw [if_pos c9] at H
   obtain ⟨c9b0, c9b1⟩ := be_ c9
   clear c9
   have H' := Azz.mk H
   clear H
   go_wp2
   repeat (go_quiet (fail); try go_wp2)
   go_meet
   case rel => exact ⟨_, H', ⟨leS⟩, d0S⟩
  rw [if_neg c9] at H
  obtain ⟨c9b0, c9b1⟩ := bn_ c9
  by_cases c10 : a2 = 64
  ·rw [if_pos c10] at H
   obtain ⟨c10b0, c10b1⟩ := be_ c10
   clear c10
   have H' := Azz.mk H
   clear H
   go_wp2
   repeat (go_quiet (fail); try go_wp2)
   go_meet
   case rel => exact ⟨_, H', ⟨leS⟩, d0S⟩
  rw [if_neg c10] at H
  obtain ⟨c10b0, c10b1⟩ := bn_ c10
  simp only [sJ_, pJ_] at H
  obtain ⟨rfl, rfl⟩ := H
  go_wp2
  repeat (go_quiet (fail); try go_wp2)
  go_ret2
  exact ⟨by first | rfl | (simp; done) | (simp [*]; done), d0S⟩
 case rest =>
  clear HC4
  try clear c1
  try clear p2
  try clear c5
  try clear c5b0
  try clear c5b1
  try clear c6
  try clear c6b0
  try clear c6b1
  try clear c7
  try clear c7b0
  try clear c7b1
  try clear c8
  try clear c8b0
  try clear c8b1
  try clear c9
  try clear c9b0
  try clear c9b1
  try clear c10
  try clear c10b0
  try clear c10b1
  obtain ⟨kq, HA, HJ3, ⟨mc3, rfl⟩⟩ := hcut
  cases kq with
  | zero => exact absurd HA.out (by simp [bits_Rotate.j0])
  | succ kj3 =>
   have H := HA.out
   clear HA
   simp only [bits_Rotate.j0] at H
   have HC11 := Azz.mk H
   clear H
   go_upto_region 9 with (fail)
   repeat (go_quiet (fail); go_upto_region 9 with (fail))
   go_cut [22] (fun v22 wc => ∃ (kq : Nat) (x22_10 : Bool), v22 = .bool x22_10 ∧ Azz (bits_Rotate.j1 kq a0 a1 a2 x22_10 = some (r1, r2)) ∧ Azz (kq ≤ kj3) ∧ Drawn0 w wc)
   case first =>
    have H := HC11.out
    clear HC11
    by_cases c12 : a1 < 0
    ·rw [if_pos c12] at H
     have c12b0 := dT_ c12
     clear c12
     (first | rw [c12b0] | (simp only [i64_w, i32_w]; rw [c12b0]) | skip)
     have H' := Azz.mk H
     clear H
     go_wp2
     repeat (go_quiet (fail); try go_wp2)
     go_meet
     case rel => exact ⟨_, (true), eqS, H', ⟨by have := HJ3.out; first | omega | exact Nat.le_refl _⟩, d0S⟩
    rw [if_neg c12] at H
    have c12b0 := dF_ c12
    clear c12
    (first | rw [c12b0] | (simp only [i64_w, i32_w]; rw [c12b0]) | skip)
    have H' := Azz.mk H
    clear H
    go_wp2
    repeat (go_quiet (fail); try go_wp2)
    go_meet
    case rel => exact ⟨_, (decide (a1 ≥ a2)), eqS, H', ⟨by have := HJ3.out; first | omega | exact Nat.le_refl _⟩, d0S⟩
   case rest =>
    clear HC11
    try clear c1
    try clear p2
    try clear c3
    try clear c5
    try clear c5b0
    try clear c5b1
    try clear c6
    try clear c6b0
    try clear c6b1
    try clear c7
    try clear c7b0
    try clear c7b1
    try clear c8
    try clear c8b0
    try clear c8b1
    try clear c9
    try clear c9b0
    try clear c9b1
    try clear c10
    try clear c10b0
    try clear c10b1
    try clear c12
    try clear c12b0
    try clear p2
    obtain ⟨kq, x22_10, rfl, HA, HJ10, ⟨mc10, rfl⟩⟩ := hcut
    cases kq with
    | zero => exact absurd HA.out (by simp [bits_Rotate.j1])
    | succ kj10 =>
     have H := HA.out
     clear HA
     simp only [bits_Rotate.j1] at H
     by_cases c13 : x22_10 = true
     ·subst c13
      rw [if_pos rfl] at H
      simp only [sJ_, pJ_] at H
      obtain ⟨rfl, rfl⟩ := H
      go_wp2
      repeat (go_quiet (fail); try go_wp2)
      go_ret2
      exact ⟨by first | rfl | (simp; done) | (simp [*]; done), d0S⟩
     replace c13 := Bool.eq_false_iff.mpr c13
     subst c13
     rw [if_neg nFT] at H
     obtain ⟨t119, A14, H⟩ := bnd H
     (try dsimp only at H)
     by_cases c15 : t119 = a0
     rotate_left
     ·rw [if_neg c15] at H
      obtain ⟨c15b0, c15b1⟩ := bn_ c15
      simp only [sJ_, pJ_] at H
      obtain ⟨rfl, rfl⟩ := H
      go_wp2_with (first | (go_at_call 167; (with_reducible refine (bits_Low.calls a0 a2 t119 _ A14.out).mono ?_); rintro e w' ⟨rfl, ⟨nd, rfl⟩⟩; (try first | exact ⟨rfl, _, dd2⟩ | exact ⟨rfl, _, dd3⟩)))
      repeat (go_quiet (first | (go_at_call 167; (with_reducible refine (bits_Low.calls a0 a2 t119 _ A14.out).mono ?_); rintro e w' ⟨rfl, ⟨nd, rfl⟩⟩; (try first | exact ⟨rfl, _, dd2⟩ | exact ⟨rfl, _, dd3⟩))); try go_wp2_with (first | (go_at_call 167; (with_reducible refine (bits_Low.calls a0 a2 t119 _ A14.out).mono ?_); rintro e w' ⟨rfl, ⟨nd, rfl⟩⟩; (try first | exact ⟨rfl, _, dd2⟩ | exact ⟨rfl, _, dd3⟩))))
      go_ret2
      exact ⟨by first | rfl | (simp; done) | (simp [*]; done), d0S⟩
     rw [if_pos c15] at H
     obtain ⟨c15b0, c15b1⟩ := be_ c15
     clear c15
     by_cases c16 : 0 ≤ a1
     rotate_left
     ·rw [if_neg c16] at H
      exact absurd H (by simp)
     rw [if_pos c16] at H
     have c16b0 := eq_true c16
     have c16b1 := dT_ c16
     clear c16
     obtain ⟨ji17, hji17⟩ : ∃ j_ : Int, (shr .u64 a0 a1) = j_ := ⟨_, rfl⟩
     replace H : (if 0 ≤ (wrap64 (a2 - a1)) then ((bits_Low.f (Go.bits .or .u64 (ji17) (shl .u64 a0 (wrap64 (a2 - a1)))) a2).bind fun t120 => (some (t120, 0))) else (none)) = some (r1, r2) := by first | (rw [hji17] at H; exact H) | (simp only [hji17] at H ⊢; exact H)
     (try rw [hji17] at A14)
     have hji17_ : (a0 / 2 ^ min a1.toNat 64) = ji17 := hji17
     have hji17z : a1 ≤ 64 → (a0 / 2 ^ a1.toNat) = ji17 := shr_small hji17
     obtain ⟨ji18, hji18⟩ : ∃ j_ : Int, (wrap64 (a2 - a1)) = j_ := ⟨_, rfl⟩
     replace H : (if 0 ≤ (ji18) then ((bits_Low.f (Go.bits .or .u64 (ji17) (shl .u64 a0 (ji18))) a2).bind fun t120 => (some (t120, 0))) else (none)) = some (r1, r2) := by first | (rw [hji18] at H; exact H) | (simp only [hji18] at H ⊢; exact H)
     (try rw [hji18] at A14)
     have hji18w : (IntKind.i64.wrap (a2 - a1)) = ji18 := (i64_w _).trans hji18
     by_cases c19 : 0 ≤ (ji18)
     ·rw [if_pos c19] at H
      have c19b0 := eq_true c19
      have c19b1 := dT_ c19
      clear c19
      obtain ⟨ji20, hji20⟩ : ∃ j_ : Int, (shl .u64 a0 (ji18)) = j_ := ⟨_, rfl⟩
      replace H : ((bits_Low.f (Go.bits .or .u64 (ji17) (ji20)) a2).bind fun t120 => (some (t120, 0))) = some (r1, r2) := by first | (rw [hji20] at H; exact H) | (simp only [hji20] at H ⊢; exact H)
      (try rw [hji20] at A14)
      have hji20_ : (IntKind.u64.wrap (a0 * 2 ^ min (ji18).toNat 64)) = ji20 := hji20
      have hji20z : (ji18) ≤ 64 → (IntKind.u64.wrap (a0 * 2 ^ (ji18).toNat)) = ji20 := shl_small hji20
      obtain ⟨t120, A21, H⟩ := bnd H
      (try dsimp only at H)
      simp only [sJ_, pJ_] at H
      obtain ⟨rfl, rfl⟩ := H
      go_wp2_with (first | (go_at_call 167; (with_reducible refine (bits_Low.calls a0 a2 t119 _ A14.out).mono ?_); rintro e w' ⟨rfl, ⟨nd, rfl⟩⟩; (try first | exact ⟨rfl, _, dd2⟩ | exact ⟨rfl, _, dd3⟩)) | (go_at_call 167; (with_reducible refine (bits_Low.calls (Go.bits .or .u64 (ji17) (ji20)) a2 t120 _ A21.out).mono ?_); rintro e w' ⟨rfl, ⟨nd, rfl⟩⟩; (try first | exact ⟨rfl, _, dd2⟩ | exact ⟨rfl, _, dd3⟩)))
      repeat (go_quiet (first | (go_at_call 167; (with_reducible refine (bits_Low.calls a0 a2 t119 _ A14.out).mono ?_); rintro e w' ⟨rfl, ⟨nd, rfl⟩⟩; (try first | exact ⟨rfl, _, dd2⟩ | exact ⟨rfl, _, dd3⟩)) | (go_at_call 167; (with_reducible refine (bits_Low.calls (Go.bits .or .u64 (ji17) (ji20)) a2 t120 _ A21.out).mono ?_); rintro e w' ⟨rfl, ⟨nd, rfl⟩⟩; (try first | exact ⟨rfl, _, dd2⟩ | exact ⟨rfl, _, dd3⟩))); try go_wp2_with (first | (go_at_call 167; (with_reducible refine (bits_Low.calls a0 a2 t119 _ A14.out).mono ?_); rintro e w' ⟨rfl, ⟨nd, rfl⟩⟩; (try first | exact ⟨rfl, _, dd2⟩ | exact ⟨rfl, _, dd3⟩)) | (go_at_call 167; (with_reducible refine (bits_Low.calls (Go.bits .or .u64 (ji17) (ji20)) a2 t120 _ A21.out).mono ?_); rintro e w' ⟨rfl, ⟨nd, rfl⟩⟩; (try first | exact ⟨rfl, _, dd2⟩ | exact ⟨rfl, _, dd3⟩))))
      go_ret2
      exact ⟨by first | rfl | (simp; done) | (simp only [← hji17, ← hji18, ← hji20] <;> (first | rfl | simp)) | (simp [*]; done), d0S⟩
     rw [if_neg c19] at H
     exact absurd H (by simp)
end Go.Proofs.YtngmipfodjgmmaaGreatDoor.P
