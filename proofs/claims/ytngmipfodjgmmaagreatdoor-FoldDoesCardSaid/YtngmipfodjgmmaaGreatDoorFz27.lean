/- Walks and plain laws of this claim, a part. -/
import Derived.Test.YtngmipfodjgmmaaGreatDoorFz26
set_option maxRecDepth 100000
set_option maxHeartbeats 8000000
set_option linter.unusedVariables false
set_option linter.unusedSimpArgs false
namespace Go.Proofs.YtngmipfodjgmmaaGreatDoor.P
open Go.RowKit Wa Wb Wc
attribute [local go_sem] max2_int min2_int max_two min_two max_three min_three max_four min_four
def num_Value.l0 : Nat → ByteArray → Int → Nat → Option (Int × Int)
 | 0, _, _, _ => none
 | k + 1, s, v, i => if i < s.size then (if bt s (i : Int) < 128 then ((num_digit.f k (bt s (i : Int)) 10).bind fun t => if 0 ≤ v ∧ v < 100 ∧ 0 ≤ t.1 ∧ t.1 < 10 then num_Value.l0 k s (v * 10 + t.1) (i + 1) else none) else none) else some (v, 0)
def num_Value.f (k : Nat) (a0 : ByteArray) : Option (Int × Int) := if a0.size ≤ 2 then (if a0.toList = ([48, 120] : List UInt8) then some (0, 3) else ((num_digits.f k a0 10).bind fun t => if t = true then num_Value.l0 k a0 0 0 else some (0, 3))) else none
theorem num_Value.mono_l : ∀ k s v i, LeO (num_Value.l0 k s v i) (num_Value.l0 (k + 1) s v i)
 | 0, s, v, i => fun r h => by simp [num_Value.l0] at h
 | k + 1, s, v, i => by
  have ih := num_Value.mono_l k
  rw [num_Value.l0, num_Value.l0.eq_2 s v i (k + 1)]
  exact LeO.ite (LeO.ite (LeO.bind (num_digit.mono _ _ k) fun t => LeO.ite (ih _ _ _) (LeO.refl _)) (LeO.refl _)) (LeO.refl _)
theorem num_Value.mono : ∀ a0 k, LeO (num_Value.f k a0) (num_Value.f (k + 1) a0) := by
 intro a0 k
 unfold num_Value.f
 exact LeO.ite (LeO.ite (LeO.refl _) (LeO.bind (num_digits.mono _ _ k) fun t => LeO.ite (num_Value.mono_l k _ _ _) (LeO.refl _))) (LeO.refl _)
theorem num_Value.mul (v : Int) (h0 : 0 ≤ v) (h1 : v < 100) (W : World) : Calls Tryz.prog 94 #[.int .u64 v, .int .u64 10] W fun e w' => e = .returned (.tuple #[.int .u64 0, .int .u64 (v * 10)]) ∧ w' = W := by
 obtain ⟨m, rfl⟩ := Int.eq_ofNat_of_zero_le h0
 refine (Tryz.bits_Mul64 m 10 (by omega) (by decide) W).mono ?_
 rintro e w' ⟨rfl, rfl⟩
 refine ⟨?_, rfl⟩
 have e1 : m * 10 / 18446744073709551616 = 0 := by omega
 have e2 : m * 10 % 18446744073709551616 = m * 10 := by omega
 simp [e1, e2]
theorem num_Value.add (x y : Int) (h0 : 0 ≤ x) (h1 : x < 1000) (h2 : 0 ≤ y) (h3 : y < 10) (W : World) : (callFunc 95 #[.int .u64 x, .int .u64 y, .int .u64 0]).run Tryz.prog W = .ok (.value (.tuple #[.int .u64 (x + y), .int .u64 0])) W := by
 rw [run_callFunc_extern Tryz.func95 (by kernel_rfl) (by kernel_rfl) (by kernel_rfl) (e := add64Entry) (by kernel_rfl), run_add64 x y 0 h0 h2 (by decide) (by decide)]
 have e1 : (x + y + 0) % 18446744073709551616 = x + y := by omega
 have e2 : (x + y + 0) / 18446744073709551616 = 0 := by omega
 rw [e1, e2]
 rfl
theorem num_Value.iter_below (w w1 : World) (s : ByteArray) (p m : Nat) (h : Below w.heap.size w w1) : Below w.heap.size w ((w1.drewN m).iter s p) := by
 unfold World.iter
 refine bAA ?_ _
 exact bNN h _
theorem num_Value.cut (a0 : ByteArray) (h : a0.size = 2) : (a0.extract 0 2).toList = a0.toList := by
 rw [show a0.extract 0 2 = a0 by rw [← h]; exact ByteArray.extract_zero_size]
theorem num_Value.rest (a0 : ByteArray) (h : a0.size = 2) : a0.extract 2 a0.size = ⟨#[]⟩ := num_digits.is_empty _ (by rw [ByteArray.size_extract]; omega)
theorem num_Value.calls (k : Nat) (a0 : ByteArray) (r1 : Int) (r2 : Int) (w : World) (h : num_Value.f k a0 = some (r1, r2)) :
 Calls Tryz.prog 81 #[.string a0] w fun e w' => e = .returned (.tuple #[.int .u64 r1, .int .i64 r2]) ∧ Below w.heap.size w w' := by
 unfold num_Value.f at h
 by_cases h2 : a0.size ≤ 2
 rotate_left
 ·rw [if_neg h2] at h
  exact absurd h (by simp)
 rw [if_pos h2] at h
 by_cases hx : a0.toList = ([48, 120] : List UInt8)
 ·rw [if_pos hx] at h
  obtain ⟨rfl, rfl⟩ := Prod.mk.inj (Option.some.inj h)
  have hs : a0.size = 2 := by
   have := congrArg List.length hx
   rw [Go.Lib.toList_data, Array.length_toList] at this
   exact this
  have n0 : ((a0.extract 0 2).toList == ([48, 120] : List UInt8)) = true := by rw [num_Value.cut a0 hs, hx]; rfl
  have b2 : decide ((2 : Int) ≤ (a0.size : Int)) = true := dT_ (by omega)
  have q2 : (2 : Int) ≤ (a0.size : Int) := by omega
  have arm := Azz.mk (fun W => num_digits.calls 0 ⟨#[]⟩ 16 false W rfl)
  have e0 := num_Value.rest a0 hs
  clear h hx h2 hs
  go_enter Tryz.func81, Tryz.ntmps81
  go_wp2
  go_step3
  go_wp2_with (first | (go_at_call 92; (with_reducible refine (arm.out _).mono ?_); rintro e w1 ⟨rfl, hb1⟩))
  rw [Exit.noGoto_ret]
  go_ret2
  exact ⟨rfl, hb1⟩
 rw [if_neg hx] at h
 cases hd : num_digits.f k a0 10 with
 | none => rw [hd] at h; exact absurd h (by simp)
 | some t =>
  rw [hd, Option.bind_some] at h
  have arm := Azz.mk (fun W => num_digits.calls k a0 10 t W hd)
  clear hd
  by_cases hs : a0.size = 2
  ·have n0 : ((a0.extract 0 2).toList == ([48, 120] : List UInt8)) = false := by rw [num_Value.cut a0 hs]; exact bF_ hx
   have b2 : decide ((2 : Int) ≤ (a0.size : Int)) = true := dT_ (by omega)
   have q2 : (2 : Int) ≤ (a0.size : Int) := by omega
   clear hx hs h2
   cases t with
   | false =>
    rw [if_neg (by decide)] at h
    obtain ⟨rfl, rfl⟩ := Prod.mk.inj (Option.some.inj h)
    clear h
    go_enter Tryz.func81, Tryz.ntmps81
    go_wp2
    go_step3
    go_wp2_with (first | (go_at_call 92; (with_reducible refine (arm.out _).mono ?_); rintro e w1 ⟨rfl, hb1⟩))
    rw [Exit.noGoto_ret]
    go_ret2
    exact ⟨rfl, hb1⟩
   | true =>
    rw [if_pos rfl] at h
    have H' := Azz.mk h
    clear h
    go_enter Tryz.func81, Tryz.ntmps81
    go_wp2
    go_step3
    go_wp2_with (first | (go_at_call 92; (with_reducible refine (arm.out _).mono ?_); rintro e w1 ⟨rfl, hb1⟩))
    go_loopg [4] k (fun kq v4 w' => ∃ (m pos : Nat) (v : Int), v4 = .int .u64 v ∧ Azz (num_Value.l0 kq a0 v pos = some (r1, r2)) ∧ Azz (kq ≤ k) ∧ w' = (w1.drewN m).iter a0 pos)
    case atStart => exact ⟨0, 0, 0, rfl, H', ⟨Nat.le_refl _⟩, rfl⟩
    case round =>
     clear H' arm
     obtain ⟨m, pos, v, rfl, HA, HK, rfl⟩ := hrel
     cases gk with
     | zero => exact absurd HA.out (by simp [num_Value.l0])
     | succ k1 =>
      have H := HA.out
      clear HA
      rw [num_Value.l0] at H
      by_cases hp : pos < a0.size
      rotate_left
      ·rw [if_neg hp] at H
       obtain ⟨rfl, rfl⟩ := Prod.mk.inj (Option.some.inj H)
       have hnx : ∀ ty, (Instr.next (.pointer (some ⟨w1.heap.size, 0, none⟩)) true ty).run Tryz.prog ((w1.drewN m).iter a0 pos) = .ok (.tuple #[.bool false]) ((w1.drewN m).iter a0 pos) := fun ty => run_next_end (P := Tryz.prog) (w1.drewN m) a0 pos ty hp
       clear hp
       go_wp2
       go_ret2
       exact ⟨rfl, num_Value.iter_below _ _ _ _ _ hb1⟩
      rw [if_pos hp] at H
      have ebt := num_digits.bt_at a0 pos hp
      by_cases ha : bt a0 (pos : Int) < 128
      rotate_left
      ·rw [if_neg ha] at H
       exact absurd H (by simp)
      rw [if_pos ha] at H
      have ha2 : (a0[pos]'hp).toNat < 128 := by rw [ebt] at ha; omega
      have hnx : ∀ ty, (Instr.next (.pointer (some ⟨w1.heap.size, 0, none⟩)) true ty).run Tryz.prog ((w1.drewN m).iter a0 pos) = .ok (.tuple #[.bool true, .int .i64 pos, .int .i32 (bt a0 (pos : Int))]) ((w1.drewN m).iter a0 (pos + 1)) := by
       intro ty
       rw [ebt]
       exact run_next_ascii (P := Tryz.prog) (w1.drewN m) a0 pos ty hp ha2
      generalize bt a0 (pos : Int) = c at ha hnx H
      clear ebt ha2
      cases ht : num_digit.f k1 c 10 with
      | none => rw [ht] at H; exact absurd H (by simp)
      | some t =>
       obtain ⟨t1, t2⟩ := t
       rw [ht, Option.bind_some] at H
       by_cases hv : 0 ≤ v ∧ v < 100 ∧ 0 ≤ t1 ∧ t1 < 10
       ·rw [if_pos hv] at H
        have arm := Azz.mk (fun W => num_digit.calls k1 c 10 t1 t2 W ht)
        have arm2 := Azz.mk (fun W => num_Value.mul v hv.1 hv.2.1 W)
        have hadd := fun W => num_Value.add (v * 10) t1 (by omega) (by omega) hv.2.2.1 hv.2.2.2 W
        clear ht hv
        have H' := Azz.mk H
        clear H
        go_wp2_with (first | (go_at_call 93; (with_reducible refine (arm.out _).mono ?_); rintro e w' ⟨rfl, ⟨nd, rfl⟩⟩) | (go_at_call 94; (with_reducible refine (arm2.out _).mono ?_); rintro e w' ⟨rfl, rfl⟩) | (simp only [hadd]))
        go_roundg k1
        case measure => have := HK.out; omega
        case rel => exact ⟨_, pos + 1, v * 10 + t1, rfl, H', ⟨by have := HK.out; omega⟩, num_digits.iter_drewN ..⟩
       rw [if_neg hv] at H
       exact absurd H (by simp)
  have b2 : decide ((2 : Int) ≤ (a0.size : Int)) = false := dF_ (by omega)
  clear hx hs h2
  cases t with
  | false =>
   rw [if_neg (by decide)] at h
   obtain ⟨rfl, rfl⟩ := Prod.mk.inj (Option.some.inj h)
   clear h
   go_enter Tryz.func81, Tryz.ntmps81
   go_wp2
   go_step3
   go_wp2_with (first | (go_at_call 92; (with_reducible refine (arm.out _).mono ?_); rintro e w1 ⟨rfl, hb1⟩))
   rw [Exit.noGoto_ret]
   go_ret2
   exact ⟨rfl, hb1⟩
  | true =>
   rw [if_pos rfl] at h
   have H' := Azz.mk h
   clear h
   go_enter Tryz.func81, Tryz.ntmps81
   go_wp2
   go_step3
   go_wp2_with (first | (go_at_call 92; (with_reducible refine (arm.out _).mono ?_); rintro e w1 ⟨rfl, hb1⟩))
   go_loopg [4] k (fun kq v4 w' => ∃ (m pos : Nat) (v : Int), v4 = .int .u64 v ∧ Azz (num_Value.l0 kq a0 v pos = some (r1, r2)) ∧ Azz (kq ≤ k) ∧ w' = (w1.drewN m).iter a0 pos)
   case atStart => exact ⟨0, 0, 0, rfl, H', ⟨Nat.le_refl _⟩, rfl⟩
   case round =>
    clear H' arm
    obtain ⟨m, pos, v, rfl, HA, HK, rfl⟩ := hrel
    cases gk with
    | zero => exact absurd HA.out (by simp [num_Value.l0])
    | succ k1 =>
     have H := HA.out
     clear HA
     rw [num_Value.l0] at H
     by_cases hp : pos < a0.size
     rotate_left
     ·rw [if_neg hp] at H
      obtain ⟨rfl, rfl⟩ := Prod.mk.inj (Option.some.inj H)
      have hnx : ∀ ty, (Instr.next (.pointer (some ⟨w1.heap.size, 0, none⟩)) true ty).run Tryz.prog ((w1.drewN m).iter a0 pos) = .ok (.tuple #[.bool false]) ((w1.drewN m).iter a0 pos) := fun ty => run_next_end (P := Tryz.prog) (w1.drewN m) a0 pos ty hp
      clear hp
      go_wp2
      go_ret2
      exact ⟨rfl, num_Value.iter_below _ _ _ _ _ hb1⟩
     rw [if_pos hp] at H
     have ebt := num_digits.bt_at a0 pos hp
     by_cases ha : bt a0 (pos : Int) < 128
     rotate_left
     ·rw [if_neg ha] at H
      exact absurd H (by simp)
     rw [if_pos ha] at H
     have ha2 : (a0[pos]'hp).toNat < 128 := by rw [ebt] at ha; omega
     have hnx : ∀ ty, (Instr.next (.pointer (some ⟨w1.heap.size, 0, none⟩)) true ty).run Tryz.prog ((w1.drewN m).iter a0 pos) = .ok (.tuple #[.bool true, .int .i64 pos, .int .i32 (bt a0 (pos : Int))]) ((w1.drewN m).iter a0 (pos + 1)) := by
      intro ty
      rw [ebt]
      exact run_next_ascii (P := Tryz.prog) (w1.drewN m) a0 pos ty hp ha2
     generalize bt a0 (pos : Int) = c at ha hnx H
     clear ebt ha2
     cases ht : num_digit.f k1 c 10 with
     | none => rw [ht] at H; exact absurd H (by simp)
     | some t =>
      obtain ⟨t1, t2⟩ := t
      rw [ht, Option.bind_some] at H
      by_cases hv : 0 ≤ v ∧ v < 100 ∧ 0 ≤ t1 ∧ t1 < 10
      ·rw [if_pos hv] at H
       have arm := Azz.mk (fun W => num_digit.calls k1 c 10 t1 t2 W ht)
       have arm2 := Azz.mk (fun W => num_Value.mul v hv.1 hv.2.1 W)
       have hadd := fun W => num_Value.add (v * 10) t1 (by omega) (by omega) hv.2.2.1 hv.2.2.2 W
       clear ht hv
       have H' := Azz.mk H
       clear H
       go_wp2_with (first | (go_at_call 93; (with_reducible refine (arm.out _).mono ?_); rintro e w' ⟨rfl, ⟨nd, rfl⟩⟩) | (go_at_call 94; (with_reducible refine (arm2.out _).mono ?_); rintro e w' ⟨rfl, rfl⟩) | (simp only [hadd]))
       go_roundg k1
       case measure => have := HK.out; omega
       case rel => exact ⟨_, pos + 1, v * 10 + t1, rfl, H', ⟨by have := HK.out; omega⟩, num_digits.iter_drewN ..⟩
      rw [if_neg hv] at H
      exact absurd H (by simp)
def strconv_small.f (a0 : Int) : Option (ByteArray) := if a0 < 10 then (if 0 ≤ a0 then (if a0 ≤ (wrap64 (a0 + 1)) then (if (wrap64 (a0 + 1)) ≤ 36 then (some ((⟨#[48, 49, 50, 51, 52, 53, 54, 55, 56, 57, 97, 98, 99, 100, 101, 102, 103, 104, 105, 106, 107, 108, 109, 110, 111, 112, 113, 114, 115, 116, 117, 118, 119, 120, 121, 122]⟩ : ByteArray).extract (a0 : Int).toNat ((wrap64 (a0 + 1)) : Int).toNat)) else (none)) else (none)) else (none)) else (if 0 ≤ (wrap64 (a0 * 2)) then (if (wrap64 (a0 * 2)) ≤ (wrap64 ((wrap64 (a0 * 2)) + 2)) then (if (wrap64 ((wrap64 (a0 * 2)) + 2)) ≤ 200 then (some ((⟨#[48, 48, 48, 49, 48, 50, 48, 51, 48, 52, 48, 53, 48, 54, 48, 55, 48, 56, 48, 57, 49, 48, 49, 49, 49, 50, 49, 51, 49, 52, 49, 53, 49, 54, 49, 55, 49, 56, 49, 57, 50, 48, 50, 49, 50, 50, 50, 51, 50, 52, 50, 53, 50, 54, 50, 55, 50, 56, 50, 57, 51, 48, 51, 49, 51, 50, 51, 51, 51, 52, 51, 53, 51, 54, 51, 55, 51, 56, 51, 57, 52, 48, 52, 49, 52, 50, 52, 51, 52, 52, 52, 53, 52, 54, 52, 55, 52, 56, 52, 57, 53, 48, 53, 49, 53, 50, 53, 51, 53, 52, 53, 53, 53, 54, 53, 55, 53, 56, 53, 57, 54, 48, 54, 49, 54, 50, 54, 51, 54, 52, 54, 53, 54, 54, 54, 55, 54, 56, 54, 57, 55, 48, 55, 49, 55, 50, 55, 51, 55, 52, 55, 53, 55, 54, 55, 55, 55, 56, 55, 57, 56, 48, 56, 49, 56, 50, 56, 51, 56, 52, 56, 53, 56, 54, 56, 55, 56, 56, 56, 57, 57, 48, 57, 49, 57, 50, 57, 51, 57, 52, 57, 53, 57, 54, 57, 55, 57, 56, 57, 57]⟩ : ByteArray).extract ((wrap64 (a0 * 2)) : Int).toNat ((wrap64 ((wrap64 (a0 * 2)) + 2)) : Int).toNat)) else (none)) else (none)) else (none))
theorem strconv_small.calls (a0 : Int) (r : ByteArray) (w : World) (h : strconv_small.f a0 = some r) :
 Calls Tryz.prog 140 #[.int .i64 a0] w fun e w' => e = .returned (.string r) ∧ Drawn0 w w' := by
 have H : (if a0 < 10 then (if 0 ≤ a0 then (if a0 ≤ (wrap64 (a0 + 1)) then (if (wrap64 (a0 + 1)) ≤ 36 then (some ((⟨#[48, 49, 50, 51, 52, 53, 54, 55, 56, 57, 97, 98, 99, 100, 101, 102, 103, 104, 105, 106, 107, 108, 109, 110, 111, 112, 113, 114, 115, 116, 117, 118, 119, 120, 121, 122]⟩ : ByteArray).extract (a0 : Int).toNat ((wrap64 (a0 + 1)) : Int).toNat)) else (none)) else (none)) else (none)) else (if 0 ≤ (wrap64 (a0 * 2)) then (if (wrap64 (a0 * 2)) ≤ (wrap64 ((wrap64 (a0 * 2)) + 2)) then (if (wrap64 ((wrap64 (a0 * 2)) + 2)) ≤ 200 then (some ((⟨#[48, 48, 48, 49, 48, 50, 48, 51, 48, 52, 48, 53, 48, 54, 48, 55, 48, 56, 48, 57, 49, 48, 49, 49, 49, 50, 49, 51, 49, 52, 49, 53, 49, 54, 49, 55, 49, 56, 49, 57, 50, 48, 50, 49, 50, 50, 50, 51, 50, 52, 50, 53, 50, 54, 50, 55, 50, 56, 50, 57, 51, 48, 51, 49, 51, 50, 51, 51, 51, 52, 51, 53, 51, 54, 51, 55, 51, 56, 51, 57, 52, 48, 52, 49, 52, 50, 52, 51, 52, 52, 52, 53, 52, 54, 52, 55, 52, 56, 52, 57, 53, 48, 53, 49, 53, 50, 53, 51, 53, 52, 53, 53, 53, 54, 53, 55, 53, 56, 53, 57, 54, 48, 54, 49, 54, 50, 54, 51, 54, 52, 54, 53, 54, 54, 54, 55, 54, 56, 54, 57, 55, 48, 55, 49, 55, 50, 55, 51, 55, 52, 55, 53, 55, 54, 55, 55, 55, 56, 55, 57, 56, 48, 56, 49, 56, 50, 56, 51, 56, 52, 56, 53, 56, 54, 56, 55, 56, 56, 56, 57, 57, 48, 57, 49, 57, 50, 57, 51, 57, 52, 57, 53, 57, 54, 57, 55, 57, 56, 57, 57]⟩ : ByteArray).extract ((wrap64 (a0 * 2)) : Int).toNat ((wrap64 ((wrap64 (a0 * 2)) + 2)) : Int).toNat)) else (none)) else (none)) else (none))) = some r := h
 clear h
 by_cases c2 : a0 < 10
 ·rw [if_pos c2] at H
  have c2b0 := dT_ c2
  clear c2
  by_cases c3 : 0 ≤ a0
  ·rw [if_pos c3] at H
   have c3b0 := eq_true c3
   have c3b1 := dT_ c3
   clear c3
   by_cases c4 : a0 ≤ (wrap64 (a0 + 1))
   ·rw [if_pos c4] at H
    have c4b0 := eq_true c4
    have c4b1 := dT_ c4
    by_cases c5 : (wrap64 (a0 + 1)) ≤ 36
    ·rw [if_pos c5] at H
     have c5b0 := eq_true c5
     have c5b1 := dT_ c5
     obtain rfl := sI H
     go_enter Tryz.func140, Tryz.ntmps140
     go_wp2
     go_ret
     exact ⟨by first | rfl | (simp; done) | (simp [*]; done), d0S⟩
    rw [if_neg c5] at H
    exact absurd H (by simp)
   rw [if_neg c4] at H
   exact absurd H (by simp)
  rw [if_neg c3] at H
  exact absurd H (by simp)
 rw [if_neg c2] at H
 have c2b0 := dF_ c2
 clear c2
 obtain ⟨ji6, hji6⟩ : ∃ j_ : Int, (wrap64 (a0 * 2)) = j_ := ⟨_, rfl⟩
 replace H : (if 0 ≤ (ji6) then (if (ji6) ≤ (wrap64 ((ji6) + 2)) then (if (wrap64 ((ji6) + 2)) ≤ 200 then (some ((⟨#[48, 48, 48, 49, 48, 50, 48, 51, 48, 52, 48, 53, 48, 54, 48, 55, 48, 56, 48, 57, 49, 48, 49, 49, 49, 50, 49, 51, 49, 52, 49, 53, 49, 54, 49, 55, 49, 56, 49, 57, 50, 48, 50, 49, 50, 50, 50, 51, 50, 52, 50, 53, 50, 54, 50, 55, 50, 56, 50, 57, 51, 48, 51, 49, 51, 50, 51, 51, 51, 52, 51, 53, 51, 54, 51, 55, 51, 56, 51, 57, 52, 48, 52, 49, 52, 50, 52, 51, 52, 52, 52, 53, 52, 54, 52, 55, 52, 56, 52, 57, 53, 48, 53, 49, 53, 50, 53, 51, 53, 52, 53, 53, 53, 54, 53, 55, 53, 56, 53, 57, 54, 48, 54, 49, 54, 50, 54, 51, 54, 52, 54, 53, 54, 54, 54, 55, 54, 56, 54, 57, 55, 48, 55, 49, 55, 50, 55, 51, 55, 52, 55, 53, 55, 54, 55, 55, 55, 56, 55, 57, 56, 48, 56, 49, 56, 50, 56, 51, 56, 52, 56, 53, 56, 54, 56, 55, 56, 56, 56, 57, 57, 48, 57, 49, 57, 50, 57, 51, 57, 52, 57, 53, 57, 54, 57, 55, 57, 56, 57, 57]⟩ : ByteArray).extract ((ji6) : Int).toNat ((wrap64 ((ji6) + 2)) : Int).toNat)) else (none)) else (none)) else (none)) = some r := by first | (rw [hji6] at H; exact H) | (simp only [hji6] at H ⊢; exact H)
 have hji6w : (IntKind.i64.wrap (a0 * 2)) = ji6 := (i64_w _).trans hji6
 by_cases c7 : 0 ≤ (ji6)
 ·rw [if_pos c7] at H
  have c7b0 := eq_true c7
  have c7b1 := dT_ c7
  clear c7
  by_cases c8 : (ji6) ≤ (wrap64 ((ji6) + 2))
  ·rw [if_pos c8] at H
   have c8b0 := eq_true c8
   have c8b1 := dT_ c8
   by_cases c9 : (wrap64 ((ji6) + 2)) ≤ 200
   ·rw [if_pos c9] at H
    have c9b0 := eq_true c9
    have c9b1 := dT_ c9
    obtain rfl := sI H
    go_enter Tryz.func140, Tryz.ntmps140
    go_wp2
    go_ret
    exact ⟨by first | rfl | (simp; done) | (simp only [← hji6] <;> (first | rfl | simp)) | (simp [*]; done), d0S⟩
   rw [if_neg c9] at H
   exact absurd H (by simp)
  rw [if_neg c8] at H
  exact absurd H (by simp)
 rw [if_neg c7] at H
 exact absurd H (by simp)
def strconv_FormatUint.f (a0 : Int) (a1 : Int) : Option (ByteArray) := if a1 = 10 then (if 0 ≤ a0 ∧ a0 < 100 then strconv_small.f a0 else none) else none
theorem strconv_FormatUint.calls (a0 : Int) (a1 : Int) (r : ByteArray) (w : World) (h : strconv_FormatUint.f a0 a1 = some r) :
 Calls Tryz.prog 96 #[.int .u64 a0, .int .i64 a1] w fun e w' => e = .returned (.string r) ∧ Drawn0 w w' := by
 unfold strconv_FormatUint.f at h
 by_cases h1 : a1 = 10
 ·subst h1
  rw [if_pos rfl] at h
  by_cases h2 : 0 ≤ a0 ∧ a0 < 100
  ·rw [if_pos h2] at h
   have b2 : decide (a0 < 100) = true := dT_ h2.2
   have e2 : IntKind.i64.wrap a0 = a0 := by rw [i64_w]; unfold wrap64; omega
   have arm := Azz.mk (fun W => strconv_small.calls a0 r W h)
   clear h h2
   go_enter Tryz.func96, Tryz.ntmps96
   go_wp2_with (first | (go_at_call 140; rw [e2]; (with_reducible refine (arm.out _).mono ?_); rintro e w' ⟨rfl, ⟨nd, rfl⟩⟩) | (go_at_call 140; (with_reducible refine (arm.out _).mono ?_); rintro e w' ⟨rfl, ⟨nd, rfl⟩⟩) | go_in)
   go_ret
   exact ⟨rfl, d0S⟩
  rw [if_neg h2] at h
  exact absurd h (by simp)
 rw [if_neg h1] at h
 exact absurd h (by simp)
def num_Text.f (a0 : Int) : Option (ByteArray) := (strconv_FormatUint.f a0 10).bind fun t108 => (some t108)
theorem num_Text.calls (a0 : Int) (r : ByteArray) (w : World) (h : num_Text.f a0 = some r) :
 Calls Tryz.prog 82 #[.int .u64 a0] w fun e w' => e = .returned (.string r) ∧ Drawn0 w w' := by
 have H : ((strconv_FormatUint.f a0 10).bind fun t108 => (some t108)) = some r := h
 clear h
 obtain ⟨t108, A2, H⟩ := bnd H
 (try dsimp only at H)
 obtain rfl := sI H
 go_enter Tryz.func82, Tryz.ntmps82
 go_wp2_with (first | ((with_reducible refine g_c (f := 96) rfl ?_); refine gM (some 4) rfl rfl Tryz.func96 #[.int .u64 a0, .int .i64 10] rfl ?_; (with_reducible refine (strconv_FormatUint.calls a0 10 t108 _ A2.out).mono ?_); rintro e w' ⟨rfl, ⟨nd, rfl⟩⟩; refine ⟨_, rfl, ?_⟩))
 go_ret
 exact ⟨by first | rfl | (simp; done) | (simp [*]; done), d0S⟩
def operand_Reg.f (k : Nat) (a0 : ByteArray) : Option (Int × Bool × Int) := if a0.toList = ([115, 112] : List UInt8) then (some (31, true, 0)) else (if a0.toList = ([120, 122, 114] : List UInt8) then (some (31, false, 0)) else (if (a0.size : Int) < 2 then (some (0, false, 3)) else (if (a0.size : Int) > 3 then (some (0, false, 3)) else (if 0 < (a0.size : Int) then (if (bt a0 0) = 120 then (if 1 ≤ (a0.size : Int) then ((num_Value.f k (a0.extract 1 a0.size)).bind fun bt109 => (if bt109.2 = 0 then (if bt109.1 ≥ 31 then (some (0, false, 3)) else ((num_Text.f bt109.1).bind fun t111 => (if t111.toList = (a0.extract 1 a0.size).toList then (some (wrap64 (bt109.1), false, 0)) else (some (0, false, 3))))) else (some (0, false, 3)))) else (none)) else (some (0, false, 3))) else (none)))))
theorem operand_Reg.mono : ∀ a0 k, LeO (operand_Reg.f k a0) (operand_Reg.f (k + 1) a0) := by
 intro a0 k
 unfold operand_Reg.f
 repeat' first
  | (with_reducible exact num_Value.mono _ _)
  | (with_reducible exact LeO.refl _)
  | (with_reducible exact LeO.none _)
  | (with_reducible refine LeO.ite ?_ ?_)
  | (with_reducible refine LeO.bind ?_ (fun _ => ?_))
theorem operand_Reg.calls (k : Nat) (a0 : ByteArray) (r1 : Int) (r2 : Bool) (r3 : Int) (w : World) (h : operand_Reg.f k a0 = some (r1, r2, r3)) :
 Calls Tryz.prog 74 #[.string a0] w fun e w' => e = .returned (.tuple #[.int .i64 r1, .bool r2, .int .i64 r3]) ∧ Below w.heap.size w w' := by
 have HB := Azz.mk (Below.refl w.heap.size w)
 have H : (if a0.toList = ([115, 112] : List UInt8) then (some (31, true, 0)) else (if a0.toList = ([120, 122, 114] : List UInt8) then (some (31, false, 0)) else (if (a0.size : Int) < 2 then (some (0, false, 3)) else (if (a0.size : Int) > 3 then (some (0, false, 3)) else (if 0 < (a0.size : Int) then (if (bt a0 0) = 120 then (if 1 ≤ (a0.size : Int) then ((num_Value.f k (a0.extract 1 a0.size)).bind fun bt109 => (if bt109.2 = 0 then (if bt109.1 ≥ 31 then (some (0, false, 3)) else ((num_Text.f bt109.1).bind fun t111 => (if t111.toList = (a0.extract 1 a0.size).toList then (some (wrap64 (bt109.1), false, 0)) else (some (0, false, 3))))) else (some (0, false, 3)))) else (none)) else (some (0, false, 3))) else (none)))))) = some (r1, r2, r3) := h
 clear h
 by_cases c2 : a0.toList = ([115, 112] : List UInt8)
 ·rw [if_pos c2] at H
  obtain ⟨c2b0, c2b1⟩ := be_ c2
  clear c2
  simp only [sJ_, pJ_] at H
  obtain ⟨rfl, rfl, rfl⟩ := H
  go_enter Tryz.func74, Tryz.ntmps74
  go_wp2
  repeat (go_quiet (fail); try go_wp2)
  go_ret3
  exact ⟨eqB, by repeat (first | (with_reducible first | exact HB.out | apply bAA | apply bNN | apply bDD) | exact HB.out)⟩
 rw [if_neg c2] at H
 obtain ⟨c2b0, c2b1⟩ := bn_ c2
 by_cases c3 : a0.toList = ([120, 122, 114] : List UInt8)
 ·rw [if_pos c3] at H
  obtain ⟨c3b0, c3b1⟩ := be_ c3
  clear c3
  simp only [sJ_, pJ_] at H
  obtain ⟨rfl, rfl, rfl⟩ := H
  go_enter Tryz.func74, Tryz.ntmps74
  go_wp2
  repeat (go_quiet (fail); try go_wp2)
  go_ret3
  exact ⟨eqB, by repeat (first | (with_reducible first | exact HB.out | apply bAA | apply bNN | apply bDD) | exact HB.out)⟩
 rw [if_neg c3] at H
 obtain ⟨c3b0, c3b1⟩ := bn_ c3
 by_cases c4 : (a0.size : Int) < 2
 ·rw [if_pos c4] at H
  have c4b0 := dT_ c4
  have c4b1 : decide (a0.size < 2) = true := dT_ (by omega)
  clear c4
  simp only [sJ_, pJ_] at H
  obtain ⟨rfl, rfl, rfl⟩ := H
  go_enter Tryz.func74, Tryz.ntmps74
  go_wp2
  repeat (go_quiet (fail); try go_wp2)
  go_ret3
  exact ⟨eqB, by repeat (first | (with_reducible first | exact HB.out | apply bAA | apply bNN | apply bDD) | exact HB.out)⟩
 rw [if_neg c4] at H
 have c4b0 := dF_ c4
 have c4b1 : decide (a0.size < 2) = false := dF_ (by omega)
 clear c4
 by_cases c5 : (a0.size : Int) > 3
 ·rw [if_pos c5] at H
  have c5b0 := dT_ c5
  have c5b1 : decide (3 < a0.size) = true := dT_ (by omega)
  clear c5
  simp only [sJ_, pJ_] at H
  obtain ⟨rfl, rfl, rfl⟩ := H
  go_enter Tryz.func74, Tryz.ntmps74
  go_wp2
  repeat (go_quiet (fail); try go_wp2)
  go_ret3
  exact ⟨eqB, by repeat (first | (with_reducible first | exact HB.out | apply bAA | apply bNN | apply bDD) | exact HB.out)⟩
 rw [if_neg c5] at H
 have c5b0 := dF_ c5
 have c5b1 : decide (3 < a0.size) = false := dF_ (by omega)
 clear c5
 by_cases c6 : 0 < (a0.size : Int)
 rotate_left
 ·rw [if_neg c6] at H
  exact absurd H (by simp)
 rw [if_pos c6] at H
 have c6b0 := dT_ c6
 have c6b1 : decide (0 < a0.size) = true := dT_ (by omega)
 clear c6
 by_cases c8 : (bt a0 0) = 120
 rotate_left
 ·rw [if_neg c8] at H
  obtain ⟨c8b0, c8b1⟩ := bn_ c8
  simp only [sJ_, pJ_] at H
  obtain ⟨rfl, rfl, rfl⟩ := H
  have p7 : 0 ≤ (0 : Int) := (by omega)
  have q7 : 0 < a0.size := (by have : (0 : Int) < (a0.size : Int) := of_decide_eq_true (by first | (with_reducible assumption) | assumption); omega)
  have hx7 : ∀ h : 0 < a0.size, ((a0[0]'h).toNat : Int) = bt a0 0 := bt_at a0 0
  clear p7
  have qi7 : (0 < (a0.size : Int)) = True := eq_true (of_decide_eq_true (by first | (with_reducible assumption) | assumption))
  replace q7 := eq_true q7
  go_enter Tryz.func74, Tryz.ntmps74
  go_wp2
  repeat (go_quiet (fail); try go_wp2)
  go_ret3
  exact ⟨eqB, by repeat (first | (with_reducible first | exact HB.out | apply bAA | apply bNN | apply bDD) | exact HB.out)⟩
 rw [if_pos c8] at H
 obtain ⟨c8b0, c8b1⟩ := be_ c8
 clear c8
 by_cases c9 : 1 ≤ (a0.size : Int)
 rotate_left
 ·rw [if_neg c9] at H
  exact absurd H (by simp)
 rw [if_pos c9] at H
 have c9b0 := eq_true c9
 have c9b1 := dT_ c9
 clear c9
 obtain ⟨⟨t109, t110⟩, A10, H⟩ := bnd H
 (try dsimp only at H)
 by_cases c11 : t110 = 0
 rotate_left
 ·rw [if_neg c11] at H
  obtain ⟨c11b0, c11b1⟩ := bn_ c11
  simp only [sJ_, pJ_] at H
  obtain ⟨rfl, rfl, rfl⟩ := H
  have p7 : 0 ≤ (0 : Int) := (by omega)
  have q7 : 0 < a0.size := (by have : (0 : Int) < (a0.size : Int) := of_decide_eq_true (by first | (with_reducible assumption) | assumption); omega)
  have hx7 : ∀ h : 0 < a0.size, ((a0[0]'h).toNat : Int) = bt a0 0 := bt_at a0 0
  clear p7
  have qi7 : (0 < (a0.size : Int)) = True := eq_true (of_decide_eq_true (by first | (with_reducible assumption) | assumption))
  replace q7 := eq_true q7
  go_enter Tryz.func74, Tryz.ntmps74
  go_wp2_with (first | (go_at_call 81; (with_reducible refine (num_Value.calls k (a0.extract 1 a0.size) t109 t110 _ A10.out).mono ?_); rintro e w19 ⟨rfl, hb⟩; have n0_ := Azz.mk (bTT (by with_reducible repeat first | exact HB.out | apply bAA | apply bNN | apply bDD) hb); clear HB; have HB := n0_; clear n0_; (try clear hb); (try clear hb2); (try clear hk); (try clear hi)))
  repeat (go_quiet (first | (go_at_call 81; (with_reducible refine (num_Value.calls k (a0.extract 1 a0.size) t109 t110 _ A10.out).mono ?_); rintro e w19 ⟨rfl, hb⟩; have n0_ := Azz.mk (bTT (by with_reducible repeat first | exact HB.out | apply bAA | apply bNN | apply bDD) hb); clear HB; have HB := n0_; clear n0_; (try clear hb); (try clear hb2); (try clear hk); (try clear hi))); try go_wp2_with (first | (go_at_call 81; (with_reducible refine (num_Value.calls k (a0.extract 1 a0.size) t109 t110 _ A10.out).mono ?_); rintro e w19 ⟨rfl, hb⟩; have n0_ := Azz.mk (bTT (by with_reducible repeat first | exact HB.out | apply bAA | apply bNN | apply bDD) hb); clear HB; have HB := n0_; clear n0_; (try clear hb); (try clear hb2); (try clear hk); (try clear hi))))
  go_ret3
  exact ⟨eqB, by repeat (first | (with_reducible first | exact HB.out | apply bAA | apply bNN | apply bDD) | exact HB.out)⟩
 rw [if_pos c11] at H
 obtain ⟨c11b0, c11b1⟩ := be_ c11
 clear c11
 by_cases c12 : t109 ≥ 31
 ·rw [if_pos c12] at H
  have c12b0 := dT_ c12
  clear c12
  simp only [sJ_, pJ_] at H
  obtain ⟨rfl, rfl, rfl⟩ := H
  have p7 : 0 ≤ (0 : Int) := (by omega)
  have q7 : 0 < a0.size := (by have : (0 : Int) < (a0.size : Int) := of_decide_eq_true (by first | (with_reducible assumption) | assumption); omega)
  have hx7 : ∀ h : 0 < a0.size, ((a0[0]'h).toNat : Int) = bt a0 0 := bt_at a0 0
  clear p7
  have qi7 : (0 < (a0.size : Int)) = True := eq_true (of_decide_eq_true (by first | (with_reducible assumption) | assumption))
  replace q7 := eq_true q7
  go_enter Tryz.func74, Tryz.ntmps74
  go_wp2_with (first | (go_at_call 81; (with_reducible refine (num_Value.calls k (a0.extract 1 a0.size) t109 t110 _ A10.out).mono ?_); rintro e w13 ⟨rfl, hb⟩; have n0_ := Azz.mk (bTT (by with_reducible repeat first | exact HB.out | apply bAA | apply bNN | apply bDD) hb); clear HB; have HB := n0_; clear n0_; (try clear hb); (try clear hb2); (try clear hk); (try clear hi)))
  repeat (go_quiet (first | (go_at_call 81; (with_reducible refine (num_Value.calls k (a0.extract 1 a0.size) t109 t110 _ A10.out).mono ?_); rintro e w13 ⟨rfl, hb⟩; have n0_ := Azz.mk (bTT (by with_reducible repeat first | exact HB.out | apply bAA | apply bNN | apply bDD) hb); clear HB; have HB := n0_; clear n0_; (try clear hb); (try clear hb2); (try clear hk); (try clear hi))); try go_wp2_with (first | (go_at_call 81; (with_reducible refine (num_Value.calls k (a0.extract 1 a0.size) t109 t110 _ A10.out).mono ?_); rintro e w13 ⟨rfl, hb⟩; have n0_ := Azz.mk (bTT (by with_reducible repeat first | exact HB.out | apply bAA | apply bNN | apply bDD) hb); clear HB; have HB := n0_; clear n0_; (try clear hb); (try clear hb2); (try clear hk); (try clear hi))))
  go_ret3
  exact ⟨eqB, by repeat (first | (with_reducible first | exact HB.out | apply bAA | apply bNN | apply bDD) | exact HB.out)⟩
 rw [if_neg c12] at H
 have c12b0 := dF_ c12
 clear c12
 obtain ⟨t111, A14, H⟩ := bnd H
 (try dsimp only at H)
 have c15b0 := eq_true (of_decide_eq_true (by first | (with_reducible assumption) | assumption) : 1 ≤ (a0.size : Int))
 by_cases c16 : t111.toList = (a0.extract 1 a0.size).toList
 ·rw [if_pos c16] at H
  obtain ⟨c16b0, c16b1⟩ := be_ c16
  clear c16
  simp only [sJ_, pJ_] at H
  obtain ⟨rfl, rfl, rfl⟩ := H
  have p7 : 0 ≤ (0 : Int) := (by omega)
  have q7 : 0 < a0.size := (by have : (0 : Int) < (a0.size : Int) := of_decide_eq_true (by first | (with_reducible assumption) | assumption); omega)
  have hx7 : ∀ h : 0 < a0.size, ((a0[0]'h).toNat : Int) = bt a0 0 := bt_at a0 0
  clear p7
  have qi7 : (0 < (a0.size : Int)) = True := eq_true (of_decide_eq_true (by first | (with_reducible assumption) | assumption))
  replace q7 := eq_true q7
  go_enter Tryz.func74, Tryz.ntmps74
  go_wp2_with (first | (go_at_call 81; (with_reducible refine (num_Value.calls k (a0.extract 1 a0.size) t109 t110 _ A10.out).mono ?_); rintro e w17 ⟨rfl, hb⟩; have n0_ := Azz.mk (bTT (by with_reducible repeat first | exact HB.out | apply bAA | apply bNN | apply bDD) hb); clear HB; have HB := n0_; clear n0_; (try clear hb); (try clear hb2); (try clear hk); (try clear hi)) | (go_at_call 82; (with_reducible refine (num_Text.calls t109 t111 _ A14.out).mono ?_); rintro e w' ⟨rfl, ⟨nd, rfl⟩⟩; (try first | exact ⟨rfl, _, dd2⟩ | exact ⟨rfl, _, dd3⟩)))
  repeat (go_quiet (first | (go_at_call 81; (with_reducible refine (num_Value.calls k (a0.extract 1 a0.size) t109 t110 _ A10.out).mono ?_); rintro e w17 ⟨rfl, hb⟩; have n0_ := Azz.mk (bTT (by with_reducible repeat first | exact HB.out | apply bAA | apply bNN | apply bDD) hb); clear HB; have HB := n0_; clear n0_; (try clear hb); (try clear hb2); (try clear hk); (try clear hi)) | (go_at_call 82; (with_reducible refine (num_Text.calls t109 t111 _ A14.out).mono ?_); rintro e w' ⟨rfl, ⟨nd, rfl⟩⟩; (try first | exact ⟨rfl, _, dd2⟩ | exact ⟨rfl, _, dd3⟩))); try go_wp2_with (first | (go_at_call 81; (with_reducible refine (num_Value.calls k (a0.extract 1 a0.size) t109 t110 _ A10.out).mono ?_); rintro e w17 ⟨rfl, hb⟩; have n0_ := Azz.mk (bTT (by with_reducible repeat first | exact HB.out | apply bAA | apply bNN | apply bDD) hb); clear HB; have HB := n0_; clear n0_; (try clear hb); (try clear hb2); (try clear hk); (try clear hi)) | (go_at_call 82; (with_reducible refine (num_Text.calls t109 t111 _ A14.out).mono ?_); rintro e w' ⟨rfl, ⟨nd, rfl⟩⟩; (try first | exact ⟨rfl, _, dd2⟩ | exact ⟨rfl, _, dd3⟩))))
  go_ret3
  exact ⟨eqB, by repeat (first | (with_reducible first | exact HB.out | apply bAA | apply bNN | apply bDD) | exact HB.out)⟩
 rw [if_neg c16] at H
 obtain ⟨c16b0, c16b1⟩ := bn_ c16
 simp only [sJ_, pJ_] at H
 obtain ⟨rfl, rfl, rfl⟩ := H
 have p7 : 0 ≤ (0 : Int) := (by omega)
 have q7 : 0 < a0.size := (by have : (0 : Int) < (a0.size : Int) := of_decide_eq_true (by first | (with_reducible assumption) | assumption); omega)
 have hx7 : ∀ h : 0 < a0.size, ((a0[0]'h).toNat : Int) = bt a0 0 := bt_at a0 0
 clear p7
 have qi7 : (0 < (a0.size : Int)) = True := eq_true (of_decide_eq_true (by first | (with_reducible assumption) | assumption))
 replace q7 := eq_true q7
 go_enter Tryz.func74, Tryz.ntmps74
 go_wp2_with (first | (go_at_call 81; (with_reducible refine (num_Value.calls k (a0.extract 1 a0.size) t109 t110 _ A10.out).mono ?_); rintro e w18 ⟨rfl, hb⟩; have n0_ := Azz.mk (bTT (by with_reducible repeat first | exact HB.out | apply bAA | apply bNN | apply bDD) hb); clear HB; have HB := n0_; clear n0_; (try clear hb); (try clear hb2); (try clear hk); (try clear hi)) | (go_at_call 82; (with_reducible refine (num_Text.calls t109 t111 _ A14.out).mono ?_); rintro e w' ⟨rfl, ⟨nd, rfl⟩⟩; (try first | exact ⟨rfl, _, dd2⟩ | exact ⟨rfl, _, dd3⟩)))
 repeat (go_quiet (first | (go_at_call 81; (with_reducible refine (num_Value.calls k (a0.extract 1 a0.size) t109 t110 _ A10.out).mono ?_); rintro e w18 ⟨rfl, hb⟩; have n0_ := Azz.mk (bTT (by with_reducible repeat first | exact HB.out | apply bAA | apply bNN | apply bDD) hb); clear HB; have HB := n0_; clear n0_; (try clear hb); (try clear hb2); (try clear hk); (try clear hi)) | (go_at_call 82; (with_reducible refine (num_Text.calls t109 t111 _ A14.out).mono ?_); rintro e w' ⟨rfl, ⟨nd, rfl⟩⟩; (try first | exact ⟨rfl, _, dd2⟩ | exact ⟨rfl, _, dd3⟩))); try go_wp2_with (first | (go_at_call 81; (with_reducible refine (num_Value.calls k (a0.extract 1 a0.size) t109 t110 _ A10.out).mono ?_); rintro e w18 ⟨rfl, hb⟩; have n0_ := Azz.mk (bTT (by with_reducible repeat first | exact HB.out | apply bAA | apply bNN | apply bDD) hb); clear HB; have HB := n0_; clear n0_; (try clear hb); (try clear hb2); (try clear hk); (try clear hi)) | (go_at_call 82; (with_reducible refine (num_Text.calls t109 t111 _ A14.out).mono ?_); rintro e w' ⟨rfl, ⟨nd, rfl⟩⟩; (try first | exact ⟨rfl, _, dd2⟩ | exact ⟨rfl, _, dd3⟩))))
 go_ret3
 exact ⟨eqB, by repeat (first | (with_reducible first | exact HB.out | apply bAA | apply bNN | apply bDD) | exact HB.out)⟩
end Go.Proofs.YtngmipfodjgmmaaGreatDoor.P
