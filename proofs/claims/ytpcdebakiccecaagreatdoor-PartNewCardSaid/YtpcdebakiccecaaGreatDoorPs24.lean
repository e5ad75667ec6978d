/- Walks and plain laws of this claim, a part. -/
import Derived.Test.YtpcdebakiccecaaGreatDoorPs23
namespace Go.Proofs.YtpcdebakiccecaaGreatDoor.P
open Go.RowKit Go.Proofs.YtpcdebakiccecaaGreatDoorW.PrintWords Go.Proofs.YtpcdebakiccecaaGreatDoorW.PrintLast Go.Proofs.YtpcdebakiccecaaGreatDoorW.PrintMore
attribute [local go_sem] max2_int min2_int max_two min_two max_three min_three max_four min_four   -- for this text's walks alone
set_option linter.unusedVariables false
set_option linter.unusedSimpArgs false
mutual
def num_digit.j0 : Nat → Int → Int → Bool → Option (Int × Bool)
 | 0, _, _, _ => none
 | k + 1, x0, x1, x7 => if x7 = true then (some (IntKind.u64.wrap (wrap32 (x0 - 48)), decide ((IntKind.u64.wrap (wrap32 (x0 - 48))) < x1))) else (if x0 ≥ 97 then (num_digit.j1 k x0 x1 (decide (x0 ≤ 102))) else (num_digit.j1 k x0 x1 false))
def num_digit.j1 : Nat → Int → Int → Bool → Option (Int × Bool)
 | 0, _, _, _ => none
 | k + 1, x0, x1, x17 => if x17 = true then (some (IntKind.u64.wrap ((IntKind.u64.wrap (wrap32 (x0 - 97))) + 10), decide ((IntKind.u64.wrap ((IntKind.u64.wrap (wrap32 (x0 - 97))) + 10)) < x1))) else (if x0 ≥ 65 then (if x0 ≤ 70 then (some (IntKind.u64.wrap ((IntKind.u64.wrap (wrap32 (x0 - 65))) + 10), decide ((IntKind.u64.wrap ((IntKind.u64.wrap (wrap32 (x0 - 65))) + 10)) < x1))) else (some (0, false))) else (some (0, false)))
end
def num_digit.f (k : Nat) (a0 : Int) (a1 : Int) : Option (Int × Bool) := if a0 ≥ 48 then (num_digit.j0 k a0 a1 (decide (a0 ≤ 57))) else (num_digit.j0 k a0 a1 false)
theorem num_digit.mono_l : ∀ k, (∀ y0 y1 y2, LeO (num_digit.j0 k y0 y1 y2) (num_digit.j0 (k + 1) y0 y1 y2)) ∧ (∀ y0 y1 y2, LeO (num_digit.j1 k y0 y1 y2) (num_digit.j1 (k + 1) y0 y1 y2))
 | 0 => ⟨fun _ _ _ r h => by simp [num_digit.j0] at h, fun _ _ _ r h => by simp [num_digit.j1] at h⟩
 | k + 1 => by
  obtain ⟨ih0, ih1⟩ := num_digit.mono_l k
  refine ⟨?_, ?_⟩
  ·intro y0 y1 y2
   unfold num_digit.j0
   repeat' first
   | (with_reducible exact ih0 _ _ _)
   | (with_reducible exact ih1 _ _ _)
   | (with_reducible exact LeO.refl _)
   | (with_reducible exact LeO.none _)
   | (with_reducible refine LeO.ite ?_ ?_)
   | (with_reducible refine LeO.bind ?_ (fun _ => ?_))
  ·intro y0 y1 y2
   unfold num_digit.j1
   repeat' first
   | (with_reducible exact ih0 _ _ _)
   | (with_reducible exact ih1 _ _ _)
   | (with_reducible exact LeO.refl _)
   | (with_reducible exact LeO.none _)
   | (with_reducible refine LeO.ite ?_ ?_)
   | (with_reducible refine LeO.bind ?_ (fun _ => ?_))
theorem num_digit.mono : ∀ a0 a1 k, LeO (num_digit.f k a0 a1) (num_digit.f (k + 1) a0 a1) := by
 intro a0 a1 k
 obtain ⟨ih0, ih1⟩ := num_digit.mono_l k
 unfold num_digit.f
 repeat' first
  | (with_reducible exact ih0 _ _ _)
  | (with_reducible exact ih1 _ _ _)
  | (with_reducible exact LeO.refl _)
  | (with_reducible exact LeO.none _)
  | (with_reducible refine LeO.ite ?_ ?_)
  | (with_reducible refine LeO.bind ?_ (fun _ => ?_))
set_option maxHeartbeats 8000000 in
set_option maxRecDepth 100000 in
theorem num_digit.calls (k : Nat) (a0 : Int) (a1 : Int) (r1 : Int) (r2 : Bool) (w : World) (h : num_digit.f k a0 a1 = some (r1, r2)) :
 Calls Tryz.prog 60 #[.int .i32 a0, .int .u64 a1] w fun e w' => e = .returned (.tuple #[.int .u64 r1, .bool r2]) ∧ Drawn0 w w' := by
 have H : (if a0 ≥ 48 then (num_digit.j0 k a0 a1 (decide (a0 ≤ 57))) else (num_digit.j0 k a0 a1 false)) = some (r1, r2) := h
 clear h
 have HC3 := Azz.mk H
 clear H
 go_enter Tryz.func60, Tryz.ntmps60
 go_upto_region 3 with (fail)
 go_cut [7] (fun v7 wc => ∃ (kq : Nat) (x7_2 : Bool), v7 = .bool x7_2 ∧ Azz (num_digit.j0 kq a0 a1 x7_2 = some (r1, r2)) ∧ Azz (kq ≤ k) ∧ Drawn0 w wc)
 case first =>
  have H := HC3.out
  clear HC3
  by_cases c4 : a0 ≥ 48
  ·rw [if_pos c4] at H
   have c4b0 := decide_eq_true c4
   clear c4
   (first | rw [c4b0] | (simp only [i64_w, i32_w]; rw [c4b0]) | skip)
   have H' := Azz.mk H
   clear H
   go_wp2
   go_meet
   case rel => exact ⟨_, (decide (a0 ≤ 57)), (by first | rfl | (simp; done) | (simp [*]; done)), H', ⟨by first | omega | exact Nat.le_refl _⟩, by repeat (first | exact Drawn0.refl _ | apply Drawn0.step)⟩
  ·rw [if_neg c4] at H
   have c4b0 := decide_eq_false c4
   clear c4
   (first | rw [c4b0] | (simp only [i64_w, i32_w]; rw [c4b0]) | skip)
   have H' := Azz.mk H
   clear H
   go_wp2
   go_meet
   case rel => exact ⟨_, (false), (by first | rfl | (simp; done) | (simp [*]; done)), H', ⟨by first | omega | exact Nat.le_refl _⟩, by repeat (first | exact Drawn0.refl _ | apply Drawn0.step)⟩
 case rest =>
  clear HC3
  try clear p2
  try clear c4
  try clear c4b0
  obtain ⟨kq, x7_2, rfl, HA, HJ2, ⟨mc2, rfl⟩⟩ := hcut
  cases kq with
  | zero => exact absurd HA.out (by simp [num_digit.j0])
  | succ kj2 =>
   have H := HA.out
   clear HA
   simp only [num_digit.j0] at H
   by_cases c5 : x7_2 = true
   ·subst c5
    rw [if_pos rfl] at H
    simp only [Option.some.injEq, Prod.mk.injEq] at H
    obtain ⟨rfl, rfl⟩ := H
    go_wp2
    go_ret2
    exact ⟨by first | rfl | (simp; done) | (simp [*]; done), by repeat (first | exact Drawn0.refl _ | apply Drawn0.step)⟩
   ·replace c5 := Bool.eq_false_iff.mpr c5
    subst c5
    rw [if_neg (show ¬ (false = true) by decide)] at H
    have HC6 := Azz.mk H
    clear H
    go_upto_region 5 with (fail)
    go_cut [17] (fun v17 wc => ∃ (kq : Nat) (x17_5 : Bool), v17 = .bool x17_5 ∧ Azz (num_digit.j1 kq a0 a1 x17_5 = some (r1, r2)) ∧ Azz (kq ≤ kj2) ∧ Drawn0 w wc)
    case first =>
     have H := HC6.out
     clear HC6
     by_cases c7 : a0 ≥ 97
     ·rw [if_pos c7] at H
      have c7b0 := decide_eq_true c7
      clear c7
      (first | rw [c7b0] | (simp only [i64_w, i32_w]; rw [c7b0]) | skip)
      have H' := Azz.mk H
      clear H
      go_wp2
      go_meet
      case rel => exact ⟨_, (decide (a0 ≤ 102)), (by first | rfl | (simp; done) | (simp [*]; done)), H', ⟨by have := HJ2.out; first | omega | exact Nat.le_refl _⟩, by repeat (first | exact Drawn0.refl _ | apply Drawn0.step)⟩
     ·rw [if_neg c7] at H
      have c7b0 := decide_eq_false c7
      clear c7
      (first | rw [c7b0] | (simp only [i64_w, i32_w]; rw [c7b0]) | skip)
      have H' := Azz.mk H
      clear H
      go_wp2
      go_meet
      case rel => exact ⟨_, (false), (by first | rfl | (simp; done) | (simp [*]; done)), H', ⟨by have := HJ2.out; first | omega | exact Nat.le_refl _⟩, by repeat (first | exact Drawn0.refl _ | apply Drawn0.step)⟩
    case rest =>
     clear HC6
     try clear c2
     try clear p2
     try clear p3
     try clear c4
     try clear c4b0
     try clear c5
     try clear c6
     try clear c7
     try clear c7b0
     try clear p2
     obtain ⟨kq, x17_5, rfl, HA, HJ5, ⟨mc5, rfl⟩⟩ := hcut
     cases kq with
     | zero => exact absurd HA.out (by simp [num_digit.j1])
     | succ kj5 =>
      have H := HA.out
      clear HA
      simp only [num_digit.j1] at H
      by_cases c8 : x17_5 = true
      ·subst c8
       rw [if_pos rfl] at H
       simp only [Option.some.injEq, Prod.mk.injEq] at H
       obtain ⟨rfl, rfl⟩ := H
       go_wp2
       go_ret2
       exact ⟨by first | rfl | (simp; done) | (simp [*]; done), by repeat (first | exact Drawn0.refl _ | apply Drawn0.step)⟩
      ·replace c8 := Bool.eq_false_iff.mpr c8
       subst c8
       rw [if_neg (show ¬ (false = true) by decide)] at H
       by_cases c9 : a0 ≥ 65
       ·rw [if_pos c9] at H
        have c9b0 := decide_eq_true c9
        clear c9
        by_cases c10 : a0 ≤ 70
        ·rw [if_pos c10] at H
         have c10b0 := decide_eq_true c10
         clear c10
         simp only [Option.some.injEq, Prod.mk.injEq] at H
         obtain ⟨rfl, rfl⟩ := H
         go_wp2
         go_ret2
         exact ⟨by first | rfl | (simp; done) | (simp [*]; done), by repeat (first | exact Drawn0.refl _ | apply Drawn0.step)⟩
        ·rw [if_neg c10] at H
         have c10b0 := decide_eq_false c10
         clear c10
         simp only [Option.some.injEq, Prod.mk.injEq] at H
         obtain ⟨rfl, rfl⟩ := H
         go_wp2
         go_ret2
         exact ⟨by first | rfl | (simp; done) | (simp [*]; done), by repeat (first | exact Drawn0.refl _ | apply Drawn0.step)⟩
       ·rw [if_neg c9] at H
        have c9b0 := decide_eq_false c9
        clear c9
        simp only [Option.some.injEq, Prod.mk.injEq] at H
        obtain ⟨rfl, rfl⟩ := H
        go_wp2
        go_ret2
        exact ⟨by first | rfl | (simp; done) | (simp [*]; done), by repeat (first | exact Drawn0.refl _ | apply Drawn0.step)⟩
def num_digits.l0 : Nat → ByteArray → Int → Nat → Option Bool
 | 0, _, _, _ => none
 | k + 1, s, b, i => if i < s.size then (if bt s (i : Int) < 128 then ((num_digit.f k (bt s (i : Int)) b).bind fun t => if t.2 = true then num_digits.l0 k s b (i + 1) else some false) else some false) else some true
def num_digits.f (k : Nat) (a0 : ByteArray) (a1 : Int) : Option Bool := if a0.size = 0 then some false else num_digits.l0 k a0 a1 0
theorem num_digits.mono_l : ∀ k s b i, LeO (num_digits.l0 k s b i) (num_digits.l0 (k + 1) s b i)
 | 0, s, b, i => fun r h => by simp [num_digits.l0] at h
 | k + 1, s, b, i => by
  have ih := num_digits.mono_l k
  rw [num_digits.l0, num_digits.l0.eq_2 s b i (k + 1)]
  exact LeO.ite (LeO.ite (LeO.bind (num_digit.mono _ _ k) fun t => LeO.ite (ih _ _ _) (LeO.refl _)) (LeO.refl _)) (LeO.refl _)
theorem num_digits.mono : ∀ a0 a1 k, LeO (num_digits.f k a0 a1) (num_digits.f (k + 1) a0 a1) := by
 intro a0 a1 k
 unfold num_digits.f
 exact LeO.ite (LeO.refl _) (num_digits.mono_l k _ _ _)
theorem num_digit.high (r b : Int) (h : 128 ≤ r) : num_digit.f 9 r b = some (0, false) := by
 unfold num_digit.f
 rw [if_pos (by omega), decide_eq_false (by omega : ¬ r ≤ 57), num_digit.j0, if_neg (by decide), if_pos (by omega), decide_eq_false (by omega : ¬ r ≤ 102), num_digit.j1, if_neg (by decide), if_pos (by omega), if_neg (by omega)]
theorem num_digits.iter_drewN (w : World) (s : ByteArray) (p m n : Nat) : ((w.drewN m).iter s p).drewN n = (w.drewN (m + n)).iter s p := by
 rw [← World.drewN_drewN]
 rfl
theorem num_digits.iter_below (w : World) (s : ByteArray) (p m : Nat) : Below w.heap.size w ((w.drewN m).iter s p) := by
 unfold World.iter
 repeat (first | exact Below.refl _ _ | apply bAA | apply bNN | apply bDD)
theorem num_digits.bt_at (s : ByteArray) (p : Nat) (h : p < s.size) : bt s (p : Int) = ((s[p]'h).toNat : Int) := by
 unfold bt
 rw [dif_pos (by rw [Int.toNat_natCast]; exact h)]
 rfl
theorem num_digits.not_empty (s : ByteArray) (h0 : ¬ s.size = 0) : (s.toList == ([] : List UInt8)) = false := by
 rw [Go.Lib.toList_data]
 have : s.data.toList.length = s.size := by rw [Array.length_toList]; rfl
 cases hd : s.data.toList with
 | nil => rw [hd] at this; exact absurd this.symm h0
 | cons x l => rfl
theorem num_digits.is_empty (s : ByteArray) (h0 : s.size = 0) : s = ⟨#[]⟩ := by
 cases s
 rename_i d
 have : d = #[] := Array.eq_empty_of_size_eq_zero h0
 rw [this]
set_option maxRecDepth 100000 in
theorem num_digits.calls (k : Nat) (a0 : ByteArray) (a1 : Int) (r : Bool) (w : World) (h : num_digits.f k a0 a1 = some r) :
 Calls Tryz.prog 59 #[.string a0, .int .u64 a1] w fun e w' => e = .returned (.bool r) ∧ Below w.heap.size w w' := by
 unfold num_digits.f at h
 by_cases h0 : a0.size = 0
 ·rw [if_pos h0] at h
  obtain rfl := Option.some.inj h
  obtain rfl := num_digits.is_empty a0 h0
  have hnx : ∀ ty, (Instr.next (.pointer (some ⟨w.heap.size, 0, none⟩)) true ty).run Tryz.prog (w.iter ⟨#[]⟩ 0) = .ok (.tuple #[.bool false]) (w.iter ⟨#[]⟩ 0) := fun ty => run_next_end (P := Tryz.prog) w ⟨#[]⟩ 0 ty (by decide)
  clear h
  go_enter Tryz.func59, Tryz.ntmps59
  go_wp2
  go_loopg [6] 1 (fun kq v6 w' => w' = w.iter ⟨#[]⟩ 0)
  case atStart => rfl
  case round =>
   subst hrel
   go_wp2
   go_ret
   exact ⟨rfl, num_digits.iter_below w ⟨#[]⟩ 0 0⟩
 ·rw [if_neg h0] at h
  have n0 := num_digits.not_empty a0 h0
  have H' := Azz.mk h
  clear h h0
  go_enter Tryz.func59, Tryz.ntmps59
  go_wp2
  go_loopg [6] k (fun kq v6 w' => ∃ (m pos : Nat), Azz (num_digits.l0 kq a0 a1 pos = some r) ∧ Azz (kq ≤ k) ∧ w' = (w.drewN m).iter a0 pos)
  case atStart => exact ⟨0, 0, H', ⟨Nat.le_refl _⟩, rfl⟩
  case round =>
   clear H'
   obtain ⟨m, pos, HA, HK, rfl⟩ := hrel
   cases gk with
   | zero => exact absurd HA.out (by simp [num_digits.l0])
   | succ k1 =>
    have H := HA.out
    clear HA
    rw [num_digits.l0] at H
    by_cases hp : pos < a0.size
    ·rw [if_pos hp] at H
     have ebt := num_digits.bt_at a0 pos hp
     by_cases ha : bt a0 (pos : Int) < 128
     ·rw [if_pos ha] at H
      have ha2 : (a0[pos]'hp).toNat < 128 := by rw [ebt] at ha; omega
      have hnx : ∀ ty, (Instr.next (.pointer (some ⟨w.heap.size, 0, none⟩)) true ty).run Tryz.prog ((w.drewN m).iter a0 pos) = .ok (.tuple #[.bool true, .int .i64 pos, .int .i32 (bt a0 (pos : Int))]) ((w.drewN m).iter a0 (pos + 1)) := by
       intro ty
       rw [ebt]
       exact run_next_ascii (P := Tryz.prog) (w.drewN m) a0 pos ty hp ha2
      generalize bt a0 (pos : Int) = c at ha hnx H
      clear ebt ha2 n0
      cases ht : num_digit.f k1 c a1 with
      | none => rw [ht] at H; exact absurd H (by simp)
      | some t =>
       obtain ⟨t1, t2⟩ := t
       rw [ht, Option.bind_some] at H
       have arm := Azz.mk (fun W => num_digit.calls k1 c a1 t1 t2 W ht)
       clear ht
       cases t2 with
       | true =>
        rw [if_pos rfl] at H
        have H' := Azz.mk H
        clear H
        go_wp2_with (first | (go_at_call 60; (with_reducible refine (arm.out _).mono ?_); rintro e w' ⟨rfl, ⟨nd, rfl⟩⟩))
        go_roundg k1
        case measure => have := HK.out; omega
        case rel => exact ⟨_, pos + 1, H', ⟨by have := HK.out; omega⟩, num_digits.iter_drewN ..⟩
       | false =>
        rw [if_neg (by simp)] at H
        obtain rfl := Option.some.inj H
        go_wp2_with (first | (go_at_call 60; (with_reducible refine (arm.out _).mono ?_); rintro e w' ⟨rfl, ⟨nd, rfl⟩⟩))
        go_ret
        exact ⟨rfl, by rw [num_digits.iter_drewN]; exact num_digits.iter_below ..⟩
     ·rw [if_neg ha] at H
      obtain rfl := Option.some.inj H
      obtain ⟨hd, _⟩ := decode_high a0 pos hp (by rw [ebt] at ha; omega)
      have hnx := fun ty => run_next_any (P := Tryz.prog) (w.drewN m) a0 pos ty hp
      generalize (Utf8.decode a0 pos).2 = q at hnx
      generalize (Utf8.decode a0 pos).1 = c at hd hnx
      replace hnx : ∀ ty, (Instr.next (.pointer (some ⟨w.heap.size, 0, none⟩)) true ty).run Tryz.prog ((w.drewN m).iter a0 pos) = .ok (.tuple #[.bool true, .int .i64 pos, .int .i32 ((c : Nat) : Int)]) ((w.drewN m).iter a0 (pos + q)) := hnx
      have arm := Azz.mk (fun W => num_digit.calls 9 ((c : Nat) : Int) a1 0 false W (num_digit.high _ _ (by omega)))
      clear ebt ha n0
      go_wp2_with (first | (go_at_call 60; (with_reducible refine (arm.out _).mono ?_); rintro e w' ⟨rfl, ⟨nd, rfl⟩⟩))
      go_ret
      exact ⟨rfl, by rw [num_digits.iter_drewN]; exact num_digits.iter_below ..⟩
    ·rw [if_neg hp] at H
     obtain rfl := Option.some.inj H
     have hnx : ∀ ty, (Instr.next (.pointer (some ⟨w.heap.size, 0, none⟩)) true ty).run Tryz.prog ((w.drewN m).iter a0 pos) = .ok (.tuple #[.bool false]) ((w.drewN m).iter a0 pos) := fun ty => run_next_end (P := Tryz.prog) (w.drewN m) a0 pos ty hp
     clear hp
     go_wp2
     go_ret
     exact ⟨rfl, num_digits.iter_below ..⟩
/-- A text of at most two bytes, at base ten (no more is told): the digits' number. -/
def num_Value.l0 : Nat → ByteArray → Int → Nat → Option (Int × Int)
 | 0, _, _, _ => none
 | k + 1, s, v, i => if i < s.size then (if bt s (i : Int) < 128 then ((num_digit.f k (bt s (i : Int)) 10).bind fun t => if 0 ≤ v ∧ v < 100 ∧ 0 ≤ t.1 ∧ t.1 < 10 then num_Value.l0 k s (v * 10 + t.1) (i + 1) else none) else none) else some (v, 0)
def num_Value.f (k : Nat) (a0 : ByteArray) : Option (Int × Int) := if a0.size ≤ 2 then (if a0.toList = ([48, 120] : List UInt8) then some (0, 3) else ((num_digits.f k a0 10).bind fun t => if t = true then num_Value.l0 k a0 0 0 else some (0, 3))) else none
theorem num_Value.mono_l : ∀ k s v i, LeO (num_Value.l0 k s v i) (num_Value.l0 (k + 1) s v i)
 | 0, s, v, i => fun r h => by simp [num_Value.l0] at h
 | k + 1, s, v, i => by
  have ih := num_Value.mono_l k
  rw [num_Value.l0, num_Value.l0.eq_2 s v i (k + 1)]
  exact LeO.ite (LeO.ite (LeO.bind (num_digit.mono _ _ k) fun t => LeO.ite (ih _ _ _) (LeO.refl _)) (LeO.refl _)) (LeO.refl _)
theorem num_Value.mono : ∀ a0 k, LeO (num_Value.f k a0) (num_Value.f (k + 1) a0) := by
 intro a0 k
 unfold num_Value.f
 exact LeO.ite (LeO.ite (LeO.refl _) (LeO.bind (num_digits.mono _ _ k) fun t => LeO.ite (num_Value.mono_l k _ _ _) (LeO.refl _))) (LeO.refl _)
theorem num_Value.mul (v : Int) (h0 : 0 ≤ v) (h1 : v < 100) (W : World) : Calls Tryz.prog 61 #[.int .u64 v, .int .u64 10] W fun e w' => e = .returned (.tuple #[.int .u64 0, .int .u64 (v * 10)]) ∧ w' = W := by
 obtain ⟨m, rfl⟩ := Int.eq_ofNat_of_zero_le h0
 refine (Tryz.bits_Mul64 m 10 (by omega) (by decide) W).mono ?_
 rintro e w' ⟨rfl, rfl⟩
 refine ⟨?_, rfl⟩
 have e1 : m * 10 / 18446744073709551616 = 0 := by omega
 have e2 : m * 10 % 18446744073709551616 = m * 10 := by omega
 simp [e1, e2]
theorem num_Value.add (x y : Int) (h0 : 0 ≤ x) (h1 : x < 1000) (h2 : 0 ≤ y) (h3 : y < 10) (W : World) : (callFunc 62 #[.int .u64 x, .int .u64 y, .int .u64 0]).run Tryz.prog W = .ok (.value (.tuple #[.int .u64 (x + y), .int .u64 0])) W := by
 rw [run_callFunc_extern Tryz.func62 (by kernel_rfl) (by kernel_rfl) (by kernel_rfl) (e := add64Entry) (by kernel_rfl), run_add64 x y 0 h0 h2 (by decide) (by decide)]
 have e1 : (x + y + 0) % 18446744073709551616 = x + y := by omega
 have e2 : (x + y + 0) / 18446744073709551616 = 0 := by omega
 rw [e1, e2]
 rfl
theorem num_Value.iter_below (w w1 : World) (s : ByteArray) (p m : Nat) (h : Below w.heap.size w w1) : Below w.heap.size w ((w1.drewN m).iter s p) := by
 unfold World.iter
 refine bAA ?_ _
 exact bNN h _
theorem num_Value.cut (a0 : ByteArray) (h : a0.size = 2) : (a0.extract 0 2).toList = a0.toList := by
 rw [show a0.extract 0 2 = a0 by rw [← h]; exact ByteArray.extract_zero_size]
theorem num_Value.rest (a0 : ByteArray) (h : a0.size = 2) : a0.extract 2 a0.size = ⟨#[]⟩ := num_digits.is_empty _ (by rw [ByteArray.size_extract]; omega)
set_option maxRecDepth 100000 in
theorem num_Value.calls (k : Nat) (a0 : ByteArray) (r1 : Int) (r2 : Int) (w : World) (h : num_Value.f k a0 = some (r1, r2)) :
 Calls Tryz.prog 28 #[.string a0] w fun e w' => e = .returned (.tuple #[.int .u64 r1, .int .i64 r2]) ∧ Below w.heap.size w w' := by
 unfold num_Value.f at h
 by_cases h2 : a0.size ≤ 2
 ·rw [if_pos h2] at h
  by_cases hx : a0.toList = ([48, 120] : List UInt8)
  ·rw [if_pos hx] at h
   obtain ⟨rfl, rfl⟩ := Prod.mk.inj (Option.some.inj h)
   have hs : a0.size = 2 := by
    have := congrArg List.length hx
    rw [Go.Lib.toList_data, Array.length_toList] at this
    exact this
   have n0 : ((a0.extract 0 2).toList == ([48, 120] : List UInt8)) = true := by rw [num_Value.cut a0 hs, hx]; rfl
   have b2 : decide ((2 : Int) ≤ (a0.size : Int)) = true := decide_eq_true (by omega)
   have q2 : (2 : Int) ≤ (a0.size : Int) := by omega
   have arm := Azz.mk (fun W => num_digits.calls 0 ⟨#[]⟩ 16 false W rfl)
   have e0 := num_Value.rest a0 hs
   clear h hx h2 hs
   go_enter Tryz.func28, Tryz.ntmps28
   go_wp2
   go_step3
   go_wp2_with (first | (go_at_call 59; (with_reducible refine (arm.out _).mono ?_); rintro e w1 ⟨rfl, hb1⟩))
   rw [Exit.noGoto_ret]
   go_ret2
   exact ⟨rfl, hb1⟩
  ·rw [if_neg hx] at h
   cases hd : num_digits.f k a0 10 with
   | none => rw [hd] at h; exact absurd h (by simp)
   | some t =>
    rw [hd, Option.bind_some] at h
    have arm := Azz.mk (fun W => num_digits.calls k a0 10 t W hd)
    clear hd
    by_cases hs : a0.size = 2
    ·have n0 : ((a0.extract 0 2).toList == ([48, 120] : List UInt8)) = false := by rw [num_Value.cut a0 hs]; exact beq_eq_false_iff_ne.mpr hx
     have b2 : decide ((2 : Int) ≤ (a0.size : Int)) = true := decide_eq_true (by omega)
     have q2 : (2 : Int) ≤ (a0.size : Int) := by omega
     clear hx hs h2
     cases t with
     | false =>
      rw [if_neg (by decide)] at h
      obtain ⟨rfl, rfl⟩ := Prod.mk.inj (Option.some.inj h)
      clear h
      go_enter Tryz.func28, Tryz.ntmps28
      go_wp2
      go_step3
      go_wp2_with (first | (go_at_call 59; (with_reducible refine (arm.out _).mono ?_); rintro e w1 ⟨rfl, hb1⟩))
      rw [Exit.noGoto_ret]
      go_ret2
      exact ⟨rfl, hb1⟩
     | true =>
      rw [if_pos rfl] at h
      have H' := Azz.mk h
      clear h
      go_enter Tryz.func28, Tryz.ntmps28
      go_wp2
      go_step3
      go_wp2_with (first | (go_at_call 59; (with_reducible refine (arm.out _).mono ?_); rintro e w1 ⟨rfl, hb1⟩))
      go_loopg [4] k (fun kq v4 w' => ∃ (m pos : Nat) (v : Int), v4 = .int .u64 v ∧ Azz (num_Value.l0 kq a0 v pos = some (r1, r2)) ∧ Azz (kq ≤ k) ∧ w' = (w1.drewN m).iter a0 pos)
      case atStart => exact ⟨0, 0, 0, rfl, H', ⟨Nat.le_refl _⟩, rfl⟩
      case round =>
       clear H' arm
       obtain ⟨m, pos, v, rfl, HA, HK, rfl⟩ := hrel
       cases gk with
       | zero => exact absurd HA.out (by simp [num_Value.l0])
       | succ k1 =>
        have H := HA.out
        clear HA
        rw [num_Value.l0] at H
        by_cases hp : pos < a0.size
        ·rw [if_pos hp] at H
         have ebt := num_digits.bt_at a0 pos hp
         by_cases ha : bt a0 (pos : Int) < 128
         ·rw [if_pos ha] at H
          have ha2 : (a0[pos]'hp).toNat < 128 := by rw [ebt] at ha; omega
          have hnx : ∀ ty, (Instr.next (.pointer (some ⟨w1.heap.size, 0, none⟩)) true ty).run Tryz.prog ((w1.drewN m).iter a0 pos) = .ok (.tuple #[.bool true, .int .i64 pos, .int .i32 (bt a0 (pos : Int))]) ((w1.drewN m).iter a0 (pos + 1)) := by
           intro ty
           rw [ebt]
           exact run_next_ascii (P := Tryz.prog) (w1.drewN m) a0 pos ty hp ha2
          generalize bt a0 (pos : Int) = c at ha hnx H
          clear ebt ha2
          cases ht : num_digit.f k1 c 10 with
          | none => rw [ht] at H; exact absurd H (by simp)
          | some t =>
           obtain ⟨t1, t2⟩ := t
           rw [ht, Option.bind_some] at H
           by_cases hv : 0 ≤ v ∧ v < 100 ∧ 0 ≤ t1 ∧ t1 < 10
           ·rw [if_pos hv] at H
            have arm := Azz.mk (fun W => num_digit.calls k1 c 10 t1 t2 W ht)
            have arm2 := Azz.mk (fun W => num_Value.mul v hv.1 hv.2.1 W)
            have hadd := fun W => num_Value.add (v * 10) t1 (by omega) (by omega) hv.2.2.1 hv.2.2.2 W
            clear ht hv
            have H' := Azz.mk H
            clear H
            go_wp2_with (first | (go_at_call 60; (with_reducible refine (arm.out _).mono ?_); rintro e w' ⟨rfl, ⟨nd, rfl⟩⟩) | (go_at_call 61; (with_reducible refine (arm2.out _).mono ?_); rintro e w' ⟨rfl, rfl⟩) | (simp only [hadd]))
            go_roundg k1
            case measure => have := HK.out; omega
            case rel => exact ⟨_, pos + 1, v * 10 + t1, rfl, H', ⟨by have := HK.out; omega⟩, num_digits.iter_drewN ..⟩
           ·rw [if_neg hv] at H
            exact absurd H (by simp)
         ·rw [if_neg ha] at H
          exact absurd H (by simp)
        ·rw [if_neg hp] at H
         obtain ⟨rfl, rfl⟩ := Prod.mk.inj (Option.some.inj H)
         have hnx : ∀ ty, (Instr.next (.pointer (some ⟨w1.heap.size, 0, none⟩)) true ty).run Tryz.prog ((w1.drewN m).iter a0 pos) = .ok (.tuple #[.bool false]) ((w1.drewN m).iter a0 pos) := fun ty => run_next_end (P := Tryz.prog) (w1.drewN m) a0 pos ty hp
         clear hp
         go_wp2
         go_ret2
         exact ⟨rfl, num_Value.iter_below _ _ _ _ _ hb1⟩
    ·have b2 : decide ((2 : Int) ≤ (a0.size : Int)) = false := decide_eq_false (by omega)
     clear hx hs h2
     cases t with
     | false =>
      rw [if_neg (by decide)] at h
      obtain ⟨rfl, rfl⟩ := Prod.mk.inj (Option.some.inj h)
      clear h
      go_enter Tryz.func28, Tryz.ntmps28
      go_wp2
      go_step3
      go_wp2_with (first | (go_at_call 59; (with_reducible refine (arm.out _).mono ?_); rintro e w1 ⟨rfl, hb1⟩))
      rw [Exit.noGoto_ret]
      go_ret2
      exact ⟨rfl, hb1⟩
     | true =>
      rw [if_pos rfl] at h
      have H' := Azz.mk h
      clear h
      go_enter Tryz.func28, Tryz.ntmps28
      go_wp2
      go_step3
      go_wp2_with (first | (go_at_call 59; (with_reducible refine (arm.out _).mono ?_); rintro e w1 ⟨rfl, hb1⟩))
      go_loopg [4] k (fun kq v4 w' => ∃ (m pos : Nat) (v : Int), v4 = .int .u64 v ∧ Azz (num_Value.l0 kq a0 v pos = some (r1, r2)) ∧ Azz (kq ≤ k) ∧ w' = (w1.drewN m).iter a0 pos)
      case atStart => exact ⟨0, 0, 0, rfl, H', ⟨Nat.le_refl _⟩, rfl⟩
      case round =>
       clear H' arm
       obtain ⟨m, pos, v, rfl, HA, HK, rfl⟩ := hrel
       cases gk with
       | zero => exact absurd HA.out (by simp [num_Value.l0])
       | succ k1 =>
        have H := HA.out
        clear HA
        rw [num_Value.l0] at H
        by_cases hp : pos < a0.size
        ·rw [if_pos hp] at H
         have ebt := num_digits.bt_at a0 pos hp
         by_cases ha : bt a0 (pos : Int) < 128
         ·rw [if_pos ha] at H
          have ha2 : (a0[pos]'hp).toNat < 128 := by rw [ebt] at ha; omega
          have hnx : ∀ ty, (Instr.next (.pointer (some ⟨w1.heap.size, 0, none⟩)) true ty).run Tryz.prog ((w1.drewN m).iter a0 pos) = .ok (.tuple #[.bool true, .int .i64 pos, .int .i32 (bt a0 (pos : Int))]) ((w1.drewN m).iter a0 (pos + 1)) := by
           intro ty
           rw [ebt]
           exact run_next_ascii (P := Tryz.prog) (w1.drewN m) a0 pos ty hp ha2
          generalize bt a0 (pos : Int) = c at ha hnx H
          clear ebt ha2
          cases ht : num_digit.f k1 c 10 with
          | none => rw [ht] at H; exact absurd H (by simp)
          | some t =>
           obtain ⟨t1, t2⟩ := t
           rw [ht, Option.bind_some] at H
           by_cases hv : 0 ≤ v ∧ v < 100 ∧ 0 ≤ t1 ∧ t1 < 10
           ·rw [if_pos hv] at H
            have arm := Azz.mk (fun W => num_digit.calls k1 c 10 t1 t2 W ht)
            have arm2 := Azz.mk (fun W => num_Value.mul v hv.1 hv.2.1 W)
            have hadd := fun W => num_Value.add (v * 10) t1 (by omega) (by omega) hv.2.2.1 hv.2.2.2 W
            clear ht hv
            have H' := Azz.mk H
            clear H
            go_wp2_with (first | (go_at_call 60; (with_reducible refine (arm.out _).mono ?_); rintro e w' ⟨rfl, ⟨nd, rfl⟩⟩) | (go_at_call 61; (with_reducible refine (arm2.out _).mono ?_); rintro e w' ⟨rfl, rfl⟩) | (simp only [hadd]))
            go_roundg k1
            case measure => have := HK.out; omega
            case rel => exact ⟨_, pos + 1, v * 10 + t1, rfl, H', ⟨by have := HK.out; omega⟩, num_digits.iter_drewN ..⟩
           ·rw [if_neg hv] at H
            exact absurd H (by simp)
         ·rw [if_neg ha] at H
          exact absurd H (by simp)
        ·rw [if_neg hp] at H
         obtain ⟨rfl, rfl⟩ := Prod.mk.inj (Option.some.inj H)
         have hnx : ∀ ty, (Instr.next (.pointer (some ⟨w1.heap.size, 0, none⟩)) true ty).run Tryz.prog ((w1.drewN m).iter a0 pos) = .ok (.tuple #[.bool false]) ((w1.drewN m).iter a0 pos) := fun ty => run_next_end (P := Tryz.prog) (w1.drewN m) a0 pos ty hp
         clear hp
         go_wp2
         go_ret2
         exact ⟨rfl, num_Value.iter_below _ _ _ _ _ hb1⟩
 ·rw [if_neg h2] at h
  exact absurd h (by simp)
def strconv_small.f (a0 : Int) : Option (ByteArray) := if a0 < 10 then (if 0 ≤ a0 then (if a0 ≤ (wrap64 (a0 + 1)) then (if (wrap64 (a0 + 1)) ≤ 36 then (some ((⟨#[48, 49, 50, 51, 52, 53, 54, 55, 56, 57, 97, 98, 99, 100, 101, 102, 103, 104, 105, 106, 107, 108, 109, 110, 111, 112, 113, 114, 115, 116, 117, 118, 119, 120, 121, 122]⟩ : ByteArray).extract (a0 : Int).toNat ((wrap64 (a0 + 1)) : Int).toNat)) else (none)) else (none)) else (none)) else (if 0 ≤ (wrap64 (a0 * 2)) then (if (wrap64 (a0 * 2)) ≤ (wrap64 ((wrap64 (a0 * 2)) + 2)) then (if (wrap64 ((wrap64 (a0 * 2)) + 2)) ≤ 200 then (some ((⟨#[48, 48, 48, 49, 48, 50, 48, 51, 48, 52, 48, 53, 48, 54, 48, 55, 48, 56, 48, 57, 49, 48, 49, 49, 49, 50, 49, 51, 49, 52, 49, 53, 49, 54, 49, 55, 49, 56, 49, 57, 50, 48, 50, 49, 50, 50, 50, 51, 50, 52, 50, 53, 50, 54, 50, 55, 50, 56, 50, 57, 51, 48, 51, 49, 51, 50, 51, 51, 51, 52, 51, 53, 51, 54, 51, 55, 51, 56, 51, 57, 52, 48, 52, 49, 52, 50, 52, 51, 52, 52, 52, 53, 52, 54, 52, 55, 52, 56, 52, 57, 53, 48, 53, 49, 53, 50, 53, 51, 53, 52, 53, 53, 53, 54, 53, 55, 53, 56, 53, 57, 54, 48, 54, 49, 54, 50, 54, 51, 54, 52, 54, 53, 54, 54, 54, 55, 54, 56, 54, 57, 55, 48, 55, 49, 55, 50, 55, 51, 55, 52, 55, 53, 55, 54, 55, 55, 55, 56, 55, 57, 56, 48, 56, 49, 56, 50, 56, 51, 56, 52, 56, 53, 56, 54, 56, 55, 56, 56, 56, 57, 57, 48, 57, 49, 57, 50, 57, 51, 57, 52, 57, 53, 57, 54, 57, 55, 57, 56, 57, 57]⟩ : ByteArray).extract ((wrap64 (a0 * 2)) : Int).toNat ((wrap64 ((wrap64 (a0 * 2)) + 2)) : Int).toNat)) else (none)) else (none)) else (none))
set_option maxHeartbeats 8000000 in
set_option maxRecDepth 100000 in
theorem strconv_small.calls (a0 : Int) (r : ByteArray) (w : World) (h : strconv_small.f a0 = some r) :
 Calls Tryz.prog 98 #[.int .i64 a0] w fun e w' => e = .returned (.string r) ∧ Drawn0 w w' := by
 have H : (if a0 < 10 then (if 0 ≤ a0 then (if a0 ≤ (wrap64 (a0 + 1)) then (if (wrap64 (a0 + 1)) ≤ 36 then (some ((⟨#[48, 49, 50, 51, 52, 53, 54, 55, 56, 57, 97, 98, 99, 100, 101, 102, 103, 104, 105, 106, 107, 108, 109, 110, 111, 112, 113, 114, 115, 116, 117, 118, 119, 120, 121, 122]⟩ : ByteArray).extract (a0 : Int).toNat ((wrap64 (a0 + 1)) : Int).toNat)) else (none)) else (none)) else (none)) else (if 0 ≤ (wrap64 (a0 * 2)) then (if (wrap64 (a0 * 2)) ≤ (wrap64 ((wrap64 (a0 * 2)) + 2)) then (if (wrap64 ((wrap64 (a0 * 2)) + 2)) ≤ 200 then (some ((⟨#[48, 48, 48, 49, 48, 50, 48, 51, 48, 52, 48, 53, 48, 54, 48, 55, 48, 56, 48, 57, 49, 48, 49, 49, 49, 50, 49, 51, 49, 52, 49, 53, 49, 54, 49, 55, 49, 56, 49, 57, 50, 48, 50, 49, 50, 50, 50, 51, 50, 52, 50, 53, 50, 54, 50, 55, 50, 56, 50, 57, 51, 48, 51, 49, 51, 50, 51, 51, 51, 52, 51, 53, 51, 54, 51, 55, 51, 56, 51, 57, 52, 48, 52, 49, 52, 50, 52, 51, 52, 52, 52, 53, 52, 54, 52, 55, 52, 56, 52, 57, 53, 48, 53, 49, 53, 50, 53, 51, 53, 52, 53, 53, 53, 54, 53, 55, 53, 56, 53, 57, 54, 48, 54, 49, 54, 50, 54, 51, 54, 52, 54, 53, 54, 54, 54, 55, 54, 56, 54, 57, 55, 48, 55, 49, 55, 50, 55, 51, 55, 52, 55, 53, 55, 54, 55, 55, 55, 56, 55, 57, 56, 48, 56, 49, 56, 50, 56, 51, 56, 52, 56, 53, 56, 54, 56, 55, 56, 56, 56, 57, 57, 48, 57, 49, 57, 50, 57, 51, 57, 52, 57, 53, 57, 54, 57, 55, 57, 56, 57, 57]⟩ : ByteArray).extract ((wrap64 (a0 * 2)) : Int).toNat ((wrap64 ((wrap64 (a0 * 2)) + 2)) : Int).toNat)) else (none)) else (none)) else (none))) = some r := h
 clear h
 by_cases c2 : a0 < 10
 ·rw [if_pos c2] at H
  have c2b0 := decide_eq_true c2
  clear c2
  by_cases c3 : 0 ≤ a0
  ·rw [if_pos c3] at H
   have c3b0 := eq_true c3
   have c3b1 := decide_eq_true c3
   clear c3
   by_cases c4 : a0 ≤ (wrap64 (a0 + 1))
   ·rw [if_pos c4] at H
    have c4b0 := eq_true c4
    have c4b1 := decide_eq_true c4
    by_cases c5 : (wrap64 (a0 + 1)) ≤ 36
    ·rw [if_pos c5] at H
     have c5b0 := eq_true c5
     have c5b1 := decide_eq_true c5
     obtain rfl := Option.some.inj H
     go_enter Tryz.func98, Tryz.ntmps98
     go_wp2
     go_ret
     exact ⟨by first | rfl | (simp; done) | (simp [*]; done), by repeat (first | exact Drawn0.refl _ | apply Drawn0.step)⟩
    ·rw [if_neg c5] at H
     exact absurd H (by simp)
   ·rw [if_neg c4] at H
    exact absurd H (by simp)
  ·rw [if_neg c3] at H
   exact absurd H (by simp)
 ·rw [if_neg c2] at H
  have c2b0 := decide_eq_false c2
  clear c2
  obtain ⟨ji6, hji6⟩ : ∃ j_ : Int, (wrap64 (a0 * 2)) = j_ := ⟨_, rfl⟩
  replace H : (if 0 ≤ (ji6) then (if (ji6) ≤ (wrap64 ((ji6) + 2)) then (if (wrap64 ((ji6) + 2)) ≤ 200 then (some ((⟨#[48, 48, 48, 49, 48, 50, 48, 51, 48, 52, 48, 53, 48, 54, 48, 55, 48, 56, 48, 57, 49, 48, 49, 49, 49, 50, 49, 51, 49, 52, 49, 53, 49, 54, 49, 55, 49, 56, 49, 57, 50, 48, 50, 49, 50, 50, 50, 51, 50, 52, 50, 53, 50, 54, 50, 55, 50, 56, 50, 57, 51, 48, 51, 49, 51, 50, 51, 51, 51, 52, 51, 53, 51, 54, 51, 55, 51, 56, 51, 57, 52, 48, 52, 49, 52, 50, 52, 51, 52, 52, 52, 53, 52, 54, 52, 55, 52, 56, 52, 57, 53, 48, 53, 49, 53, 50, 53, 51, 53, 52, 53, 53, 53, 54, 53, 55, 53, 56, 53, 57, 54, 48, 54, 49, 54, 50, 54, 51, 54, 52, 54, 53, 54, 54, 54, 55, 54, 56, 54, 57, 55, 48, 55, 49, 55, 50, 55, 51, 55, 52, 55, 53, 55, 54, 55, 55, 55, 56, 55, 57, 56, 48, 56, 49, 56, 50, 56, 51, 56, 52, 56, 53, 56, 54, 56, 55, 56, 56, 56, 57, 57, 48, 57, 49, 57, 50, 57, 51, 57, 52, 57, 53, 57, 54, 57, 55, 57, 56, 57, 57]⟩ : ByteArray).extract ((ji6) : Int).toNat ((wrap64 ((ji6) + 2)) : Int).toNat)) else (none)) else (none)) else (none)) = some r := by first | (rw [hji6] at H; exact H) | (simp only [hji6] at H ⊢; exact H)
  have hji6w : (IntKind.i64.wrap (a0 * 2)) = ji6 := (i64_w _).trans hji6
  by_cases c7 : 0 ≤ (ji6)
  ·rw [if_pos c7] at H
   have c7b0 := eq_true c7
   have c7b1 := decide_eq_true c7
   clear c7
   by_cases c8 : (ji6) ≤ (wrap64 ((ji6) + 2))
   ·rw [if_pos c8] at H
    have c8b0 := eq_true c8
    have c8b1 := decide_eq_true c8
    by_cases c9 : (wrap64 ((ji6) + 2)) ≤ 200
    ·rw [if_pos c9] at H
     have c9b0 := eq_true c9
     have c9b1 := decide_eq_true c9
     obtain rfl := Option.some.inj H
     go_enter Tryz.func98, Tryz.ntmps98
     go_wp2
     go_ret
     exact ⟨by first | rfl | (simp; done) | (simp only [← hji6] <;> (first | rfl | simp)) | (simp [*]; done), by repeat (first | exact Drawn0.refl _ | apply Drawn0.step)⟩
    ·rw [if_neg c9] at H
     exact absurd H (by simp)
   ·rw [if_neg c8] at H
    exact absurd H (by simp)
  ·rw [if_neg c7] at H
   exact absurd H (by simp)
/-- A number below 100, at base 10 (no more is told). -/
def strconv_FormatUint.f (a0 : Int) (a1 : Int) : Option (ByteArray) := if a1 = 10 then (if 0 ≤ a0 ∧ a0 < 100 then strconv_small.f a0 else none) else none
set_option maxRecDepth 100000 in
theorem strconv_FormatUint.calls (a0 : Int) (a1 : Int) (r : ByteArray) (w : World) (h : strconv_FormatUint.f a0 a1 = some r) :
 Calls Tryz.prog 63 #[.int .u64 a0, .int .i64 a1] w fun e w' => e = .returned (.string r) ∧ Drawn0 w w' := by
 unfold strconv_FormatUint.f at h
 by_cases h1 : a1 = 10
 ·subst h1
  rw [if_pos rfl] at h
  by_cases h2 : 0 ≤ a0 ∧ a0 < 100
  ·rw [if_pos h2] at h
   have b2 : decide (a0 < 100) = true := decide_eq_true h2.2
   have e2 : IntKind.i64.wrap a0 = a0 := by rw [i64_w]; unfold wrap64; omega
   have arm := Azz.mk (fun W => strconv_small.calls a0 r W h)
   clear h h2
   go_enter Tryz.func63, Tryz.ntmps63
   go_wp2_with (first | (go_at_call 98; rw [e2]; (with_reducible refine (arm.out _).mono ?_); rintro e w' ⟨rfl, ⟨nd, rfl⟩⟩) | (go_at_call 98; (with_reducible refine (arm.out _).mono ?_); rintro e w' ⟨rfl, ⟨nd, rfl⟩⟩) | go_in)
   go_ret
   exact ⟨rfl, by repeat (first | exact Drawn0.refl _ | apply Drawn0.step)⟩
  ·rw [if_neg h2] at h
   exact absurd h (by simp)
 ·rw [if_neg h1] at h
  exact absurd h (by simp)
def num_Text.f (a0 : Int) : Option (ByteArray) := (strconv_FormatUint.f a0 10).bind fun t101 => (some t101)
set_option maxHeartbeats 8000000 in
set_option maxRecDepth 100000 in
theorem num_Text.calls (a0 : Int) (r : ByteArray) (w : World) (h : num_Text.f a0 = some r) :
 Calls Tryz.prog 29 #[.int .u64 a0] w fun e w' => e = .returned (.string r) ∧ Drawn0 w w' := by
 have H : ((strconv_FormatUint.f a0 10).bind fun t101 => (some t101)) = some r := h
 clear h
 replace H := Option.bind_eq_some_iff.mp H
 obtain ⟨t101, A20, H⟩ := H
 (try dsimp only at H)
 have A2 := Azz.mk A20
 clear A20
 obtain rfl := Option.some.inj H
 go_enter Tryz.func29, Tryz.ntmps29
 go_wp2_with (first | ((with_reducible refine gate_callee (f := 63) rfl ?_); refine goesL_ (some 4) rfl rfl Tryz.func63 (by kernel_rfl) rfl #[.int .u64 a0, .int .i64 10] rfl (by (try simp only [List.map_toArray, List.map_cons, List.map_nil]); first | done | rfl | (simp only [List.length_drop, List.length_take]; rfl)) ?_; (with_reducible refine (strconv_FormatUint.calls a0 10 t101 _ A2.out).mono ?_); rintro e w' ⟨rfl, ⟨nd, rfl⟩⟩; refine ⟨_, rfl, ?_⟩))
 go_ret
 exact ⟨by first | rfl | (simp; done) | (simp [*]; done), by repeat (first | exact Drawn0.refl _ | apply Drawn0.step)⟩
end Go.Proofs.YtpcdebakiccecaaGreatDoor.P
