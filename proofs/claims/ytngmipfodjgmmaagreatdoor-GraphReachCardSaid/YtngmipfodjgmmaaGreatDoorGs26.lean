/- Walks and plain laws of this claim, a part. -/
import Derived.Test.YtngmipfodjgmmaaGreatDoorGs25
namespace Go.Proofs.YtngmipfodjgmmaaGreatDoor.P
open Go.RowKit Go.Proofs.YtngmipfodjgmmaaGreatDoorW.PrintWords Go.Proofs.YtngmipfodjgmmaaGreatDoorW.PrintLast Go.Proofs.YtngmipfodjgmmaaGreatDoorW.PrintMore
attribute [local go_sem] max2_int min2_int max_two min_two max_three min_three max_four min_four   -- for this text's walks alone
set_option linter.unusedVariables false
set_option linter.unusedSimpArgs false
mutual
def num_digit.j0 : Nat → Int → Int → Bool → Option (Int × Bool)
 | 0, _, _, _ => none
 | k + 1, x0, x1, x7 => if x7 = true then (some (IntKind.u64.wrap (wrap32 (x0 - 48)), decide ((IntKind.u64.wrap (wrap32 (x0 - 48))) < x1))) else (if x0 ≥ 97 then (num_digit.j1 k x0 x1 (decide (x0 ≤ 102))) else (num_digit.j1 k x0 x1 false))
def num_digit.j1 : Nat → Int → Int → Bool → Option (Int × Bool)
 | 0, _, _, _ => none
 | k + 1, x0, x1, x17 => if x17 = true then (some (IntKind.u64.wrap ((IntKind.u64.wrap (wrap32 (x0 - 97))) + 10), decide ((IntKind.u64.wrap ((IntKind.u64.wrap (wrap32 (x0 - 97))) + 10)) < x1))) else (if x0 ≥ 65 then (if x0 ≤ 70 then (some (IntKind.u64.wrap ((IntKind.u64.wrap (wrap32 (x0 - 65))) + 10), decide ((IntKind.u64.wrap ((IntKind.u64.wrap (wrap32 (x0 - 65))) + 10)) < x1))) else (some (0, false))) else (some (0, false)))
end
def num_digit.f (k : Nat) (a0 : Int) (a1 : Int) : Option (Int × Bool) := if a0 ≥ 48 then (num_digit.j0 k a0 a1 (decide (a0 ≤ 57))) else (num_digit.j0 k a0 a1 false)
theorem num_digit.mono_l : ∀ k, (∀ y0 y1 y2, LeO (num_digit.j0 k y0 y1 y2) (num_digit.j0 (k + 1) y0 y1 y2)) ∧ (∀ y0 y1 y2, LeO (num_digit.j1 k y0 y1 y2) (num_digit.j1 (k + 1) y0 y1 y2))
 | 0 => ⟨fun _ _ _ r h => by simp [num_digit.j0] at h, fun _ _ _ r h => by simp [num_digit.j1] at h⟩
 | k + 1 => by
  obtain ⟨ih0, ih1⟩ := num_digit.mono_l k
  refine ⟨?_, ?_⟩
  ·intro y0 y1 y2
   unfold num_digit.j0
   repeat' first
   | (with_reducible exact ih0 _ _ _)
   | (with_reducible exact ih1 _ _ _)
   | (with_reducible exact LeO.refl _)
   | (with_reducible exact LeO.none _)
   | (with_reducible refine LeO.ite ?_ ?_)
   | (with_reducible refine LeO.bind ?_ (fun _ => ?_))
  ·intro y0 y1 y2
   unfold num_digit.j1
   repeat' first
   | (with_reducible exact ih0 _ _ _)
   | (with_reducible exact ih1 _ _ _)
   | (with_reducible exact LeO.refl _)
   | (with_reducible exact LeO.none _)
   | (with_reducible refine LeO.ite ?_ ?_)
   | (with_reducible refine LeO.bind ?_ (fun _ => ?_))
theorem num_digit.mono : ∀ a0 a1 k, LeO (num_digit.f k a0 a1) (num_digit.f (k + 1) a0 a1) := by
 intro a0 a1 k
 obtain ⟨ih0, ih1⟩ := num_digit.mono_l k
 unfold num_digit.f
 repeat' first
  | (with_reducible exact ih0 _ _ _)
  | (with_reducible exact ih1 _ _ _)
  | (with_reducible exact LeO.refl _)
  | (with_reducible exact LeO.none _)
  | (with_reducible refine LeO.ite ?_ ?_)
  | (with_reducible refine LeO.bind ?_ (fun _ => ?_))
set_option maxHeartbeats 8000000 in
set_option maxRecDepth 100000 in
theorem num_digit.calls (k : Nat) (a0 : Int) (a1 : Int) (r1 : Int) (r2 : Bool) (w : World) (h : num_digit.f k a0 a1 = some (r1, r2)) :
 Calls Tryz.prog 93 #[.int .i32 a0, .int .u64 a1] w fun e w' => e = .returned (.tuple #[.int .u64 r1, .bool r2]) ∧ Drawn0 w w' := by
 have H : (if a0 ≥ 48 then (num_digit.j0 k a0 a1 (decide (a0 ≤ 57))) else (num_digit.j0 k a0 a1 false)) = some (r1, r2) := h
 clear h
 have HC3 := Azz.mk H
 clear H
 go_enter Tryz.func93, Tryz.ntmps93
 go_upto_region 3 with (fail)
 go_cut [7] (fun v7 wc => ∃ (kq : Nat) (x7_2 : Bool), v7 = .bool x7_2 ∧ Azz (num_digit.j0 kq a0 a1 x7_2 = some (r1, r2)) ∧ Azz (kq ≤ k) ∧ Drawn0 w wc)
 case first =>
  have H := HC3.out
  clear HC3
  by_cases c4 : a0 ≥ 48
  ·rw [if_pos c4] at H
   have c4b0 := decide_eq_true c4
   clear c4
   (first | rw [c4b0] | (simp only [i64_w, i32_w]; rw [c4b0]) | skip)
   have H' := Azz.mk H
   clear H
   go_wp2
   go_meet
   case rel => exact ⟨_, (decide (a0 ≤ 57)), (by first | rfl | (simp; done) | (simp [*]; done)), H', ⟨by first | omega | exact Nat.le_refl _⟩, by repeat (first | exact Drawn0.refl _ | apply Drawn0.step)⟩
  ·rw [if_neg c4] at H
   have c4b0 := decide_eq_false c4
   clear c4
   (first | rw [c4b0] | (simp only [i64_w, i32_w]; rw [c4b0]) | skip)
   have H' := Azz.mk H
   clear H
   go_wp2
   go_meet
   case rel => exact ⟨_, (false), (by first | rfl | (simp; done) | (simp [*]; done)), H', ⟨by first | omega | exact Nat.le_refl _⟩, by repeat (first | exact Drawn0.refl _ | apply Drawn0.step)⟩
 case rest =>
  clear HC3
  try clear p2
  try clear c4
  try clear c4b0
  obtain ⟨kq, x7_2, rfl, HA, HJ2, ⟨mc2, rfl⟩⟩ := hcut
  cases kq with
  | zero => exact absurd HA.out (by simp [num_digit.j0])
  | succ kj2 =>
   have H := HA.out
   clear HA
   simp only [num_digit.j0] at H
   by_cases c5 : x7_2 = true
   ·subst c5
    rw [if_pos rfl] at H
    simp only [Option.some.injEq, Prod.mk.injEq] at H
    obtain ⟨rfl, rfl⟩ := H
    go_wp2
    go_ret2
    exact ⟨by first | rfl | (simp; done) | (simp [*]; done), by repeat (first | exact Drawn0.refl _ | apply Drawn0.step)⟩
   ·replace c5 := Bool.eq_false_iff.mpr c5
    subst c5
    rw [if_neg (show ¬ (false = true) by decide)] at H
    have HC6 := Azz.mk H
    clear H
    go_upto_region 5 with (fail)
    go_cut [17] (fun v17 wc => ∃ (kq : Nat) (x17_5 : Bool), v17 = .bool x17_5 ∧ Azz (num_digit.j1 kq a0 a1 x17_5 = some (r1, r2)) ∧ Azz (kq ≤ kj2) ∧ Drawn0 w wc)
    case first =>
     have H := HC6.out
     clear HC6
     by_cases c7 : a0 ≥ 97
     ·rw [if_pos c7] at H
      have c7b0 := decide_eq_true c7
      clear c7
      (first | rw [c7b0] | (simp only [i64_w, i32_w]; rw [c7b0]) | skip)
      have H' := Azz.mk H
      clear H
      go_wp2
      go_meet
      case rel => exact ⟨_, (decide (a0 ≤ 102)), (by first | rfl | (simp; done) | (simp [*]; done)), H', ⟨by have := HJ2.out; first | omega | exact Nat.le_refl _⟩, by repeat (first | exact Drawn0.refl _ | apply Drawn0.step)⟩
     ·rw [if_neg c7] at H
      have c7b0 := decide_eq_false c7
      clear c7
      (first | rw [c7b0] | (simp only [i64_w, i32_w]; rw [c7b0]) | skip)
      have H' := Azz.mk H
      clear H
      go_wp2
      go_meet
      case rel => exact ⟨_, (false), (by first | rfl | (simp; done) | (simp [*]; done)), H', ⟨by have := HJ2.out; first | omega | exact Nat.le_refl _⟩, by repeat (first | exact Drawn0.refl _ | apply Drawn0.step)⟩
    case rest =>
     clear HC6
     try clear c2
     try clear p2
     try clear p3
     try clear c4
     try clear c4b0
     try clear c5
     try clear c7
     try clear c7b0
     try clear p2
     obtain ⟨kq, x17_5, rfl, HA, HJ5, ⟨mc5, rfl⟩⟩ := hcut
     cases kq with
     | zero => exact absurd HA.out (by simp [num_digit.j1])
     | succ kj5 =>
      have H := HA.out
      clear HA
      simp only [num_digit.j1] at H
      by_cases c8 : x17_5 = true
      ·subst c8
       rw [if_pos rfl] at H
       simp only [Option.some.injEq, Prod.mk.injEq] at H
       obtain ⟨rfl, rfl⟩ := H
       go_wp2
       go_ret2
       exact ⟨by first | rfl | (simp; done) | (simp [*]; done), by repeat (first | exact Drawn0.refl _ | apply Drawn0.step)⟩
      ·replace c8 := Bool.eq_false_iff.mpr c8
       subst c8
       rw [if_neg (show ¬ (false = true) by decide)] at H
       by_cases c9 : a0 ≥ 65
       ·rw [if_pos c9] at H
        have c9b0 := decide_eq_true c9
        clear c9
        by_cases c10 : a0 ≤ 70
        ·rw [if_pos c10] at H
         have c10b0 := decide_eq_true c10
         clear c10
         simp only [Option.some.injEq, Prod.mk.injEq] at H
         obtain ⟨rfl, rfl⟩ := H
         go_wp2
         go_ret2
         exact ⟨by first | rfl | (simp; done) | (simp [*]; done), by repeat (first | exact Drawn0.refl _ | apply Drawn0.step)⟩
        ·rw [if_neg c10] at H
         have c10b0 := decide_eq_false c10
         clear c10
         simp only [Option.some.injEq, Prod.mk.injEq] at H
         obtain ⟨rfl, rfl⟩ := H
         go_wp2
         go_ret2
         exact ⟨by first | rfl | (simp; done) | (simp [*]; done), by repeat (first | exact Drawn0.refl _ | apply Drawn0.step)⟩
       ·rw [if_neg c9] at H
        have c9b0 := decide_eq_false c9
        clear c9
        simp only [Option.some.injEq, Prod.mk.injEq] at H
        obtain ⟨rfl, rfl⟩ := H
        go_wp2
        go_ret2
        exact ⟨by first | rfl | (simp; done) | (simp [*]; done), by repeat (first | exact Drawn0.refl _ | apply Drawn0.step)⟩
def num_digits.l0 : Nat → ByteArray → Int → Nat → Option Bool
 | 0, _, _, _ => none
 | k + 1, s, b, i => if i < s.size then (if bt s (i : Int) < 128 then ((num_digit.f k (bt s (i : Int)) b).bind fun t => if t.2 = true then num_digits.l0 k s b (i + 1) else some false) else some false) else some true
def num_digits.f (k : Nat) (a0 : ByteArray) (a1 : Int) : Option Bool := if a0.size = 0 then some false else num_digits.l0 k a0 a1 0
theorem num_digits.mono_l : ∀ k s b i, LeO (num_digits.l0 k s b i) (num_digits.l0 (k + 1) s b i)
 | 0, s, b, i => fun r h => by simp [num_digits.l0] at h
 | k + 1, s, b, i => by
  have ih := num_digits.mono_l k
  rw [num_digits.l0, num_digits.l0.eq_2 s b i (k + 1)]
  exact LeO.ite (LeO.ite (LeO.bind (num_digit.mono _ _ k) fun t => LeO.ite (ih _ _ _) (LeO.refl _)) (LeO.refl _)) (LeO.refl _)
theorem num_digits.mono : ∀ a0 a1 k, LeO (num_digits.f k a0 a1) (num_digits.f (k + 1) a0 a1) := by
 intro a0 a1 k
 unfold num_digits.f
 exact LeO.ite (LeO.refl _) (num_digits.mono_l k _ _ _)
theorem num_digit.high (r b : Int) (h : 128 ≤ r) : num_digit.f 9 r b = some (0, false) := by
 unfold num_digit.f
 rw [if_pos (by omega), decide_eq_false (by omega : ¬ r ≤ 57), num_digit.j0, if_neg (by decide), if_pos (by omega), decide_eq_false (by omega : ¬ r ≤ 102), num_digit.j1, if_neg (by decide), if_pos (by omega), if_neg (by omega)]
theorem num_digits.iter_drewN (w : World) (s : ByteArray) (p m n : Nat) : ((w.drewN m).iter s p).drewN n = (w.drewN (m + n)).iter s p := by
 rw [← World.drewN_drewN]
 rfl
theorem num_digits.iter_below (w : World) (s : ByteArray) (p m : Nat) : Below w.heap.size w ((w.drewN m).iter s p) := by
 unfold World.iter
 repeat (first | exact Below.refl _ _ | apply bAA | apply bNN | apply bDD)
theorem num_digits.bt_at (s : ByteArray) (p : Nat) (h : p < s.size) : bt s (p : Int) = ((s[p]'h).toNat : Int) := by
 unfold bt
 rw [dif_pos (by rw [Int.toNat_natCast]; exact h)]
 rfl
theorem num_digits.not_empty (s : ByteArray) (h0 : ¬ s.size = 0) : (s.toList == ([] : List UInt8)) = false := by
 rw [Go.Lib.toList_data]
 have : s.data.toList.length = s.size := by rw [Array.length_toList]; rfl
 cases hd : s.data.toList with
 | nil => rw [hd] at this; exact absurd this.symm h0
 | cons x l => rfl
theorem num_digits.is_empty (s : ByteArray) (h0 : s.size = 0) : s = ⟨#[]⟩ := by
 cases s
 rename_i d
 have : d = #[] := Array.eq_empty_of_size_eq_zero h0
 rw [this]
set_option maxRecDepth 100000 in
theorem num_digits.calls (k : Nat) (a0 : ByteArray) (a1 : Int) (r : Bool) (w : World) (h : num_digits.f k a0 a1 = some r) :
 Calls Tryz.prog 92 #[.string a0, .int .u64 a1] w fun e w' => e = .returned (.bool r) ∧ Below w.heap.size w w' := by
 unfold num_digits.f at h
 by_cases h0 : a0.size = 0
 ·rw [if_pos h0] at h
  obtain rfl := Option.some.inj h
  obtain rfl := num_digits.is_empty a0 h0
  have hnx : ∀ ty, (Instr.next (.pointer (some ⟨w.heap.size, 0, none⟩)) true ty).run Tryz.prog (w.iter ⟨#[]⟩ 0) = .ok (.tuple #[.bool false]) (w.iter ⟨#[]⟩ 0) := fun ty => run_next_end (P := Tryz.prog) w ⟨#[]⟩ 0 ty (by decide)
  clear h
  go_enter Tryz.func92, Tryz.ntmps92
  go_wp2
  go_loopg [6] 1 (fun kq v6 w' => w' = w.iter ⟨#[]⟩ 0)
  case atStart => rfl
  case round =>
   subst hrel
   go_wp2
   go_ret
   exact ⟨rfl, num_digits.iter_below w ⟨#[]⟩ 0 0⟩
 ·rw [if_neg h0] at h
  have n0 := num_digits.not_empty a0 h0
  have H' := Azz.mk h
  clear h h0
  go_enter Tryz.func92, Tryz.ntmps92
  go_wp2
  go_loopg [6] k (fun kq v6 w' => ∃ (m pos : Nat), Azz (num_digits.l0 kq a0 a1 pos = some r) ∧ Azz (kq ≤ k) ∧ w' = (w.drewN m).iter a0 pos)
  case atStart => exact ⟨0, 0, H', ⟨Nat.le_refl _⟩, rfl⟩
  case round =>
   clear H'
   obtain ⟨m, pos, HA, HK, rfl⟩ := hrel
   cases gk with
   | zero => exact absurd HA.out (by simp [num_digits.l0])
   | succ k1 =>
    have H := HA.out
    clear HA
    rw [num_digits.l0] at H
    by_cases hp : pos < a0.size
    ·rw [if_pos hp] at H
     have ebt := num_digits.bt_at a0 pos hp
     by_cases ha : bt a0 (pos : Int) < 128
     ·rw [if_pos ha] at H
      have ha2 : (a0[pos]'hp).toNat < 128 := by rw [ebt] at ha; omega
      have hnx : ∀ ty, (Instr.next (.pointer (some ⟨w.heap.size, 0, none⟩)) true ty).run Tryz.prog ((w.drewN m).iter a0 pos) = .ok (.tuple #[.bool true, .int .i64 pos, .int .i32 (bt a0 (pos : Int))]) ((w.drewN m).iter a0 (pos + 1)) := by
       intro ty
       rw [ebt]
       exact run_next_ascii (P := Tryz.prog) (w.drewN m) a0 pos ty hp ha2
      generalize bt a0 (pos : Int) = c at ha hnx H
      clear ebt ha2 n0
      cases ht : num_digit.f k1 c a1 with
      | none => rw [ht] at H; exact absurd H (by simp)
      | some t =>
       obtain ⟨t1, t2⟩ := t
       rw [ht, Option.bind_some] at H
       have arm := Azz.mk (fun W => num_digit.calls k1 c a1 t1 t2 W ht)
       clear ht
       cases t2 with
       | true =>
        rw [if_pos rfl] at H
        have H' := Azz.mk H
        clear H
        go_wp2_with (first | (go_at_call 93; (with_reducible refine (arm.out _).mono ?_); rintro e w' ⟨rfl, ⟨nd, rfl⟩⟩))
        go_roundg k1
        case measure => have := HK.out; omega
        case rel => exact ⟨_, pos + 1, H', ⟨by have := HK.out; omega⟩, num_digits.iter_drewN ..⟩
       | false =>
        rw [if_neg (by simp)] at H
        obtain rfl := Option.some.inj H
        go_wp2_with (first | (go_at_call 93; (with_reducible refine (arm.out _).mono ?_); rintro e w' ⟨rfl, ⟨nd, rfl⟩⟩))
        go_ret
        exact ⟨rfl, by rw [num_digits.iter_drewN]; exact num_digits.iter_below ..⟩
     ·rw [if_neg ha] at H
      obtain rfl := Option.some.inj H
      obtain ⟨hd, _⟩ := decode_high a0 pos hp (by rw [ebt] at ha; omega)
      have hnx := fun ty => run_next_any (P := Tryz.prog) (w.drewN m) a0 pos ty hp
      generalize (Utf8.decode a0 pos).2 = q at hnx
      generalize (Utf8.decode a0 pos).1 = c at hd hnx
      replace hnx : ∀ ty, (Instr.next (.pointer (some ⟨w.heap.size, 0, none⟩)) true ty).run Tryz.prog ((w.drewN m).iter a0 pos) = .ok (.tuple #[.bool true, .int .i64 pos, .int .i32 ((c : Nat) : Int)]) ((w.drewN m).iter a0 (pos + q)) := hnx
      have arm := Azz.mk (fun W => num_digit.calls 9 ((c : Nat) : Int) a1 0 false W (num_digit.high _ _ (by omega)))
      clear ebt ha n0
      go_wp2_with (first | (go_at_call 93; (with_reducible refine (arm.out _).mono ?_); rintro e w' ⟨rfl, ⟨nd, rfl⟩⟩))
      go_ret
      exact ⟨rfl, by rw [num_digits.iter_drewN]; exact num_digits.iter_below ..⟩
    ·rw [if_neg hp] at H
     obtain rfl := Option.some.inj H
     have hnx : ∀ ty, (Instr.next (.pointer (some ⟨w.heap.size, 0, none⟩)) true ty).run Tryz.prog ((w.drewN m).iter a0 pos) = .ok (.tuple #[.bool false]) ((w.drewN m).iter a0 pos) := fun ty => run_next_end (P := Tryz.prog) (w.drewN m) a0 pos ty hp
     clear hp
     go_wp2
     go_ret
     exact ⟨rfl, num_digits.iter_below ..⟩
end Go.Proofs.YtngmipfodjgmmaaGreatDoor.P
