/- Walks and plain laws of this claim, a part. -/
import Derived.Test.YtngmipfodjgmmaaGreatDoorFz27
set_option maxRecDepth 100000
set_option maxHeartbeats 8000000
set_option linter.unusedVariables false
set_option linter.unusedSimpArgs false
namespace Go.Proofs.YtngmipfodjgmmaaGreatDoor.P
open Go.RowKit Wa Wb Wc
attribute [local go_sem] max2_int min2_int max_two min_two max_three min_three max_four min_four
def lex_letter.j0 : Nat → Int → Bool → Option (Bool)
 | 0, _, _ => none
 | k + 1, x0, x3 => if x3 = true then (some true) else (if x0 ≥ 65 then (if x0 ≤ 90 then (some true) else (if x0 = 95 then (some true) else (if x0 = 46 then (some true) else (some (x0 == 36))))) else (if x0 = 95 then (some true) else (if x0 = 46 then (some true) else (some (x0 == 36)))))
def lex_letter.f (k : Nat) (a0 : Int) : Option (Bool) := if a0 ≥ 97 then (lex_letter.j0 k a0 (decide (a0 ≤ 122))) else (lex_letter.j0 k a0 false)
theorem lex_letter.mono_l : ∀ k, (∀ y0 y1, LeO (lex_letter.j0 k y0 y1) (lex_letter.j0 (k + 1) y0 y1))
 | 0 => fun _ _ r h => by simp [lex_letter.j0] at h
 | k + 1 => by
  have ih0 := lex_letter.mono_l k
  intro y0 y1
  unfold lex_letter.j0
  repeat' first
  | (with_reducible exact ih0 _ _)
  | (with_reducible exact LeO.refl _)
  | (with_reducible exact LeO.none _)
  | (with_reducible refine LeO.ite ?_ ?_)
  | (with_reducible refine LeO.bind ?_ (fun _ => ?_))
theorem lex_letter.mono : ∀ a0 k, LeO (lex_letter.f k a0) (lex_letter.f (k + 1) a0) := by
 intro a0 k
 have ih0 := lex_letter.mono_l k
 unfold lex_letter.f
 repeat' first
  | (with_reducible exact ih0 _ _)
  | (with_reducible exact LeO.refl _)
  | (with_reducible exact LeO.none _)
  | (with_reducible refine LeO.ite ?_ ?_)
  | (with_reducible refine LeO.bind ?_ (fun _ => ?_))
theorem lex_letter.calls (k : Nat) (a0 : Int) (r : Bool) (w : World) (h : lex_letter.f k a0 = some r) :
 Calls Tryz.prog 83 #[.int .i64 a0] w fun e w' => e = .returned (.bool r) ∧ Drawn0 w w' := by
 have H : (if a0 ≥ 97 then (lex_letter.j0 k a0 (decide (a0 ≤ 122))) else (lex_letter.j0 k a0 false)) = some r := h
 clear h
 have HC2 := Azz.mk H
 clear H
 go_enter Tryz.func83, Tryz.ntmps83
 go_upto_region 1 with (fail)
 go_cut [3] (fun v3 wc => ∃ (kq : Nat) (x3_1 : Bool), v3 = .bool x3_1 ∧ Azz (lex_letter.j0 kq a0 x3_1 = some r) ∧ Azz (kq ≤ k) ∧ Drawn0 w wc)
 case first =>
  have H := HC2.out
  clear HC2
  by_cases c3 : a0 ≥ 97
  ·rw [if_pos c3] at H
   have c3b0 := dT_ c3
   clear c3
   (first | rw [c3b0] | (simp only [i64_w, i32_w]; rw [c3b0]) | skip)
   have H' := Azz.mk H
   clear H
   go_wp2
   go_meet
   case rel => exact ⟨_, (decide (a0 ≤ 122)), eqS, H', ⟨leS⟩, d0S⟩
  rw [if_neg c3] at H
  have c3b0 := dF_ c3
  clear c3
  (first | rw [c3b0] | (simp only [i64_w, i32_w]; rw [c3b0]) | skip)
  have H' := Azz.mk H
  clear H
  go_wp2
  go_meet
  case rel => exact ⟨_, (false), eqS, H', ⟨leS⟩, d0S⟩
 case rest =>
  clear HC2
  try clear p2
  try clear c3
  try clear c3b0
  obtain ⟨kq, x3_1, rfl, HA, HJ1, ⟨mc1, rfl⟩⟩ := hcut
  cases kq with
  | zero => exact absurd HA.out (by simp [lex_letter.j0])
  | succ kj1 =>
   have H := HA.out
   clear HA
   simp only [lex_letter.j0] at H
   by_cases c4 : x3_1 = true
   ·subst c4
    rw [if_pos rfl] at H
    obtain rfl := sI H
    go_wp2
    go_ret
    exact ⟨by first | rfl | (simp; done) | (simp [*]; done), d0S⟩
   replace c4 := Bool.eq_false_iff.mpr c4
   subst c4
   rw [if_neg nFT] at H
   by_cases c5 : a0 ≥ 65
   ·rw [if_pos c5] at H
    have c5b0 := dT_ c5
    clear c5
    by_cases c6 : a0 ≤ 90
    ·rw [if_pos c6] at H
     have c6b0 := dT_ c6
     clear c6
     obtain rfl := sI H
     go_wp2
     go_ret
     exact ⟨by first | rfl | (simp; done) | (simp [*]; done), d0S⟩
    rw [if_neg c6] at H
    have c6b0 := dF_ c6
    clear c6
    by_cases c7 : a0 = 95
    ·rw [if_pos c7] at H
     obtain ⟨c7b0, c7b1⟩ := be_ c7
     clear c7
     obtain rfl := sI H
     go_wp2
     go_ret
     exact ⟨by first | rfl | (simp; done) | (simp [*]; done), d0S⟩
    rw [if_neg c7] at H
    obtain ⟨c7b0, c7b1⟩ := bn_ c7
    by_cases c8 : a0 = 46
    ·rw [if_pos c8] at H
     obtain ⟨c8b0, c8b1⟩ := be_ c8
     clear c8
     obtain rfl := sI H
     go_wp2
     go_ret
     exact ⟨by first | rfl | (simp; done) | (simp [*]; done), d0S⟩
    rw [if_neg c8] at H
    obtain ⟨c8b0, c8b1⟩ := bn_ c8
    obtain rfl := sI H
    go_wp2
    go_ret
    exact ⟨by first | rfl | (simp; done) | (simp [*]; done), d0S⟩
   rw [if_neg c5] at H
   have c5b0 := dF_ c5
   clear c5
   by_cases c9 : a0 = 95
   ·rw [if_pos c9] at H
    obtain ⟨c9b0, c9b1⟩ := be_ c9
    clear c9
    obtain rfl := sI H
    go_wp2
    go_ret
    exact ⟨by first | rfl | (simp; done) | (simp [*]; done), d0S⟩
   rw [if_neg c9] at H
   obtain ⟨c9b0, c9b1⟩ := bn_ c9
   by_cases c10 : a0 = 46
   ·rw [if_pos c10] at H
    obtain ⟨c10b0, c10b1⟩ := be_ c10
    clear c10
    obtain rfl := sI H
    go_wp2
    go_ret
    exact ⟨by first | rfl | (simp; done) | (simp [*]; done), d0S⟩
   rw [if_neg c10] at H
   obtain ⟨c10b0, c10b1⟩ := bn_ c10
   obtain rfl := sI H
   go_wp2
   go_ret
   exact ⟨by first | rfl | (simp; done) | (simp [*]; done), d0S⟩
def lex_digit.f (a0 : Int) : Option (Bool) := if a0 ≥ 48 then (some (decide (a0 ≤ 57))) else (some false)
theorem lex_digit.calls (a0 : Int) (r : Bool) (w : World) (h : lex_digit.f a0 = some r) :
 Calls Tryz.prog 84 #[.int .i64 a0] w fun e w' => e = .returned (.bool r) ∧ Drawn0 w w' := by
 have H : (if a0 ≥ 48 then (some (decide (a0 ≤ 57))) else (some false)) = some r := h
 clear h
 by_cases c2 : a0 ≥ 48
 ·rw [if_pos c2] at H
  have c2b0 := dT_ c2
  clear c2
  obtain rfl := sI H
  go_enter Tryz.func84, Tryz.ntmps84
  go_wp2
  go_ret
  exact ⟨by first | rfl | (simp; done) | (simp [*]; done), d0S⟩
 rw [if_neg c2] at H
 have c2b0 := dF_ c2
 clear c2
 obtain rfl := sI H
 go_enter Tryz.func84, Tryz.ntmps84
 go_wp2
 go_ret
 exact ⟨by first | rfl | (simp; done) | (simp [*]; done), d0S⟩
def lex_IsWord.l0 : Nat → ByteArray → Nat → Option Bool
 | 0, _, _ => none
 | k + 1, s, i => if i < s.size then (if bt s (i : Int) < 128 then ((lex_letter.f k (bt s (i : Int))).bind fun t => if t = true then lex_IsWord.l0 k s (i + 1) else (if i = 0 then some false else (lex_digit.f (bt s (i : Int))).bind fun u => if u = true then lex_IsWord.l0 k s (i + 1) else some false)) else some false) else some true
def lex_IsWord.f (k : Nat) (a0 : ByteArray) : Option Bool := if a0.size = 0 then some false else (if (a0.size : Int) > 31 then some false else lex_IsWord.l0 k a0 0)
theorem lex_IsWord.mono_l : ∀ k s i, LeO (lex_IsWord.l0 k s i) (lex_IsWord.l0 (k + 1) s i)
 | 0, s, i => fun r h => by simp [lex_IsWord.l0] at h
 | k + 1, s, i => by
  have ih := lex_IsWord.mono_l k
  rw [lex_IsWord.l0, lex_IsWord.l0.eq_2 s i (k + 1)]
  refine LeO.ite (LeO.ite (LeO.bind (lex_letter.mono _ k) fun t => LeO.ite (ih _ _) (LeO.ite (LeO.refl _) (LeO.bind (LeO.refl _) fun u => LeO.ite (ih _ _) (LeO.refl _)))) (LeO.refl _)) (LeO.refl _)
theorem lex_IsWord.mono : ∀ a0 k, LeO (lex_IsWord.f k a0) (lex_IsWord.f (k + 1) a0) := by
 intro a0 k
 unfold lex_IsWord.f
 exact LeO.ite (LeO.refl _) (LeO.ite (LeO.refl _) (lex_IsWord.mono_l k _ _))
theorem lex_letter.high (r : Int) (h : 128 ≤ r) : lex_letter.f 9 r = some false := by
 unfold lex_letter.f
 rw [if_pos (by omega), dF_ (by omega : ¬ r ≤ 122), lex_letter.j0, if_neg (by decide), if_pos (by omega), if_neg (by omega), if_neg (by omega), if_neg (by omega), bF_ (by omega)]
theorem lex_digit.high (r : Int) (h : 128 ≤ r) : lex_digit.f r = some false := by
 unfold lex_digit.f
 rw [if_pos (by omega), dF_ (by omega : ¬ r ≤ 57)]
theorem lex_IsWord.iter_drewN (w : World) (s : ByteArray) (p m n : Nat) : ((w.drewN m).iter s p).drewN n = (w.drewN (m + n)).iter s p := by
 rw [← World.drewN_drewN]
 rfl
theorem lex_IsWord.iter_below (w : World) (s : ByteArray) (p m : Nat) : Below w.heap.size w ((w.drewN m).iter s p) := by
 unfold World.iter
 repeat (first | exact Below.refl _ _ | apply bAA | apply bNN | apply bDD)
theorem lex_IsWord.calls (k : Nat) (a0 : ByteArray) (r : Bool) (w : World) (h : lex_IsWord.f k a0 = some r) :
 Calls Tryz.prog 75 #[.string a0] w fun e w' => e = .returned (.bool r) ∧ Below w.heap.size w w' := by
 unfold lex_IsWord.f at h
 by_cases h0 : a0.size = 0
 ·rw [if_pos h0] at h
  obtain rfl := Option.some.inj h
  obtain rfl : a0 = ⟨#[]⟩ := by
   cases a0
   rename_i d
   have : d = #[] := Array.eq_empty_of_size_eq_zero h0
   rw [this]
  clear h
  go_enter Tryz.func75, Tryz.ntmps75
  go_wp2
  go_ret
  exact ⟨rfl, by repeat (first | exact Below.refl _ _ | apply bAA | apply bNN | apply bDD)⟩
 rw [if_neg h0] at h
 have n0 : (a0.toList == ([] : List UInt8)) = false := by
  rw [Go.Lib.toList_data]
  have : a0.data.toList.length = a0.size := by rw [Array.length_toList]; rfl
  cases hd : a0.data.toList with
  | nil => rw [hd] at this; exact absurd this.symm h0
  | cons x l => rfl
 by_cases h1 : (a0.size : Int) > 31
 ·rw [if_pos h1] at h
  obtain rfl := Option.some.inj h
  have b1 : decide ((31 : Int) < (a0.size : Int)) = true := dT_ h1
  clear h h0 h1
  go_enter Tryz.func75, Tryz.ntmps75
  go_wp2
  go_ret
  exact ⟨rfl, by repeat (first | exact Below.refl _ _ | apply bAA | apply bNN | apply bDD)⟩
 rw [if_neg h1] at h
 have b1 : decide ((31 : Int) < (a0.size : Int)) = false := dF_ h1
 have H' := Azz.mk h
 have K1 := Azz.mk h1
 clear h h0 h1
 go_enter Tryz.func75, Tryz.ntmps75
 go_wp2
 go_loopg [3] k (fun kq v3 w' => ∃ (m pos : Nat), Azz (lex_IsWord.l0 kq a0 pos = some r) ∧ Azz (kq ≤ k) ∧ w' = (w.drewN m).iter a0 pos)
 case atStart => exact ⟨0, 0, H', ⟨Nat.le_refl _⟩, rfl⟩
 case round =>
  clear H' n0 b1
  obtain ⟨m, pos, HA, HK, rfl⟩ := hrel
  cases gk with
  | zero => exact absurd HA.out (by simp [lex_IsWord.l0])
  | succ k1 =>
   have H := HA.out
   clear HA
   rw [lex_IsWord.l0] at H
   by_cases hp : pos < a0.size
   rotate_left
   ·rw [if_neg hp] at H
    obtain rfl := sI H
    have hnx : ∀ ty, (Instr.next (.pointer (some ⟨w.heap.size, 0, none⟩)) true ty).run Tryz.prog ((w.drewN m).iter a0 pos) = .ok (.tuple #[.bool false]) ((w.drewN m).iter a0 pos) := fun ty => run_next_end (P := Tryz.prog) (w.drewN m) a0 pos ty hp
    clear hp
    go_wp2
    go_ret
    exact ⟨rfl, lex_IsWord.iter_below ..⟩
   rw [if_pos hp] at H
   have ebt : bt a0 (pos : Int) = ((a0[pos]'hp).toNat : Int) := by
    unfold bt
    rw [dif_pos (by rw [Int.toNat_natCast]; exact hp)]
    rfl
   by_cases ha : bt a0 (pos : Int) < 128
   rotate_left
   ·rw [if_neg ha] at H
    obtain rfl := sI H
    obtain ⟨hd, _⟩ := decode_high a0 pos hp (by rw [ebt] at ha; omega)
    have hnx := fun ty => run_next_any (P := Tryz.prog) (w.drewN m) a0 pos ty hp
    have hl := decode_le a0 pos
    generalize (Utf8.decode a0 pos).2 = q at hnx
    generalize (Utf8.decode a0 pos).1 = c at hd hl hnx
    replace hnx : ∀ ty, (Instr.next (.pointer (some ⟨w.heap.size, 0, none⟩)) true ty).run Tryz.prog ((w.drewN m).iter a0 pos) = .ok (.tuple #[.bool true, .int .i64 pos, .int .i32 ((c : Nat) : Int)]) ((w.drewN m).iter a0 (pos + q)) := hnx
    have e1 : IntKind.i64.wrap ((c : Nat) : Int) = ((c : Nat) : Int) := by rw [i64_w]; unfold wrap64; omega
    have arm := Azz.mk (fun W => lex_letter.calls 9 ((c : Nat) : Int) false W (lex_letter.high _ (by omega)))
    have arm2 := Azz.mk (fun W => lex_digit.calls ((c : Nat) : Int) false W (lex_digit.high _ (by omega)))
    clear ebt ha
    by_cases hz : pos = 0
    ·subst hz
     go_wp2_with (first | (go_at_call 83; (try rw [e1]); (with_reducible refine (arm.out _).mono ?_); rintro e w' ⟨rfl, ⟨nd, rfl⟩⟩))
     go_ret
     exact ⟨rfl, by rw [lex_IsWord.iter_drewN]; exact lex_IsWord.iter_below ..⟩
    have bz : (((pos : Nat) : Int) == 0) = false := bF_ (by omega)
    clear hz
    go_wp2_with (first | (go_at_call 83; (try rw [e1]); (with_reducible refine (arm.out _).mono ?_); rintro e w' ⟨rfl, ⟨nd, rfl⟩⟩) | (go_at_call 84; (try rw [e1]); (with_reducible refine (arm2.out _).mono ?_); rintro e w' ⟨rfl, ⟨nd2, rfl⟩⟩))
    go_ret
    exact ⟨rfl, by rw [lex_IsWord.iter_drewN]; exact lex_IsWord.iter_below ..⟩
   rw [if_pos ha] at H
   have ha2 : (a0[pos]'hp).toNat < 128 := by rw [ebt] at ha; omega
   have hnx : ∀ ty, (Instr.next (.pointer (some ⟨w.heap.size, 0, none⟩)) true ty).run Tryz.prog ((w.drewN m).iter a0 pos) = .ok (.tuple #[.bool true, .int .i64 pos, .int .i32 (bt a0 (pos : Int))]) ((w.drewN m).iter a0 (pos + 1)) := by
    intro ty
    rw [ebt]
    exact run_next_ascii (P := Tryz.prog) (w.drewN m) a0 pos ty hp ha2
   have cb : 0 ≤ bt a0 (pos : Int) := by rw [ebt]; omega
   generalize bt a0 (pos : Int) = c at ha cb hnx H
   clear ebt ha2
   have e1 : IntKind.i64.wrap c = c := by rw [i64_w]; unfold wrap64; omega
   cases ht : lex_letter.f k1 c with
   | none => rw [ht] at H; exact absurd H (by simp)
   | some t =>
    rw [ht, Option.bind_some] at H
    have arm := Azz.mk (fun W => lex_letter.calls k1 c t W ht)
    clear ht
    cases t with
    | true =>
     rw [if_pos rfl] at H
     have H' := Azz.mk H
     clear H
     go_wp2_with (first | (go_at_call 83; (try rw [e1]); (with_reducible refine (arm.out _).mono ?_); rintro e w' ⟨rfl, ⟨nd, rfl⟩⟩))
     go_roundg k1
     case measure => have := HK.out; omega
     case rel => exact ⟨_, pos + 1, H', ⟨by have := HK.out; omega⟩, lex_IsWord.iter_drewN ..⟩
    | false =>
     rw [if_neg (by decide)] at H
     by_cases hz : pos = 0
     ·rw [if_pos hz] at H
      obtain rfl := sI H
      subst hz
      go_wp2_with (first | (go_at_call 83; (try rw [e1]); (with_reducible refine (arm.out _).mono ?_); rintro e w' ⟨rfl, ⟨nd, rfl⟩⟩))
      go_ret
      exact ⟨rfl, by rw [lex_IsWord.iter_drewN]; exact lex_IsWord.iter_below ..⟩
     rw [if_neg hz] at H
     have bz : (((pos : Nat) : Int) == 0) = false := bF_ (by omega)
     cases hu : lex_digit.f c with
     | none => rw [hu] at H; exact absurd H (by simp)
     | some u =>
      rw [hu, Option.bind_some] at H
      have arm2 := Azz.mk (fun W => lex_digit.calls c u W hu)
      clear hu hz
      cases u with
      | true =>
       rw [if_pos rfl] at H
       have H' := Azz.mk H
       clear H
       go_wp2_with (first | (go_at_call 83; (try rw [e1]); (with_reducible refine (arm.out _).mono ?_); rintro e w' ⟨rfl, ⟨nd, rfl⟩⟩) | (go_at_call 84; (try rw [e1]); (with_reducible refine (arm2.out _).mono ?_); rintro e w' ⟨rfl, ⟨nd2, rfl⟩⟩))
       go_roundg k1
       case measure => have := HK.out; omega
       case rel => exact ⟨_, pos + 1, H', ⟨by have := HK.out; omega⟩, lex_IsWord.iter_drewN ..⟩
      | false =>
       rw [if_neg (by decide)] at H
       obtain rfl := sI H
       go_wp2_with (first | (go_at_call 83; (try rw [e1]); (with_reducible refine (arm.out _).mono ?_); rintro e w' ⟨rfl, ⟨nd, rfl⟩⟩) | (go_at_call 84; (try rw [e1]); (with_reducible refine (arm2.out _).mono ?_); rintro e w' ⟨rfl, ⟨nd2, rfl⟩⟩))
       go_ret
       exact ⟨rfl, by rw [lex_IsWord.iter_drewN]; exact lex_IsWord.iter_below ..⟩
def local_IsName.j0 : Nat → ByteArray → Bool → Option (Bool)
 | 0, _, _ => none
 | k + 1, x0, x7 => if x7 = true then (some false) else ((operand_Reg.f k x0).bind fun bt112 => (if bt112.2.2 = 0 then (some false) else ((lex_IsWord.f k x0).bind fun t115 => (some t115))))
def local_IsName.f (k : Nat) (a0 : ByteArray) : Option (Bool) := if a0.toList = ([108, 115, 108] : List UInt8) then (local_IsName.j0 k a0 (a0.toList == ([108, 115, 108] : List UInt8))) else (if a0.toList = ([108, 115, 114] : List UInt8) then (local_IsName.j0 k a0 (a0.toList == ([108, 115, 114] : List UInt8))) else (if a0.toList = ([97, 115, 114] : List UInt8) then (local_IsName.j0 k a0 (a0.toList == ([97, 115, 114] : List UInt8))) else (local_IsName.j0 k a0 (a0.toList == ([114, 111, 114] : List UInt8)))))
theorem local_IsName.mono_l : ∀ k, (∀ y0 y1, LeO (local_IsName.j0 k y0 y1) (local_IsName.j0 (k + 1) y0 y1))
 | 0 => fun _ _ r h => by simp [local_IsName.j0] at h
 | k + 1 => by
  have ih0 := local_IsName.mono_l k
  intro y0 y1
  unfold local_IsName.j0
  repeat' first
  | (with_reducible exact ih0 _ _)
  | (with_reducible exact lex_IsWord.mono _ _)
  | (with_reducible exact operand_Reg.mono _ _)
  | (with_reducible exact LeO.refl _)
  | (with_reducible exact LeO.none _)
  | (with_reducible refine LeO.ite ?_ ?_)
  | (with_reducible refine LeO.bind ?_ (fun _ => ?_))
theorem local_IsName.mono : ∀ a0 k, LeO (local_IsName.f k a0) (local_IsName.f (k + 1) a0) := by
 intro a0 k
 have ih0 := local_IsName.mono_l k
 unfold local_IsName.f
 repeat' first
  | (with_reducible exact ih0 _ _)
  | (with_reducible exact lex_IsWord.mono _ _)
  | (with_reducible exact operand_Reg.mono _ _)
  | (with_reducible exact LeO.refl _)
  | (with_reducible exact LeO.none _)
  | (with_reducible refine LeO.ite ?_ ?_)
  | (with_reducible refine LeO.bind ?_ (fun _ => ?_))
theorem local_IsName.calls (k : Nat) (a0 : ByteArray) (r : Bool) (w : World) (h : local_IsName.f k a0 = some r) :
 Calls Tryz.prog 65 #[.string a0] w fun e w' => e = .returned (.bool r) ∧ Below w.heap.size w w' := by
 have HB := Azz.mk (Below.refl w.heap.size w)
 have H : (if a0.toList = ([108, 115, 108] : List UInt8) then (local_IsName.j0 k a0 (a0.toList == ([108, 115, 108] : List UInt8))) else (if a0.toList = ([108, 115, 114] : List UInt8) then (local_IsName.j0 k a0 (a0.toList == ([108, 115, 114] : List UInt8))) else (if a0.toList = ([97, 115, 114] : List UInt8) then (local_IsName.j0 k a0 (a0.toList == ([97, 115, 114] : List UInt8))) else (local_IsName.j0 k a0 (a0.toList == ([114, 111, 114] : List UInt8)))))) = some r := h
 clear h
 have HC2 := Azz.mk H
 clear H
 go_enter Tryz.func65, Tryz.ntmps65
 go_upto_if 7 with (fail)
 go_cut [7] (fun v7 wc => ∃ (kq : Nat) (x7_1 : Bool), v7 = .bool x7_1 ∧ Azz (local_IsName.j0 kq a0 x7_1 = some r) ∧ Azz (kq ≤ k) ∧ Azz (Below w.heap.size w wc))
 case first =>
  have H := HC2.out
  clear HC2
  by_cases c3 : a0.toList = ([108, 115, 108] : List UInt8)
  ·rw [if_pos c3] at H
   obtain ⟨c3b0, c3b1⟩ := be_ c3
   clear c3
   (first | rw [c3b0] | (simp only [i64_w, i32_w]; rw [c3b0]) | skip)
   have H' := Azz.mk H
   clear H
   go_wp2
   go_meet
   case rel => exact ⟨_, ((a0.toList == ([108, 115, 108] : List UInt8))), eqS, H', ⟨leS⟩, ⟨by repeat (first | (with_reducible first | exact HB.out | apply bAA | apply bNN | apply bDD) | exact HB.out)⟩⟩
  rw [if_neg c3] at H
  obtain ⟨c3b0, c3b1⟩ := bn_ c3
  (first | rw [c3b0] | (simp only [i64_w, i32_w]; rw [c3b0]) | skip)
  by_cases c4 : a0.toList = ([108, 115, 114] : List UInt8)
  ·rw [if_pos c4] at H
   obtain ⟨c4b0, c4b1⟩ := be_ c4
   clear c4
   have H' := Azz.mk H
   clear H
   go_wp2
   go_meet
   case rel => exact ⟨_, ((a0.toList == ([108, 115, 114] : List UInt8))), eqS, H', ⟨leS⟩, ⟨by repeat (first | (with_reducible first | exact HB.out | apply bAA | apply bNN | apply bDD) | exact HB.out)⟩⟩
  rw [if_neg c4] at H
  obtain ⟨c4b0, c4b1⟩ := bn_ c4
  by_cases c5 : a0.toList = ([97, 115, 114] : List UInt8)
  ·rw [if_pos c5] at H
   obtain ⟨c5b0, c5b1⟩ := be_ c5
   clear c5
   have H' := Azz.mk H
   clear H
   go_wp2
   go_meet
   case rel => exact ⟨_, ((a0.toList == ([97, 115, 114] : List UInt8))), eqS, H', ⟨leS⟩, ⟨by repeat (first | (with_reducible first | exact HB.out | apply bAA | apply bNN | apply bDD) | exact HB.out)⟩⟩
  rw [if_neg c5] at H
  obtain ⟨c5b0, c5b1⟩ := bn_ c5
  have H' := Azz.mk H
  clear H
  go_wp2
  go_meet
  case rel => exact ⟨_, ((a0.toList == ([114, 111, 114] : List UInt8))), eqS, H', ⟨leS⟩, ⟨by repeat (first | (with_reducible first | exact HB.out | apply bAA | apply bNN | apply bDD) | exact HB.out)⟩⟩
 case rest =>
  clear HC2
  try clear p2
  try clear c3
  try clear c3b0
  try clear c3b1
  try clear c4
  try clear c4b0
  try clear c4b1
  try clear c5
  try clear c5b0
  try clear c5b1
  obtain ⟨kq, x7_1, rfl, HA, HJ1, HB⟩ := hcut
  cases kq with
  | zero => exact absurd HA.out (by simp [local_IsName.j0])
  | succ kj1 =>
   have H := HA.out
   clear HA
   simp only [local_IsName.j0] at H
   by_cases c6 : x7_1 = true
   ·subst c6
    rw [if_pos rfl] at H
    obtain rfl := sI H
    go_wp2
    go_ret
    exact ⟨eqB, by repeat (first | (with_reducible first | exact HB.out | apply bAA | apply bNN | apply bDD) | exact HB.out)⟩
   replace c6 := Bool.eq_false_iff.mpr c6
   subst c6
   rw [if_neg nFT] at H
   obtain ⟨⟨t112, t113, t114⟩, A7, H⟩ := bnd H
   (try dsimp only at H)
   by_cases c8 : t114 = 0
   ·rw [if_pos c8] at H
    obtain ⟨c8b0, c8b1⟩ := be_ c8
    clear c8
    obtain rfl := sI H
    go_wp2_with (first | ((with_reducible refine g_c (f := 74) rfl ?_); refine gM (some 14) rfl rfl Tryz.func74 #[.string a0] rfl ?_; (with_reducible refine (operand_Reg.calls kj1 a0 t112 t113 t114 _ A7.out).mono ?_); rintro e w9 ⟨rfl, hb⟩; refine ⟨_, rfl, ?_⟩; have n0_ := Azz.mk (bTT (by with_reducible repeat first | exact HB.out | apply bAA | apply bNN | apply bDD) hb); clear HB; have HB := n0_; clear n0_; (try clear hb); (try clear hb2); (try clear hk); (try clear hi)))
    go_ret
    exact ⟨eqB, by repeat (first | (with_reducible first | exact HB.out | apply bAA | apply bNN | apply bDD) | exact HB.out)⟩
   rw [if_neg c8] at H
   obtain ⟨c8b0, c8b1⟩ := bn_ c8
   obtain ⟨t115, A10, H⟩ := bnd H
   (try dsimp only at H)
   obtain rfl := sI H
   go_wp2_with (first | ((with_reducible refine g_c (f := 74) rfl ?_); refine gM (some 14) rfl rfl Tryz.func74 #[.string a0] rfl ?_; (with_reducible refine (operand_Reg.calls kj1 a0 t112 t113 t114 _ A7.out).mono ?_); rintro e w11 ⟨rfl, hb⟩; refine ⟨_, rfl, ?_⟩; have n0_ := Azz.mk (bTT (by with_reducible repeat first | exact HB.out | apply bAA | apply bNN | apply bDD) hb); clear HB; have HB := n0_; clear n0_; (try clear hb); (try clear hb2); (try clear hk); (try clear hi)) | (go_at_call 75; (with_reducible refine (lex_IsWord.calls kj1 a0 t115 _ A10.out).mono ?_); rintro e w12 ⟨rfl, hb⟩; have n0_ := Azz.mk (bTT (by with_reducible repeat first | exact HB.out | apply bAA | apply bNN | apply bDD) hb); clear HB; have HB := n0_; clear n0_; (try clear hb); (try clear hb2); (try clear hk); (try clear hi)))
   go_ret
   exact ⟨eqB, by repeat (first | (with_reducible first | exact HB.out | apply bAA | apply bNN | apply bDD) | exact HB.out)⟩
def strings_Count.f (a0 : ByteArray) (a1 : ByteArray) : Option Int := match a1.data.toList with
 | [c] => some ((Go.Lib.countByte a0.data.toList c : Nat) : Int)
 | _ => none
theorem strings_Count.calls (a0 : ByteArray) (a1 : ByteArray) (r : Int) (w : World) (h : strings_Count.f a0 a1 = some r) :
 Calls Tryz.prog 76 #[.string a0, .string a1] w fun e w' => e = .returned (.int .i64 r) ∧ Drawn0 w w' := by
 unfold strings_Count.f at h
 split at h
 ·rename_i c hc
  obtain rfl := Option.some.inj h
  obtain rfl : a1 = ⟨#[c]⟩ := by
   cases a1
   rename_i d
   have : d = #[c] := by rw [← Array.toArray_toList (xs := d)]; exact congrArg List.toArray hc
   rw [this]
  refine (Tryz.strings_Count_one a0 c w).mono ?_
  rintro e w' ⟨rfl, rfl⟩
  exact ⟨rfl, Drawn0.refl _⟩
 exact absurd h (by simp)
def inst_Shape.f (a0 : Int) : Option Int := if a0 < 1 then some 0 else (if a0 > 39 then some 0 else some (rd shapesL a0))
theorem inst_Shape.calls (a0 : Int) (r : Int) (w : World) (hG : Glob w) (h : inst_Shape.f a0 = some r) :
 Calls Tryz.prog 118 #[.int .i64 a0] w fun e w' => e = .returned (.int .i64 r) ∧ Drawn0 w w' := by
 unfold inst_Shape.f at h
 by_cases h1 : a0 < 1
 ·rw [if_pos h1] at h
  obtain rfl := Option.some.inj h
  have b1 : decide (a0 < 1) = true := dT_ h1
  clear h
  go_enter Tryz.func118, Tryz.ntmps118
  go_wp2
  go_ret
  exact ⟨rfl, Drawn0.refl _⟩
 rw [if_neg h1] at h
 have b1 : decide (a0 < 1) = false := dF_ h1
 by_cases h2 : a0 > 39
 ·rw [if_pos h2] at h
  obtain rfl := Option.some.inj h
  have b2 : decide (39 < a0) = true := dT_ h2
  clear h
  go_enter Tryz.func118, Tryz.ntmps118
  go_wp2
  go_ret
  exact ⟨rfl, Drawn0.refl _⟩
 rw [if_neg h2] at h
 obtain rfl := Option.some.inj h
 have b2 : decide (39 < a0) = false := dF_ h2
 have hc : w.cell? ⟨4, a0.toNat, none⟩ = some (.int .i64 (rd shapesL a0)) := hG.shapes a0.toNat (by omega)
 have i0 : 0 ≤ a0 := by omega
 have i1 : a0 < 40 := by omega
 clear h h1 h2
 go_enter Tryz.func118, Tryz.ntmps118
 go_wp2
 go_ret
 exact ⟨rfl, Drawn0.refl _⟩
def code_Opcode.l0 : Nat → Int → Int → Option Int
 | 0, _, _ => none
 | k + 1, x0, x3 => if x3 ≤ 39 then (if Go.bits .andNot .u32 x0 (rd fieldsL (rd shapesL x3)) = rd basesL x3 then some x3 else code_Opcode.l0 k x0 (x3 + 1)) else some 0
def code_Opcode.f (a0 : Int) : Option Int := code_Opcode.l0 40 a0 1
theorem shapesL_in (i : Nat) : 0 ≤ shapesL.getD i 0 ∧ shapesL.getD i 0 < 17 := by
 rcases Nat.lt_or_ge i 40 with h | h
 ·exact (by decide : ∀ i : Nat, i < 40 → 0 ≤ shapesL.getD i 0 ∧ shapesL.getD i 0 < 17) i h
 rw [List.getD_eq_getElem?_getD, List.getElem?_eq_none (by simpa [shapesL] using h)]; decide
theorem code_Opcode.calls (a0 : Int) (r : Int) (w : World) (hG : Glob w) (h : code_Opcode.f a0 = some r) :
 Calls Tryz.prog 116 #[.int .u32 a0] w fun e w' => e = .returned (.int .i64 r) ∧ Drawn0 w w' := by
 have H : code_Opcode.l0 40 a0 1 = some r := h
 clear h
 have H' := Azz.mk H
 clear H
 go_enter Tryz.func116, Tryz.ntmps116
 go_wp2
 go_loopg [3] 40 (fun kq v3 w' => ∃ (x3 : Int), v3 = .int .i64 x3 ∧ (1 ≤ x3 ∧ x3 ≤ 40) ∧ Azz (code_Opcode.l0 kq a0 x3 = some r) ∧ Azz (kq ≤ 40) ∧ Drawn0 w w')
 case atStart => exact ⟨1, rfl, by omega, H', ⟨Nat.le_refl _⟩, Drawn0.refl _⟩
 case round =>
  clear H'
  obtain ⟨x3, rfl, ⟨hx0, hx1⟩, HA, HK, ⟨m1, rfl⟩⟩ := hrel
  cases gk with
  | zero => exact absurd HA.out (by simp [code_Opcode.l0])
  | succ k1 =>
   have H := HA.out
   clear HA
   simp only [code_Opcode.l0] at H
   by_cases c1 : x3 ≤ 39
   rotate_left
   ·rw [if_neg c1] at H
    have b1 : decide (x3 ≤ 39) = false := dF_ c1
    obtain rfl := sI H
    clear H
    go_wp2
    go_ret
    exact ⟨rfl, d0S⟩
   rw [if_pos c1] at H
   have b1 : decide (x3 ≤ 39) = true := dT_ c1
   have hS : inst_Shape.f x3 = some (rd shapesL x3) := by unfold inst_Shape.f; rw [if_neg (by omega), if_neg (by omega)]
   have hc1 : ∀ n, (w.drewN n).cell? ⟨3, x3.toNat, none⟩ = some (.int .u32 (rd basesL x3)) := fun n => hG.bases x3.toNat (by omega)
   have hs := shapesL_in x3.toNat
   obtain ⟨s, hs'⟩ : ∃ s, rd shapesL x3 = s := ⟨_, rfl⟩
   rw [show shapesL.getD x3.toNat 0 = rd shapesL x3 from rfl, hs'] at hs
   rw [hs'] at hS H
   clear hs'
   have HS := Azz.mk hS
   clear hS
   obtain ⟨hs0, hs1⟩ := hs
   have hc2 : ∀ n, (w.drewN n).cell? ⟨2, s.toNat, none⟩ = some (.int .u32 (rd fieldsL s)) := fun n => hG.fields s.toNat (by omega)
   obtain ⟨bb, hbb⟩ : ∃ b, rd basesL x3 = b := ⟨_, rfl⟩
   obtain ⟨ff, hff⟩ : ∃ f, rd fieldsL s = f := ⟨_, rfl⟩
   rw [hbb] at H hc1
   rw [hff] at H hc2
   clear hbb hff
   have hc1' := hc1 0
   have hc2' := hc2 0
   simp only [World.cell?_drewN] at hc1' hc2'
   clear hc1 hc2
   by_cases c2 : Go.bits .andNot .u32 a0 ff = bb
   ·rw [if_pos c2] at H
    have b2 : (Go.bits .andNot .u32 a0 ff == bb) = true := beq_iff_eq.mpr c2
    clear c2
    obtain rfl := sI H
    clear H
    go_wp2
    repeat (go_quiet ((go_at_call 118; (with_reducible refine (inst_Shape.calls x3 s _ (hG.drewN) HS.out).mono ?_); rintro e w' ⟨rfl, ⟨nd, rfl⟩⟩; (try first | exact ⟨rfl, _, dd2⟩ | exact ⟨rfl, _, dd3⟩))); try go_wp2)
    go_ret
    exact ⟨rfl, d0S⟩
   rw [if_neg c2] at H
   have b2 : (Go.bits .andNot .u32 a0 ff == bb) = false := bF_ c2
   clear c2
   have H' := Azz.mk H
   clear H
   go_wp2
   repeat (go_quiet ((go_at_call 118; (with_reducible refine (inst_Shape.calls x3 s _ (hG.drewN) HS.out).mono ?_); rintro e w' ⟨rfl, ⟨nd, rfl⟩⟩; (try first | exact ⟨rfl, _, dd2⟩ | exact ⟨rfl, _, dd3⟩))); try go_wp2)
   go_roundg k1
   case measure => have := HK.out; omega
   case rel => exact ⟨x3 + 1, rfl, by omega, H', ⟨by have := HK.out; omega⟩, d0S⟩
end Go.Proofs.YtngmipfodjgmmaaGreatDoor.P
