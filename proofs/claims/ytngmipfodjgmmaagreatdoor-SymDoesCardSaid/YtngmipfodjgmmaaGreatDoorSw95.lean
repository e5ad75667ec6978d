/- Walks and plain laws of this claim, a part. -/
import Derived.Test.YtngmipfodjgmmaaGreatDoorSw88
set_option maxRecDepth 100000
set_option maxHeartbeats 8000000
set_option linter.unusedVariables false
set_option linter.unusedSimpArgs false
section
namespace Go.Proofs.YtngmipfodjgmmaaGreatDoor.Pure
open Go Go.RowKit Go.Lib Go.Shelf YtngmipfodjgmmaaGreatDoorW.PrintWords YtngmipfodjgmmaaGreatDoorW.PrintLast YtngmipfodjgmmaaGreatDoorW.PrintMore
def RobPost (o : Ob) (w : World) (e : Ending) (w' : World) : Prop := ∃ b, e = .returned (.bool b) ∧ (b = true ↔ ObOk o) ∧ Below w.heap.size w w'
theorem rob_no {o : Ob} (h : ¬ ObOk o) {w w' : World} (hb : Below w.heap.size w w') : RobPost o w (.returned (.bool false)) w' := ⟨false, rfl, ⟨fun e => absurd e (by decide), fun e => absurd e h⟩, hb⟩
theorem robj_any (o : Ob) (A0 A1 : Option Addr) (c0 c1 : Nat) (w : World) (C0 : Kd.C P.k64 w A0 o.f0.length o.f0) (l0 : o.f0.length ≤ c0) (C1 : Kd.C P.k85 w A1 o.f1.length o.f1) (l1 : o.f1.length ≤ c1) :
 Calls Tryz.prog 55 #[.agg #[.slice A0 o.f0.length c0, .slice A1 o.f1.length c1]] w (RobPost o w) := by
 have H0 := Azz.mk C0
 have H1 := Azz.mk C1
 have HB0 := Azz.mk (bAA (Below.refl w.heap.size w) (.cells #[.slice A0 o.f0.length c0, .slice A1 o.f1.length c1] 68))
 have HX0 := Azz.mk (blk_new w (.cells #[.slice A0 o.f0.length c0, .slice A1 o.f1.length c1] 68))
 clear C0 C1
 go_enter Tryz.func55, Tryz.ntmps55
 by_cases h32 : (32 : Int) < o.f0.length
 ·have b1 : decide ((32 : Int) < o.f0.length) = true := decide_eq_true h32
  have HH := Azz.mk h32
  go_wp2
  go_ret
  exact rob_no (fun h => by have := h.secs; have := HH.out; omega) HB0.out
 have b1 : decide ((32 : Int) < o.f0.length) = false := decide_eq_false h32
 by_cases h128 : (128 : Int) < o.f1.length
 ·have b2 : decide ((128 : Int) < o.f1.length) = true := decide_eq_true h128
  have HH := Azz.mk h128
  go_wp2
  go_ret
  exact rob_no (fun h => by have := h.syms; have := HH.out; omega) HB0.out
 have b2 : decide ((128 : Int) < o.f1.length) = false := decide_eq_false h128
 have HL := Azz.mk (And.intro h32 h128)
 clear h32 h128
 have n32 : o.f0.length ≤ 32 := by have := HL.out; omega
 have n128 : o.f1.length ≤ 128 := by have := HL.out; omega
 go_wp2
 go_loopw [3] (fun v wr => ∃ i : Nat, i ≤ o.f0.length ∧ v = .int .i64 i ∧ Azz (∀ q, q < i → SecGood o q) ∧ Azz (wr.heap[w.heap.size]? = some (.cells #[.slice A0 o.f0.length c0, .slice A1 o.f1.length c1] 68 (0, 0))) ∧ Azz (Below w.heap.size w wr)) (fun v _ => o.f0.length - (RowKit.intOf v).toNat)
 case atStart => exact ⟨0, Nat.zero_le _, rfl, ⟨fun q h => absurd h (Nat.not_lt_zero _)⟩, HX0, HB0⟩
 case round =>
  clear HX0 HB0
  obtain ⟨i, hi, rfl, HQ, HX, HB⟩ := hrel
  have z0 := kCC HX.out 0
  have z1 := kCC HX.out 1
  by_cases hlt : i < o.f0.length
  ·obtain ⟨ad, A5, c5, ea, y0, y1, y2, y3, y4, y5, l5, g5⟩ := P.at_T64 (Kd.C_below H0.out HB.out) i (by omega) (by omega)
   cases ea
   rw [Int.toNat_natCast] at y0 y1 y2 y3 y4 y5
   obtain ⟨s, hs⟩ : ∃ s, P.rd_T64 o.f0 (i : Int) = s := ⟨_, rfl⟩
   rw [hs] at y0 y1 y2 y3 y4 y5 l5 g5
   have HSn := Azz.mk (show seN o i = s from hs)
   have HIs := Azz.mk (ris_sec (scOf s) A5 c5 wr (by simpa [scOf] using l5) (by simpa [scOf] using g5))
   have HG5 := Azz.mk g5
   have i0 : (0 : Int) ≤ (i : Int) := by omega
   have i1 : (i : Int) < o.f0.length := by omega
   clear hs g5 l5
   go_wp2_with fail
   (with_reducible refine HIs.out.mono ?_)
   rintro en w2 ⟨b, rfl, hib, hbw⟩
   have HB2 := Azz.mk (bTT HB.out hbw)
   have HX2 := Azz.mk (kBB HX.out hbw)
   replace y0 := kp1 y0 hbw
   replace y5 := kp1 y5 hbw
   replace HG5 := Azz.mk (Kd.C_below HG5.out hbw)
   have HIb := Azz.mk hib
   have z0 := kCC HX2.out 0
   have z1 := kCC HX2.out 1
   clear hbw hib HB HX y1 y2 y3 y4 HIs
   cases b with
   | false =>
    go_wp2
    go_ret
    refine rob_no (fun h => ?_) HB2.out
    have := (h.sec i hlt).2.1
    rw [HSn.out] at this
    exact absurd (isB_one HIb.out this) (by decide)
   | true =>
    go_wp2
    clear z0 z1 y0 y5
    go_loopw [4] (fun v wk => ∃ k : Nat, k ≤ i ∧ v = .int .i64 k ∧ Azz (∀ q, q < k → (seN o q).f0 ≠ s.f0) ∧ Azz (Below w2.heap.size w2 wk)) (fun v _ => i - (RowKit.intOf v).toNat)
    case atStart => exact ⟨0, Nat.zero_le _, rfl, ⟨fun q h => absurd h (Nat.not_lt_zero _)⟩, ⟨Below.refl _ _⟩⟩
    case round =>
     obtain ⟨k, hk, rfl, HK, HBk⟩ := hrel
     obtain ⟨wk, hwk⟩ : ∃ x, x = wr := ⟨_, rfl⟩
     subst hwk
     have HB3 := Azz.mk (bTT HB2.out HBk.out)
     have HX3 := Azz.mk (kBB HX2.out HBk.out)
     have z0 := kCC HX3.out 0
     have z1 := kCC HX3.out 1
     obtain ⟨ad', A5', c5', ea, y0, y1, y2, y3, y4, y5, l5, g5⟩ := P.at_T64 (Kd.C_below H0.out HB3.out) i (by omega) (by omega)
     cases ea
     rw [Int.toNat_natCast] at y0 y5
     have hsn := HSn.out
     unfold seN at hsn
     rw [hsn] at y0 y5 l5 g5
     clear hsn y1 y2 y3 y4
     by_cases hkl : k < i
     ·obtain ⟨_, _, _, ea, t0, _, _, _, _, _, _, _⟩ := P.at_T64 (Kd.C_below H0.out HB3.out) k (by omega) (by omega)
      cases ea
      rw [Int.toNat_natCast] at t0
      have k0 : (0 : Int) ≤ (k : Int) := by omega
      have k1 : (k : Int) < o.f0.length := by omega
      obtain ⟨nm, hnm⟩ : ∃ z, (P.rd_T64 o.f0 (k : Int)).f0 = z := ⟨_, rfl⟩
      rw [hnm] at t0
      have HNm := Azz.mk (show (seN o k).f0 = nm from hnm)
      clear hnm l5 g5 y5 z1
      by_cases he : nm = s.f0
      ·have nE : (nm.toList == s.f0.toList) = true := by rw [he]; simp
       have HE := Azz.mk he
       clear he
       go_wp2
       go_quiet (fail)
       go_wp2
       go_ret
       exact rob_no (fun h => (h.sec i hlt).1 k hkl (HNm.out.trans (HE.out.trans (by rw [HSn.out])))) (bNN HB3.out _)
      ·have nE : (nm.toList == s.f0.toList) = false := beq_eq_false_iff_ne.mpr (fun h => he (list_ext h))
       have HE := Azz.mk he
       clear he
       go_wp2
       go_quiet (fail)
       go_wp2
       go_roundw
       case rel =>
        refine ⟨k + 1, by omega, by go_num, ⟨fun q hq => ?_⟩, ⟨bNN HBk.out _⟩⟩
        rcases Nat.eq_or_lt_of_le (Nat.le_of_lt_succ hq) with rfl | hq
        ·rw [HNm.out]; exact HE.out
        ·exact HK.out q hq
       case measure => simp [RowKit.intOf]; omega
     ·obtain rfl : k = i := by omega
      go_wp2
      clear z0 z1 y0 y5 l5
      have HG6 := Azz.mk g5
      clear g5
      go_loopw [5] (fun v wj => ∃ j : Nat, j ≤ s.f5.length ∧ v = .int .i64 j ∧ Azz (∀ q : Nat, q < j → (P.rd_T98 s.f5 (q : Int)).f2 < o.f1.length) ∧ Azz (Below wk.heap.size wk wj)) (fun v _ => s.f5.length - (RowKit.intOf v).toNat)
      case atStart => exact ⟨0, Nat.zero_le _, rfl, ⟨fun q h => absurd h (Nat.not_lt_zero _)⟩, ⟨Below.refl _ _⟩⟩
      case round =>
       obtain ⟨j, hj, rfl, HJ, HBj⟩ := hrel
       have HB4 := Azz.mk (bTT HB3.out HBj.out)
       have HX4 := Azz.mk (kBB HX3.out HBj.out)
       have z0 := kCC HX4.out 0
       have z1 := kCC HX4.out 1
       obtain ⟨_, A6, c6, ea, y0, y1, y2, y3, y4, y5, l5, g5⟩ := P.at_T64 (Kd.C_below H0.out HB4.out) k (by omega) (by omega)
       cases ea
       rw [Int.toNat_natCast] at y5
       have hsn := HSn.out
       unfold seN at hsn
       rw [hsn] at y5 l5 g5
       have hfl : s.f5.length ≤ 64 := by
        have := (is_iff _).1 HIb.out
        exact this.rels
       clear hsn y0 y1 y2 y3 y4
       by_cases hjl : j < s.f5.length
       ·obtain ⟨at_, ea, t0, t1, t2, t3⟩ := P.at_T98 g5 j (by omega) (by omega)
        cases ea
        rw [Int.toNat_natCast] at t2
        obtain ⟨z, hz⟩ : ∃ z, (P.rd_T98 s.f5 (j : Int)).f2 = z := ⟨_, rfl⟩
        rw [hz] at t2
        have HZ := Azz.mk hz
        have j0 : (0 : Int) ≤ (j : Int) := by omega
        have j1 : (j : Int) < s.f5.length := by omega
        clear hz t0 t1 t3 g5 l5
        by_cases he : (o.f1.length : Int) ≤ z
        ·have nE : decide ((o.f1.length : Int) ≤ z) = true := decide_eq_true he
         have HE := Azz.mk he
         clear he
         go_wp2
         go_quiet (fail)
         go_wp2
         go_ret
         refine rob_no (fun h => ?_) (bNN HB4.out _)
         have h2 := (h.sec k hlt).2.2 j (by rw [HSn.out]; exact hjl)
         rw [HSn.out, HZ.out] at h2
         have := HE.out
         omega
        ·have nE : decide ((o.f1.length : Int) ≤ z) = false := decide_eq_false he
         have HE := Azz.mk he
         clear he
         go_wp2
         go_quiet (fail)
         go_wp2
         go_roundw
         case rel =>
          refine ⟨j + 1, by omega, by go_num, ⟨fun q hq => ?_⟩, ⟨bNN HBj.out _⟩⟩
          rcases Nat.eq_or_lt_of_le (Nat.le_of_lt_succ hq) with rfl | hq
          ·rw [HZ.out]; have := HE.out; omega
          ·exact HJ.out q hq
         case measure => simp [RowKit.intOf]; omega
       ·obtain rfl : j = s.f5.length := by omega
        go_wp2
        go_roundw
        case rel =>
         refine ⟨k + 1, by omega, by go_num, ⟨fun q hq => ?_⟩, HX4, HB4⟩
         rcases Nat.eq_or_lt_of_le (Nat.le_of_lt_succ hq) with rfl | hq
         ·refine ⟨fun m hm => ?_, ?_, fun m hm => ?_⟩
          ·rw [HSn.out]; exact HK.out m hm
          ·rw [HSn.out]; exact HIb.out
          ·rw [HSn.out] at hm ⊢
           exact HJ.out m hm
         ·exact HQ.out q hq
        case measure => simp [RowKit.intOf]; omega
  ·obtain rfl : i = o.f0.length := by omega
   go_wp2
   go_loopw [6] (fun v wr2 => ∃ k : Nat, k ≤ o.f1.length ∧ v = .int .i64 k ∧ Azz (∀ q, q < k → SymGood o q) ∧ Azz (Below wr.heap.size wr wr2)) (fun v _ => o.f1.length - (RowKit.intOf v).toNat)
   case atStart => exact ⟨0, Nat.zero_le _, rfl, ⟨fun q h => absurd h (Nat.not_lt_zero _)⟩, ⟨Below.refl _ _⟩⟩
   case round =>
    obtain ⟨k, hk, rfl, HK, HBk⟩ := hrel
    have HB3 := Azz.mk (bTT HB.out HBk.out)
    have z0 := kCC (kBB HX.out HBk.out) 0
    have z1 := kCC (kBB HX.out HBk.out) 1
    by_cases hkl : k < o.f1.length
    ·have HSy := Azz.mk (rsym_calls o k hkl (by have := HL.out; omega) wr A0 A1 c0 c1 (Kd.C_below H0.out HB3.out) l0 (Kd.C_below H1.out HB3.out) l1 (by omega))
     go_wp2_with fail
     (with_reducible refine HSy.out.mono ?_)
     rintro en w2 ⟨⟨b, rfl, hib⟩, hbw⟩
     have HB4 := Azz.mk (bTT HB3.out hbw)
     have HB5 := Azz.mk (bTT HBk.out hbw)
     have HIb := Azz.mk hib
     clear hbw hib HSy z0 z1
     cases b with
     | false =>
      go_wp2
      go_ret
      exact rob_no (fun h => absurd (HIb.out.2 (h.sym k hkl)) (by decide)) HB4.out
     | true =>
      go_wp2
      go_roundw
      case rel =>
       refine ⟨k + 1, Nat.succ_le_of_lt hkl, by go_num, ⟨fun q hq => ?_⟩, HB5⟩
       rcases Nat.eq_or_lt_of_le (Nat.le_of_lt_succ hq) with rfl | hq
       ·exact HIb.out.1 (by simp)
       ·exact HK.out q hq
      case measure => simp [RowKit.intOf]; omega
    ·obtain rfl : k = o.f1.length := by omega
     go_wp2
     go_ret
     exact ⟨true, rfl, ⟨fun _ => ⟨by have := HL.out; omega, by have := HL.out; omega, HQ.out, HK.out⟩, fun _ => rfl⟩, HB3.out⟩
theorem rchk_any (w : World) (A : Option Addr) (c : Nat) (os : List Ob) (hos : OA w A os) (hf : FewL os) :
 Calls Tryz.prog 27 #[.slice A os.length c] w (ChkPost os w) := by
 have HO := Azz.mk hos
 have HF := Azz.mk hf
 have hol := hf.1
 clear hos hf
 go_enter Tryz.func27, Tryz.ntmps27
 by_cases h8 : (8 : Int) < os.length
 ·have b1 : decide ((8 : Int) < os.length) = true := decide_eq_true h8
  have HH := Azz.mk h8
  go_wp2
  go_ret
  exact ⟨2, rfl, .inl ⟨by have := HH.out; omega, rfl⟩, Below.refl _ _⟩
 have b1 : decide ((8 : Int) < os.length) = false := decide_eq_false h8
 have HH := Azz.mk h8
 clear h8
 go_wp2
 go_loopw [3] (fun v wr => ∃ i : Nat, i ≤ os.length ∧ v = .int .i64 i ∧ Azz (∀ k, k < i → ObOk (obN os k)) ∧ Azz (Below w.heap.size w wr)) (fun v _ => os.length - (RowKit.intOf v).toNat)
 case atStart => exact ⟨0, Nat.zero_le _, rfl, ⟨fun k h => absurd h (Nat.not_lt_zero _)⟩, ⟨Below.refl _ _⟩⟩
 case round =>
  obtain ⟨i, hi, rfl, HK, HB⟩ := hrel
  by_cases hlt : i < os.length
  ·obtain ⟨ad, A0, c0, A1, c1, e, x0, x1, l0, C0, l1, C1⟩ := P.at_T68 (Kd.C_below HO.out HB.out) i (by omega) (by omega)
   cases e
   rw [Int.toNat_natCast] at x0 x1
   obtain ⟨o, ho⟩ : ∃ o, obN os i = o := ⟨_, rfl⟩
   have HSe := Azz.mk ho
   unfold obN at ho
   rw [ho] at x0 x1 l0 C0 l1 C1
   have HC := Azz.mk (robj_any o A0 A1 c0 c1 wr C0 l0 C1 l1)
   have hi0 : (0 : Int) ≤ (i : Int) := by omega
   have hi1 : (i : Int) < os.length := by omega
   clear C0 C1 ho
   go_wp2_with fail
   (with_reducible refine HC.out.mono ?_)
   rintro e w2 ⟨b, rfl, hb, hw⟩
   have HB2 := Azz.mk (bTT HB.out hw)
   have HBi := Azz.mk hb
   clear hb hw HB x0 x1 HC
   cases b with
   | false =>
    go_wp2
    go_ret
    exact ⟨1, rfl, .inr (.inl ⟨by have := HH.out; omega, rfl, fun h => by have := h i hlt; rw [HSe.out] at this; exact absurd (HBi.out.2 this) (by decide)⟩), HB2.out⟩
   | true =>
    go_wp2
    go_roundw
    case rel =>
     refine ⟨i + 1, by omega, by go_num, ⟨fun k hk => ?_⟩, HB2⟩
     rcases Nat.eq_or_lt_of_le (Nat.le_of_lt_succ hk) with rfl | hk
     ·rw [HSe.out]; exact HBi.out.1 (by simp)
     ·exact HK.out k hk
    case measure => simp [RowKit.intOf]; omega
  ·obtain rfl : i = os.length := by omega
   go_wp2
   go_ret
   exact ⟨0, rfl, .inr (.inr ⟨⟨by have := HH.out; omega, HK.out⟩, rfl⟩), HB.out⟩
def bindQ (b : Int) (s : Sy) : Bool := decide (s.f1 = b ∧ 0 ≤ s.f2)
theorem bindQ_strong : bindQ 2 = strongQ := rfl
theorem bindQ_weak : bindQ 3 = weakQ := rfl
theorem flat_rest (os : List Ob) : ∀ (d o : Nat), o + d = os.length → ∃ R, flatS os os.length = flatS os o ++ R
 | 0, o, h => ⟨[], by rw [show o = os.length by omega, List.append_nil]⟩
 | d + 1, o, h => by
  obtain ⟨R, hR⟩ := flat_rest os d (o + 1) (by omega)
  exact ⟨rowS os o (nsy os o) ++ R, by rw [hR, ← List.append_assoc]; rfl⟩
theorem pre_rest (os : List Ob) {o k : Nat} (ho : o < os.length) (hk : k ≤ nsy os o) : ∃ R, allS os = preS os o k ++ R := by
 obtain ⟨R, hR⟩ := flat_rest os (os.length - (o + 1)) (o + 1) (by omega)
 refine ⟨(rowS os o (nsy os o)).drop k ++ R, ?_⟩
 have e : rowS os o (nsy os o) = rowS os o k ++ (rowS os o (nsy os o)).drop k := by
  have h := List.take_append_drop k (rowS os o (nsy os o))
  have h2 : (rowS os o (nsy os o)).take k = rowS os o k := by
   unfold rowS
   rw [← List.map_take, List.take_range, Nat.min_eq_left hk]
  rw [h2] at h
  exact h.symm
 show flatS os os.length = _
 rw [hR]
 show (flatS os o ++ rowS os o (nsy os o)) ++ R = (flatS os o ++ rowS os o k) ++ ((rowS os o (nsy os o)).drop k ++ R)
 generalize (rowS os o (nsy os o)).drop k = D at e ⊢
 rw [e]
 simp [List.append_assoc]
theorem first_old {q : Sy → Bool} {os : List Ob} {o k : Nat} {n : ByteArray} {t : Tg} (ho : o < os.length) (hk : k ≤ nsy os o) (h : firstS q (preS os o k) n = some t) : firstS q (allS os) n = some t := by
 obtain ⟨R, hR⟩ := pre_rest os ho hk
 rw [hR]
 unfold firstS at h ⊢
 rw [List.find?_append, h]
 rfl
end Go.Proofs.YtngmipfodjgmmaaGreatDoor.Pure
end
section
namespace Go.Proofs.YtngmipfodjgmmaaGreatDoor.Pure
open Go Go.RowKit YtngmipfodjgmmaaGreatDoorW.PrintWords YtngmipfodjgmmaaGreatDoorW.PrintLast YtngmipfodjgmmaaGreatDoorW.PrintMore
theorem flt_tw {os : List Ob} {i j : Nat} (h : AtTw os i j) : ¬ NoTw os os.length 0 := fun g => g i j (.inl h.1) h.2.1 h.2.2.1
theorem flt_lost {os : List Ob} {i j : Nat} (h : AtLost os i j) : ¬ NoLost os os.length 0 := fun g => g i j (.inl h.1) h.2.1 h.2.2.1
theorem flt_one {os : List Ob} {c a b c' a' b' : Int} (h : Flt os c a b) (g : Flt os c' a' b') : c' = c ∧ a' = a ∧ b' = b := by
 rcases h with ⟨h1, h2, rfl, rfl⟩ | ⟨h1, i, j, h2, rfl, rfl, rfl⟩ | ⟨h1, ht, i, j, h2, rfl, rfl, rfl⟩ <;> rcases g with ⟨g1, g2, rfl, rfl⟩ | ⟨g1, p, q, g2, rfl, rfl, rfl⟩ | ⟨g1, gt, p, q, g2, rfl, rfl, rfl⟩
 ·exact ⟨g2.one h2, rfl, rfl⟩
 ·exact absurd g1 h1
 ·exact absurd g1 h1
 ·exact absurd h1 g1
 ·obtain ⟨rfl, rfl⟩ := h2.one g2
  exact ⟨rfl, rfl, rfl⟩
 ·exact absurd gt (flt_tw h2)
 ·exact absurd h1 g1
 ·exact absurd ht (flt_tw g2)
 ·obtain ⟨rfl, rfl⟩ := h2.one g2
  exact ⟨rfl, rfl, rfl⟩
theorem flt_not {os : List Ob} {c a b : Int} (h : Flt os c a b) (h1 : AllOkO os) (h2 : NoTw os os.length 0) (h3 : NoLost os os.length 0) : False := by
 rcases h with ⟨g, _⟩ | ⟨_, i, j, g, _⟩ | ⟨_, _, i, j, g, _⟩
 ·exact g h1
 ·exact flt_tw g h2
 ·exact flt_lost g h3
end Go.Proofs.YtngmipfodjgmmaaGreatDoor.Pure
end
section
namespace Go.Proofs.YtngmipfodjgmmaaGreatDoor.Pure
open Go Go.RowKit Go.Lib Go.Shelf YtngmipfodjgmmaaGreatDoorW.PrintWords YtngmipfodjgmmaaGreatDoorW.PrintLast YtngmipfodjgmmaaGreatDoorW.PrintMore
theorem tw_iff {os : List Ob} (hok : AllOkO os) {o k : Nat} (ho : o < os.length) (hk : k < nsy os o) : Tw (preS os o k) (syN os o k) ↔ strongQ (syN os o k) = true ∧ ∃ t, firstS strongQ (allS os) (syN os o k).f0 = some t ∧ t.1 < o := by
 constructor
 ·rintro ⟨hq, u, hu⟩
  refine ⟨hq, u, first_old ho (Nat.le_of_lt hk) hu, ?_⟩
  obtain ⟨hm, hq2, hn⟩ := firstS_some hu
  obtain ⟨i, j, hl, hj, rfl⟩ := of_ahead hm
  rcases hl with c | ⟨rfl, c⟩
  ·exact c
  ·exfalso
   have hs := strong_iff.1 hq
   have hp := (hok.2 i ho).pos (i := k) hk (show (syN os i k).f1 ≠ 1 by rw [hs.1]; decide)
   have := (hok.2 i ho).unique (i := k) (k := j) hk (Nat.lt_trans c hk) hn.symm hp
   omega
 ·rintro ⟨hq, t, ht, hlt⟩
  refine ⟨hq, ?_⟩
  obtain ⟨hm, hq2, hn⟩ := firstS_some ht
  obtain ⟨i, j, hi, hj, rfl⟩ := mem_all.1 hm
  exact firstS_is (mem_ahead (.inl hlt) hj) hq2 hn
/-- No weak symbol has no name. -/
theorem weak_named {os : List Ob} (hok : AllOkO os) {n : ByteArray} (hz : n.size = 0) : firstS weakQ (allS os) n = none := by
 cases h : firstS weakQ (allS os) n with
 | none => rfl
 | some t =>
  exfalso
  obtain ⟨hm, hq, hn⟩ := firstS_some h
  obtain ⟨i, j, hi, hj, rfl⟩ := mem_all.1 hm
  have hs := weak_iff.1 hq
  have := (hok.2 i hi).pos (i := j) hj (show (syN os i j).f1 ≠ 1 by rw [hs.1]; decide)
  have hn : (syN os i j).f0 = n := hn
  rw [← hn] at hz
  exact absurd hz (by show ¬ (smN (obN os i) j).f0.size = 0; omega)
end Go.Proofs.YtngmipfodjgmmaaGreatDoor.Pure
end
section
namespace Go.Proofs.YtngmipfodjgmmaaGreatDoor.Pure
open Go Go.RowKit Go.Lib Go.Shelf YtngmipfodjgmmaaGreatDoorW.PrintWords YtngmipfodjgmmaaGreatDoorW.PrintLast YtngmipfodjgmmaaGreatDoorW.PrintMore
open P (Glob)
/-- What 'first' and 'find' answer, as a value. -/
def tgE (r : Option Tg) : Ending := .returned (.tuple #[plV ((r.map plOf).getD ⟨0, 0, 0⟩), .bool r.isSome])
theorem few_small {os : List Ob} (hf : FewL os) : ∀ i, i < os.length → nsy os i ≤ 100000 := fun i hi => by have := (hf.2 i hi).syms; unfold nsy; omega
theorem ob_at {wr : World} {A : Option Addr} {os : List Ob} (h : OA wr A os) {i : Nat} (hi : i < os.length) (hl : os.length ≤ 100000) : ∃ ad A1 c1, A = some ad ∧ wr.cell? ⟨(ad.add (i * 2)).block, (ad.add (i * 2)).off + 1, none⟩ = some (.slice A1 (obN os i).f1.length c1) ∧ (obN os i).f1.length ≤ c1 ∧ Kd.C P.k85 wr A1 (obN os i).f1.length (obN os i).f1 := by
 obtain ⟨ad, A0, c0, A1, c1, e, x0, x1, l0, C0, l1, C1⟩ := P.at_T68 h i (by omega) (by omega)
 rw [Int.toNat_natCast] at x1
 exact ⟨ad, A1, c1, e, x1, l1, C1⟩
abbrev PB0 (w : World) (g : Nat) : Prop := w.heap[g]? = some (.cells #[.int .i64 0, .int .i64 0, .int .i64 0] 49 (0, 0))
def FstPost (os : List Ob) (n : ByteArray) (b : Int) (w : World) (e : Ending) (w' : World) : Prop := e = tgE (firstS (bindQ b) (allS os) n) ∧ Below w.heap.size w w'
theorem rfirst_calls (w : World) (A : Option Addr) (c : Nat) (os : List Ob) (n : ByteArray) (b : Int) (hos : OA w A os) (hc : os.length ≤ c) (hf : FewL os) :
 Calls Tryz.prog 51 #[.slice A os.length c, .string n, .int .i64 b] w (FstPost os n b w) := by
 have HO := Azz.mk hos
 have HF := Azz.mk hf
 have hol := hf.1
 have HB0 := Azz.mk ((Below.refl w.heap.size w).alloc (Nat.le_refl _) (.cells #[.int .i64 0, .int .i64 0, .int .i64 0] 49))
 have HP0 := Azz.mk (show PB0 _ w.heap.size from blk_new w (.cells #[.int .i64 0, .int .i64 0, .int .i64 0] 49))
 clear hos hf
 go_enter Tryz.func51, Tryz.ntmps51
 go_wp2
 go_loopw [8] (fun v wr => ∃ i : Nat, i ≤ os.length ∧ v = .int .i64 i ∧ Azz (firstS (bindQ b) (preS os i 0) n = none) ∧ Azz (PB0 wr w.heap.size) ∧ Azz (Below w.heap.size w wr)) (fun v _ => os.length - (RowKit.intOf v).toNat)
 case atStart => exact ⟨0, Nat.zero_le _, rfl, ⟨rfl⟩, HP0, HB0⟩
 case round =>
  clear HP0 HB0
  obtain ⟨i, hi, rfl, HN, HP, HB⟩ := hrel
  obtain ⟨w3, hw3⟩ : ∃ x, x = wr := ⟨_, rfl⟩
  subst hw3
  by_cases hlt : i < os.length
  ·obtain ⟨ad, A1, c1, e, x1, l1, C1⟩ := ob_at (Kd.C_below HO.out HB.out) hlt (by omega)
   cases e
   have hny : nsy os i ≤ 140 := (HF.out.2 i hlt).syms
   unfold nsy at hny
   obtain ⟨o, ho⟩ : ∃ o, obN os i = o := ⟨_, rfl⟩
   have HSe := Azz.mk ho
   rw [ho] at x1 l1 C1 hny
   have HC1 := Azz.mk C1
   have HX1 := Azz.mk x1
   have HHl := Azz.mk hlt
   have i0 : (0 : Int) ≤ (i : Int) := by omega
   have i1 : (i : Int) < os.length := by omega
   clear C1 ho x1
   go_wp2
   go_loopw [9] (fun v wk => ∃ k : Nat, k ≤ o.f1.length ∧ v = .int .i64 k ∧ Azz (firstS (bindQ b) (preS os i k) n = none) ∧ Azz (PB0 wk w.heap.size) ∧ Azz (Below w3.heap.size w3 wk)) (fun v _ => o.f1.length - (RowKit.intOf v).toNat)
   case atStart => exact ⟨0, Nat.zero_le _, rfl, HN, HP, ⟨Below.refl _ _⟩⟩
   case round =>
    clear HN HP
    obtain ⟨k, hk, rfl, HN, HP, HBk⟩ := hrel
    have x1 := kp1 HX1.out HBk.out
    have HB3 := Azz.mk (bTT HB.out HBk.out)
    by_cases hkl : k < o.f1.length
    ·obtain ⟨ad1, e, s0, s1, s2, s3⟩ := P.at_T85 (Kd.C_below HC1.out HBk.out) k (by omega) (by omega)
     cases e
     rw [Int.toNat_natCast] at s0 s1 s2 s3
     obtain ⟨s, hs⟩ : ∃ s, P.rd_T85 o.f1 (k : Int) = s := ⟨_, rfl⟩
     have HSy : Azz (syN os i k = s) := ⟨by unfold syN; rw [HSe.out]; exact hs⟩
     rw [hs] at s0 s1 s2 s3
     clear hs
     obtain ⟨nm, bd, sc, off⟩ := s
     dsimp only at s0 s1 s2 s3
     have k0 : (0 : Int) ≤ (k : Int) := by omega
     have k1 : (k : Int) < o.f1.length := by omega
     have z := cl4 (blk_new wr (.cells #[.string nm, .int .i64 bd, .int .i64 sc, .int .i64 off] 85))
     have HPa := Azz.mk (show PB0 _ w.heap.size from kAA HP.out (.cells #[.string nm, .int .i64 bd, .int .i64 sc, .int .i64 off] 85))
     have HBa := Azz.mk (bAA HBk.out (.cells #[.string nm, .int .i64 bd, .int .i64 sc, .int .i64 off] 85))
     obtain ⟨z0, z1, z2, z3⟩ := z
     have HNx : Azz (hit (bindQ b) n (i, k, ⟨nm, bd, sc, off⟩) = false → firstS (bindQ b) (preS os i (k + 1)) n = none) := ⟨fun h => by rw [preS_succ, firstS_snoc, HN.out, HSy.out, h]; rfl⟩
     have HFd : Azz (hit (bindQ b) n (i, k, ⟨nm, bd, sc, off⟩) = true → firstS (bindQ b) (allS os) n = some (i, k, ⟨nm, bd, sc, off⟩)) := ⟨fun h => first_old HHl.out (k := k + 1) (by unfold nsy; rw [HSe.out]; exact hkl) (by rw [preS_succ, firstS_snoc, HN.out, HSy.out, h]; rfl)⟩
     by_cases a1 : nm = n
     ·have b1 : (nm.toList == n.toList) = true := by rw [a1]; simp
      by_cases a2 : bd = b
      ·have b2 : (bd == b) = true := beq_iff_eq.mpr a2
       by_cases a3 : 0 ≤ sc
       ·have b3 : decide (0 ≤ sc) = true := decide_eq_true a3
        have HR := Azz.mk (HFd.out (by simp [hit, bindQ, a1, a2, a3]))
        obtain ⟨p0, p1, p2⟩ := cq3 HPa.out
        have pf := frzq HPa.out
        clear a1 a2 a3
        go_wp2
        refine bodyPost_ret (v := .tuple #[.agg #[.int .i64 (i : Int), .int .i64 sc, .int .i64 off], .bool true]) (by simp [results, Tryz.results51, go_sem, p0, p1, p2]) rfl ⟨by rw [HR.out]; rfl, ?_⟩
        exact below_set3 (bTT HB.out HBa.out) (Nat.le_refl _) _ _ _
       ·have b3 : decide (0 ≤ sc) = false := decide_eq_false a3
        have HR := Azz.mk (HNx.out (by simp [hit, bindQ]; intro _ h; omega))
        clear a1 a2 a3
        go_wp2
        go_roundw
        case rel => exact ⟨k + 1, by omega, by go_num, HR, HPa, HBa⟩
        case measure => simp [RowKit.intOf]; omega
      ·have b2 : (bd == b) = false := beq_eq_false_iff_ne.mpr a2
       have HR := Azz.mk (HNx.out (by simp [hit, bindQ, a2]))
       clear a1 a2
       go_wp2
       go_roundw
       case rel => exact ⟨k + 1, by omega, by go_num, HR, HPa, HBa⟩
       case measure => simp [RowKit.intOf]; omega
     ·have b1 : (nm.toList == n.toList) = false := beq_eq_false_iff_ne.mpr (fun h => a1 (list_ext h))
      have HR := Azz.mk (HNx.out (by simp [hit, a1]))
      clear a1
      go_wp2
      go_roundw
      case rel => exact ⟨k + 1, by omega, by go_num, HR, HPa, HBa⟩
      case measure => simp [RowKit.intOf]; omega
    ·obtain rfl : k = o.f1.length := by omega
     have en : nsy os i = o.f1.length := by unfold nsy; rw [HSe.out]
     have HNn : Azz (firstS (bindQ b) (preS os (i + 1) 0) n = none) := ⟨by rw [preS_next, en]; exact HN.out⟩
     clear en
     go_wp2
     go_roundw
     case rel => exact ⟨i + 1, by have := HHl.out; omega, by go_num, HNn, HP, HB3⟩
     case measure => have := HHl.out; simp [RowKit.intOf]; omega
  ·obtain rfl : i = os.length := by omega
   obtain ⟨p0, p1, p2⟩ := cq3 HP.out
   have pf := frzq HP.out
   go_wp2
   refine bodyPost_ret (v := .tuple #[.agg #[.int .i64 0, .int .i64 0, .int .i64 0], .bool false]) (by simp [results, Tryz.results51, go_sem, p0, p1, p2]) rfl ⟨by rw [allS_pre, HN.out]; rfl, ?_⟩
   exact below_set3 HB.out (Nat.le_refl _) _ _ _
theorem tgE_or {a b : Option Tg} (h : a.isSome = true) : tgE (a.or b) = tgE a := by cases a with | none => cases h | some t => rfl
theorem rfind_calls (w : World) (A : Option Addr) (c : Nat) (os : List Ob) (n : ByteArray) (hos : OA w A os) (hc : os.length ≤ c) (hok : AllOkO os) (hf : FewL os) :
 Calls Tryz.prog 52 #[.slice A os.length c, .string n] w fun e w' => e = tgE (placeT os n) ∧ Below w.heap.size w w' := by
 have HO := Azz.mk hos
 have HF := Azz.mk hf
 have HOk := Azz.mk hok
 clear hos hf hok
 have HB0 := Azz.mk ((Below.refl w.heap.size w).alloc (Nat.le_refl _) (.cells #[.int .i64 0, .int .i64 0, .int .i64 0] 49))
 go_enter Tryz.func52, Tryz.ntmps52
 go_wp2_with fail
 (with_reducible refine (rfirst_calls _ A c os n 2 (Kd.C_below HO.out HB0.out) hc HF.out).mono ?_)
 rintro e w2 ⟨rfl, hw⟩
 have HB2 := Azz.mk (bTT HB0.out hw)
 have HK2 := Azz.mk (kBB (blk_new w (.cells #[.int .i64 0, .int .i64 0, .int .i64 0] 49)) hw)
 clear hw
 rw [bindQ_strong]
 obtain ⟨r, hr⟩ : ∃ r, firstS strongQ (allS os) n = r := ⟨_, rfl⟩
 have HR := Azz.mk hr
 rw [hr]
 unfold tgE
 obtain ⟨⟨q1, q2, q3⟩, hq⟩ : ∃ q : Pl, (r.map plOf).getD ⟨0, 0, 0⟩ = q := ⟨_, rfl⟩
 obtain ⟨y, hy⟩ : ∃ y, r.isSome = y := ⟨_, rfl⟩
 rw [hq, hy]
 have HQ := Azz.mk (And.intro hq hy)
 unfold plV
 dsimp only
 have HBa := Azz.mk (bAA HB2.out (.cells #[.int .i64 q1, .int .i64 q2, .int .i64 q3] 49))
 have HKa := Azz.mk (kAA HK2.out (.cells #[.int .i64 q1, .int .i64 q2, .int .i64 q3] 49))
 have HPa := Azz.mk (blk_new w2 (.cells #[.int .i64 q1, .int .i64 q2, .int .i64 q3] 49))
 obtain ⟨y0, y1, y2⟩ := cq3 HKa.out
 have yf := frzq HKa.out
 clear hr hq hy
 cases y with
 | true =>
  have HE := Azz.mk (show (Ending.returned (.tuple #[.agg #[.int .i64 q1, .int .i64 q2, .int .i64 q3], .bool true]) : Ending) = tgE (placeT os n) by
   unfold placeT
   rw [HR.out, tgE_or HQ.out.2]
   unfold tgE
   rw [HQ.out.1, HQ.out.2]
   rfl)
  go_wp2
  refine bodyPost_ret (v := .tuple #[.agg #[.int .i64 q1, .int .i64 q2, .int .i64 q3], .bool true]) (by simp [results, Tryz.results52, go_sem, y0, y1, y2]) rfl ⟨HE.out, ?_⟩
  exact below_set3 HBa.out (Nat.le_refl _) _ _ _
 | false =>
  have HNo : Azz (r = none) := ⟨by cases r with | none => rfl | some t => exact absurd HQ.out.2 (by simp)⟩
  by_cases hz : n.toList = []
  ·have e0 : (n.toList == ([] : List UInt8)) = true := by rw [hz]; rfl
   have e1 : n.toList.isEmpty = true := by rw [hz]; rfl
   have HE := Azz.mk (show (Ending.returned (.tuple #[.agg #[.int .i64 q1, .int .i64 q2, .int .i64 q3], .bool false]) : Ending) = tgE (placeT os n) by
    unfold placeT
    rw [HR.out, HNo.out, weak_named HOk.out (size_of_nil hz)]
    have := HQ.out.1
    rw [HNo.out] at this
    unfold tgE
    show _ = Ending.returned (.tuple #[plV (((none : Option Tg).map plOf).getD ⟨0, 0, 0⟩), .bool false])
    rw [this]
    rfl)
   clear hz
   go_wp2
   refine bodyPost_ret (v := .tuple #[.agg #[.int .i64 q1, .int .i64 q2, .int .i64 q3], .bool false]) (by simp [results, Tryz.results52, go_sem, y0, y1, y2]) rfl ⟨HE.out, ?_⟩
   exact below_set3 HBa.out (Nat.le_refl _) _ _ _
  ·have e0 : (n.toList == ([] : List UInt8)) = false := beq_eq_false_iff_ne.mpr hz
   have e1 : n.toList.isEmpty = false := by cases h : n.toList with | nil => exact absurd h hz | cons a b => rfl
   clear hz y0 y1 y2 yf
   go_wp2_with fail
   (with_reducible refine (rfirst_calls _ A c os n 3 (Kd.C_below HO.out HBa.out) hc HF.out).mono ?_)
   rintro e w4 ⟨rfl, hw⟩
   have HB4 := Azz.mk (bTT HBa.out hw)
   have HK4 := Azz.mk (kBB HKa.out hw)
   clear hw
   rw [bindQ_weak]
   obtain ⟨t, ht⟩ : ∃ r, firstS weakQ (allS os) n = r := ⟨_, rfl⟩
   have HT := Azz.mk ht
   rw [ht]
   unfold tgE
   obtain ⟨⟨p1, p2, p3⟩, hq⟩ : ∃ q : Pl, (t.map plOf).getD ⟨0, 0, 0⟩ = q := ⟨_, rfl⟩
   obtain ⟨y, hy⟩ : ∃ y, t.isSome = y := ⟨_, rfl⟩
   rw [hq, hy]
   have HE := Azz.mk (show (Ending.returned (.tuple #[.agg #[.int .i64 p1, .int .i64 p2, .int .i64 p3], .bool y]) : Ending) = tgE (placeT os n) by
    unfold placeT
    rw [HR.out, HNo.out, HT.out]
    unfold tgE
    show _ = Ending.returned (.tuple #[plV ((t.map plOf).getD ⟨0, 0, 0⟩), .bool t.isSome])
    rw [hq, hy]
    rfl)
   unfold plV
   dsimp only
   have HBb := Azz.mk (bAA HB4.out (.cells #[.int .i64 p1, .int .i64 p2, .int .i64 p3] 49))
   have HKb := Azz.mk (kAA HK4.out (.cells #[.int .i64 p1, .int .i64 p2, .int .i64 p3] 49))
   obtain ⟨y0, y1, y2⟩ := cq3 HKb.out
   have yf := frzq HKb.out
   clear ht hq hy
   go_wp2
   refine bodyPost_ret (v := .tuple #[.agg #[.int .i64 p1, .int .i64 p2, .int .i64 p3], .bool y]) (by simp [results, Tryz.results52, go_sem, y0, y1, y2]) rfl ⟨HE.out, ?_⟩
   exact below_set3 HBb.out (Nat.le_refl _) _ _ _
theorem rFind_any (w : World) (A : Option Addr) (c : Nat) (os : List Ob) (n : ByteArray) (hos : OA w A os) (hc : os.length ≤ c) (hf : FewL os) :
 Calls Tryz.prog 23 #[.slice A os.length c, .string n] w (FindPost os n w) := by
 have HO := Azz.mk hos
 have HF := Azz.mk hf
 clear hos hf
 have HB0 := Azz.mk ((Below.refl w.heap.size w).alloc (Nat.le_refl _) (.cells #[.int .i64 0, .int .i64 0, .int .i64 0] 49))
 go_enter Tryz.func23, Tryz.ntmps23
 go_wp2_with fail
 (with_reducible refine (rchk_any _ A c os (Kd.C_below HO.out HB0.out) HF.out).mono ?_)
 rintro e w2 ⟨m, rfl, hm, hw⟩
 have HB2 := Azz.mk (bTT HB0.out hw)
 have HK2 := Azz.mk (kBB (blk_new w _) hw)
 have HM := Azz.mk hm
 obtain ⟨y0, y1, y2⟩ := cq3 HK2.out
 have yf := frzq HK2.out
 clear hw hm
 by_cases hm0 : m = 0
 ·subst hm0
  have HOk := Azz.mk (HM.out.ok.1 rfl)
  by_cases hz : n.toList = []
  ·have e0 : (n.toList == ([] : List UInt8)) = true := by rw [hz]; rfl
   have e1 : n.toList.isEmpty = true := by rw [hz]; rfl
   have hs := size_of_nil hz
   clear hz
   go_wp2
   refine bodyPost_ret (v := .tuple #[.agg #[.int .i64 0, .int .i64 0, .int .i64 0], .bool false]) (by simp [results, Tryz.results23, go_sem, y0, y1, y2]) rfl (find_no (fun h => by omega) ?_)
   exact below_set3 HB2.out (Nat.le_refl _) _ _ _
  ·have e0 : (n.toList == ([] : List UInt8)) = false := beq_eq_false_iff_ne.mpr hz
   have e1 : n.toList.isEmpty = false := by cases h : n.toList with | nil => exact absurd h hz | cons a b => rfl
   have hp : 0 < n.size := by
    rcases Nat.eq_zero_or_pos n.size with h | h
    ·exact absurd (nil_of_size h) hz
    ·exact h
   clear hz
   go_wp2_with fail
   (with_reducible refine (rfind_calls _ A c os n (Kd.C_below HO.out HB2.out) hc HOk.out HF.out).mono ?_)
   rintro e w3 ⟨rfl, hw⟩
   have HB3 := Azz.mk (bTT HB2.out hw)
   have HK3 := Azz.mk (kBB HK2.out hw)
   clear hw HK2 HB2 y0 y1 y2 yf
   obtain ⟨r, hr⟩ : ∃ r, placeT os n = r := ⟨_, rfl⟩
   have HR := Azz.mk hr
   rw [hr]
   unfold tgE
   obtain ⟨⟨q1, q2, q3⟩, hq⟩ : ∃ q : Pl, (r.map plOf).getD ⟨0, 0, 0⟩ = q := ⟨_, rfl⟩
   obtain ⟨y, hy⟩ : ∃ y, r.isSome = y := ⟨_, rfl⟩
   rw [hq, hy]
   have HQ := Azz.mk (And.intro hq hy)
   have c3 := fun o => cq3 (kAA HK3.out o)
   have f3 := fun o => frzq (kAA HK3.out o)
   obtain ⟨y0, y1, y2⟩ := c3 (.cells #[.int .i64 q1, .int .i64 q2, .int .i64 q3] 49)
   clear hr hq hy
   unfold plV
   go_wp2
   refine bodyPost_ret (v := .tuple #[.agg #[.int .i64 q1, .int .i64 q2, .int .i64 q3], .bool y]) (by simp [results, Tryz.results23, go_sem, y0, y1, y2]) rfl ⟨r.map plOf, .inl ⟨HOk.out, hp, by unfold placeS; rw [HR.out]⟩, by rw [HQ.out.1, ← HQ.out.2]; cases r <;> rfl, ?_⟩
   exact below_set3 (HB3.out.alloc HB3.out.size _) (Nat.le_refl _) _ _ _
 ·have hne : (m != 0) = true := bne_iff_ne.mpr hm0
  go_wp2
  refine bodyPost_ret (v := .tuple #[.agg #[.int .i64 0, .int .i64 0, .int .i64 0], .bool false]) (by simp [results, Tryz.results23, go_sem, y0, y1, y2]) rfl (find_no (fun h => hm0 (HM.out.ok.2 h.1)) ?_)
  exact below_set3 HB2.out (Nat.le_refl _) _ _ _
end Go.Proofs.YtngmipfodjgmmaaGreatDoor.Pure
end
section
namespace Go.Proofs.YtngmipfodjgmmaaGreatDoor.Pure
open Go Go.RowKit Go.Lib Go.Shelf YtngmipfodjgmmaaGreatDoorW.PrintWords YtngmipfodjgmmaaGreatDoorW.PrintLast YtngmipfodjgmmaaGreatDoorW.PrintMore
theorem R_app {P : Program} {ops : Array Oper} {rest : List Oper} {o : Oper} {a : Act} {Q : Exit → Act → World → Prop} {α : Type} (d : Kd α) {w0 W' : World} (W : World) (base : Nat) (hgd : o.guard = none) (s x : Operand) (t e : TypeId) (z : Value) (bytes : Nat)
 (ho : o.op = .call { callee := .builtin .append, args := #[s, x], argTypes := #[t, t] })
 (ht : P.underlying t = some (.slice e)) (hinfo : (P.info? e).map (fun i => (i.zero, i.size, i.bytes)) = some (some z, d.sz, bytes)) (hz : z.cells.size = d.sz) (hs0 : 0 < d.sz) (hb0 : 0 < bytes)
 (v : Value) (xs : List α) (p : α) (cs : List Value) (ok okp : Nat → Prop) (hs : a.eval s = v) (hx : a.eval x = .slice (some ⟨W.heap.size, 0, none⟩) 1 1) (hW : W' = W.alloc (.cells cs.toArray e)) (hp : d.M W base okp p cs) (hokp : ∀ k, okp k → ok k ∧ some k ≠ v.ownBlock) (hfresh : ∀ k, W.heap.size ≤ k → ok k)
 (HO : d.R e W base ok v xs) (HB : Below base w0 W) (hbase : base ≤ W.heap.size) (hl : (xs.length + 1) * bytes ≤ 140737488355328)
 (h : ∀ v1 w1, d.R e w1 base ok v1 (xs ++ [p]) → Below base w0 w1 → W.grownBy w1 v.ownBlock → wpList P ops Q rest (a.put o.dst v1) w1) :
 wpList P ops Q (o :: rest) a W' := by
 subst hW
 exact Kd.R_append d base hgd s x t e z bytes ho ht hinfo hz hs0 hb0 v xs p cs ok okp hs hx hp hokp hfresh HO HB hbase hl (fun v1 w1 h1 h2 h3 _ => h v1 w1 h1 h2 h3)
end Go.Proofs.YtngmipfodjgmmaaGreatDoor.Pure
end
