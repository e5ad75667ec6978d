/- Walks and plain laws of this claim, a part. -/
import Derived.Test.YtngmipfodjgmmaaGreatDoorEs62
import Derived.Test.YtngmipfodjgmmaaGreatDoorEs70
section
namespace Go.Proofs.YtngmipfodjgmmaaGreatDoor.Pure
open Go Go.RowKit Go.Proofs.YtngmipfodjgmmaaGreatDoorW.PrintWords Go.Proofs.YtngmipfodjgmmaaGreatDoorW.PrintLast Go.Proofs.YtngmipfodjgmmaaGreatDoorW.PrintMore
set_option linter.unusedVariables false
set_option linter.unusedSimpArgs false
theorem succ_small (i : Nat) (h : i ≤ 1000000) : wrap64 ((i : Int) + 1) = ((i + 1 : Nat) : Int) := by rw [wrap64_small _ (by omega) (by omega)]; rfl
theorem big_obj (o : Ob) : ∃ b, Ev (fun k => P.cleatref19_Big.f k o.f0 o.f1) b ∧ (b = false → FewO o) := by
 have fin : ∀ (i : Nat), EndsP (fun k => P.cleatref19_Big.j3 k (i : Int) false o.f0 o.f1) (fun b => b = false → o.f0.length ≤ 40 ∧ o.f1.length ≤ 140) := fun i =>
  EndsP.step (fun k => P.cleatref19_Big.j3.eq_2 _ _ _ _ _) (EndsP.ite (fun h => absurd h (by decide)) fun _ => EndsP.ite (fun c => EndsP.now _ fun h => absurd h (by decide)) fun c => EndsP.now _ fun h => by
   have := of_decide_eq_false h
   omega)
 have syms : ∀ (d i : Nat), i + d = min o.f1.length 141 → EndsP (fun k => P.cleatref19_Big.l1 k (i : Int) o.f0 o.f1) (fun b => b = false → o.f0.length ≤ 40 ∧ o.f1.length ≤ 140 ∧ ∀ q, i ≤ q → q < o.f1.length → (smN o q).f0.size ≤ 100) := by
  intro d
  induction d with
  | zero =>
   intro i hi
   refine EndsP.step (fun k => P.cleatref19_Big.l1.eq_2 _ _ _ _) (EndsP.ite (fun h => ?_) fun h => ?_)
   ·rw [decide_eq_false (show ¬ (o.f1.length : Int) ≤ 140 by omega)]
    obtain ⟨b, hb, h⟩ := fin i
    exact ⟨b, hb, fun e => by have := h e; exact ⟨this.1, this.2, fun q a k => by omega⟩⟩
   ·obtain ⟨b, hb, h⟩ := fin i
    exact ⟨b, hb, fun e => by have := h e; exact ⟨this.1, this.2, fun q a k => by omega⟩⟩
  | succ d ih =>
   intro i hi
   refine EndsP.step (fun k => P.cleatref19_Big.l1.eq_2 _ _ _ _) (EndsP.ite (fun _ => ?_) fun h => absurd (by omega) h)
   by_cases c : o.f1.length ≤ 140
   ·rw [decide_eq_true (show (o.f1.length : Int) ≤ 140 by omega)]
    refine EndsP.step (fun k => P.cleatref19_Big.j3.eq_2 _ _ _ _ _) (EndsP.ite (fun _ => EndsP.ite (fun _ => EndsP.ite (fun _ => EndsP.ite (fun c2 => EndsP.now _ fun h => absurd h (by decide)) fun c2 => ?_) fun h => absurd (by omega) h) fun h => absurd (by omega) h) fun h => absurd rfl h)
    rw [succ_small i (by omega)]
    obtain ⟨b, hb, h⟩ := ih (i + 1) (by omega)
    refine ⟨b, hb, fun e => ⟨(h e).1, (h e).2.1, fun q a k => ?_⟩⟩
    rcases Nat.eq_or_lt_of_le a with rfl | a
    ·unfold smN
     omega
    ·exact (h e).2.2 q a k
   ·rw [decide_eq_false (show ¬ (o.f1.length : Int) ≤ 140 by omega)]
    obtain ⟨b, hb, h⟩ := fin i
    exact ⟨b, hb, fun e => by have := h e; exact ⟨this.1, this.2, fun q a k => by omega⟩⟩
 have fin2 : ∀ (i : Nat), EndsP (fun k => P.cleatref19_Big.j1 k (i : Int) false o.f0 o.f1) (fun b => b = false → o.f0.length ≤ 40 ∧ o.f1.length ≤ 140 ∧ ∀ q, q < o.f1.length → (smN o q).f0.size ≤ 100) := fun i => by
  refine EndsP.step (fun k => P.cleatref19_Big.j1.eq_2 _ _ _ _ _) (EndsP.ite (fun h => absurd h (by decide)) fun _ => ?_)
  obtain ⟨b, hb, h⟩ := syms (min o.f1.length 141) 0 (by omega)
  exact ⟨b, hb, fun e => ⟨(h e).1, (h e).2.1, fun q k => (h e).2.2 q (Nat.zero_le _) k⟩⟩
 have secs : ∀ (d i : Nat), i + d = min o.f0.length 41 → EndsP (fun k => P.cleatref19_Big.l0 k (i : Int) o.f0 o.f1) (fun b => b = false → (o.f0.length ≤ 40 ∧ o.f1.length ≤ 140 ∧ ∀ q, q < o.f1.length → (smN o q).f0.size ≤ 100) ∧ ∀ q, i ≤ q → q < o.f0.length → (seN o q).f4.size ≤ 5000 ∧ (seN o q).f5.length ≤ 80 ∧ (seN o q).f0.size ≤ 100) := by
  intro d
  induction d with
  | zero =>
   intro i hi
   refine EndsP.step (fun k => P.cleatref19_Big.l0.eq_2 _ _ _ _) (EndsP.ite (fun h => ?_) fun h => ?_)
   ·rw [decide_eq_false (show ¬ (o.f0.length : Int) ≤ 40 by omega)]
    obtain ⟨b, hb, h⟩ := fin2 i
    exact ⟨b, hb, fun e => ⟨h e, fun q a k => by have := h e; omega⟩⟩
   ·obtain ⟨b, hb, h⟩ := fin2 i
    exact ⟨b, hb, fun e => ⟨h e, fun q a k => by have := h e; omega⟩⟩
  | succ d ih =>
   intro i hi
   refine EndsP.step (fun k => P.cleatref19_Big.l0.eq_2 _ _ _ _) (EndsP.ite (fun _ => ?_) fun h => absurd (by omega) h)
   by_cases c : o.f0.length ≤ 40
   ·rw [decide_eq_true (show (o.f0.length : Int) ≤ 40 by omega)]
    refine EndsP.step (fun k => P.cleatref19_Big.j1.eq_2 _ _ _ _ _) (EndsP.ite (fun _ => EndsP.ite (fun _ => EndsP.ite (fun _ => ?_) fun h => absurd (by omega) h) fun h => absurd (by omega) h) fun h => absurd rfl h)
    refine EndsP.bind (q := fun t => t = false → (seN o i).f4.size ≤ 5000 ∧ (seN o i).f5.length ≤ 80 ∧ (seN o i).f0.size ≤ 100) ?_ fun t _ ht => EndsP.ite (fun _ => EndsP.now _ fun h => absurd h (by decide)) fun c => ?_
    ·show EndsP (fun _ => P.cleatref16_Big.f (seN o i).f0 (seN o i).f1 (seN o i).f2 (seN o i).f3 (seN o i).f4 (seN o i).f5) _
     unfold P.cleatref16_Big.f
     refine EndsP.ite (fun _ => EndsP.now _ fun h => absurd h (by decide)) fun c1 => EndsP.ite (fun _ => EndsP.now _ fun h => absurd h (by decide)) fun c2 => EndsP.now _ fun h => ?_
     have := of_decide_eq_false h
     omega
    ·rw [succ_small i (by omega)]
     obtain ⟨b, hb, h⟩ := ih (i + 1) (by omega)
     refine ⟨b, hb, fun e => ⟨(h e).1, fun q a k => ?_⟩⟩
     rcases Nat.eq_or_lt_of_le a with rfl | a
     ·exact ht (by simpa using c)
     ·exact (h e).2 q a k
   ·rw [decide_eq_false (show ¬ (o.f0.length : Int) ≤ 40 by omega)]
    obtain ⟨b, hb, h⟩ := fin2 i
    exact ⟨b, hb, fun e => ⟨h e, fun q a k => by have := h e; omega⟩⟩
 obtain ⟨b, hb, h⟩ := secs (min o.f0.length 41) 0 (by omega)
 exact ⟨b, hb, fun e => ⟨(h e).1.1, (h e).1.2.1, fun i hi => (h e).2 i (Nat.zero_le _) hi, (h e).1.2.2⟩⟩
theorem big_objs (os : List Ob) : ∃ b, Ev (fun k => P.cleatref20_Big.f k os) b ∧ (b = false → FewL os) := by
 have fin : ∀ (i : Nat), EndsP (fun k => P.cleatref20_Big.j1 k os (i : Int) false) (fun b => b = false → os.length ≤ 12) := fun i =>
  EndsP.step (fun k => P.cleatref20_Big.j1.eq_2 _ _ _ _) (EndsP.ite (fun h => absurd h (by decide)) fun _ => EndsP.now _ fun h => by
   have := of_decide_eq_false h
   omega)
 have go : ∀ (d i : Nat), i + d = min os.length 13 → EndsP (fun k => P.cleatref20_Big.l0 k os (i : Int)) (fun b => b = false → os.length ≤ 12 ∧ ∀ q, i ≤ q → q < os.length → FewO (obN os q)) := by
  intro d
  induction d with
  | zero =>
   intro i hi
   refine EndsP.step (fun k => P.cleatref20_Big.l0.eq_2 _ _ _) (EndsP.ite (fun h => ?_) fun h => ?_)
   ·rw [decide_eq_false (show ¬ (os.length : Int) ≤ 12 by omega)]
    obtain ⟨b, hb, h⟩ := fin i
    exact ⟨b, hb, fun e => ⟨h e, fun q a k => by have := h e; omega⟩⟩
   ·obtain ⟨b, hb, h⟩ := fin i
    exact ⟨b, hb, fun e => ⟨h e, fun q a k => by have := h e; omega⟩⟩
  | succ d ih =>
   intro i hi
   refine EndsP.step (fun k => P.cleatref20_Big.l0.eq_2 _ _ _) (EndsP.ite (fun _ => ?_) fun h => absurd (by omega) h)
   by_cases c : os.length ≤ 12
   ·rw [decide_eq_true (show (os.length : Int) ≤ 12 by omega)]
    refine EndsP.step (fun k => P.cleatref20_Big.j1.eq_2 _ _ _ _) (EndsP.ite (fun _ => EndsP.ite (fun _ => EndsP.ite (fun _ => ?_) fun h => absurd (by omega) h) fun h => absurd (by omega) h) fun h => absurd rfl h)
    obtain ⟨b0, hb0, h0⟩ := big_obj (obN os i)
    refine EndsP.bind (q := fun t => t = false → FewO (obN os i)) ⟨b0, hb0, h0⟩ fun t _ ht => EndsP.ite (fun _ => EndsP.now _ fun h => absurd h (by decide)) fun c => ?_
    rw [succ_small i (by omega)]
    obtain ⟨b, hb, h⟩ := ih (i + 1) (by omega)
    refine ⟨b, hb, fun e => ⟨(h e).1, fun q a k => ?_⟩⟩
    rcases Nat.eq_or_lt_of_le a with rfl | a
    ·exact ht (by simpa using c)
    ·exact (h e).2 q a k
   ·rw [decide_eq_false (show ¬ (os.length : Int) ≤ 12 by omega)]
    obtain ⟨b, hb, h⟩ := fin i
    exact ⟨b, hb, fun e => ⟨h e, fun q a k => by have := h e; omega⟩⟩
 obtain ⟨b, hb, h⟩ := go (min os.length 13) 0 (by omega)
 exact ⟨b, hb, fun e => ⟨(h e).1, fun i hi => (h e).2 i (Nat.zero_le _) hi⟩⟩
theorem bigL_calls (os : List Ob) (W : World) (A : Option Addr) (c : Nat) (h : Kd.C P.k68 W A os.length os) (hc : os.length ≤ c) :
 ∃ b, Calls Tryz.prog 19 #[.slice A os.length c] W (fun x w' => x = .returned (.bool b) ∧ Below W.heap.size W w') ∧ (b = false → FewL os) := by
 obtain ⟨b, ⟨K, hK⟩, hb⟩ := big_objs os
 exact ⟨b, P.cleatref20_Big.calls K A c os b W h hc (hK K (Nat.le_refl _)), hb⟩
end Go.Proofs.YtngmipfodjgmmaaGreatDoor.Pure
end
section
namespace Go.Proofs.YtngmipfodjgmmaaGreatDoor.Pure
open Go Go.RowKit Go.Lib Go.Shelf Go.Maps Go.Proofs.YtngmipfodjgmmaaGreatDoorW.PrintWords Go.Proofs.YtngmipfodjgmmaaGreatDoorW.PrintLast Go.Proofs.YtngmipfodjgmmaaGreatDoorW.PrintMore
open P (Glob)
set_option linter.unusedVariables false
set_option linter.unusedSimpArgs false
def ObV (w : World) (o : Ob) (A0 A1 : Option Addr) (c0 c1 : Nat) : Prop := SeA w A0 o.f0 ∧ o.f0.length ≤ c0 ∧ SyA w A1 o.f1 ∧ o.f1.length ≤ c1
theorem ObV.below {w w1 : World} {o A0 A1 c0 c1} (h : ObV w o A0 A1 c0 c1) (hb : Below w.heap.size w w1) : ObV w1 o A0 A1 c0 c1 := ⟨Kd.C_below h.1 hb, h.2.1, Kd.C_below h.2.2.1 hb, h.2.2.2⟩
theorem ObV.K {w : World} {o A0 A1 c0 c1} (h : ObV w o A0 A1 c0 c1) : P.k68.K w o [.slice A0 o.f0.length c0, .slice A1 o.f1.length c1] := P.k68_mk w o h.2.1 h.1 h.2.2.2 h.2.2.1
end Go.Proofs.YtngmipfodjgmmaaGreatDoor.Pure
end
section
namespace Go.Proofs.YtngmipfodjgmmaaGreatDoor.Pure
open Go Go.RowKit Go.Lib Go.Shelf Go.Proofs.YtngmipfodjgmmaaGreatDoorW.PrintWords Go.Proofs.YtngmipfodjgmmaaGreatDoorW.PrintLast Go.Proofs.YtngmipfodjgmmaaGreatDoorW.PrintMore
open P (Glob UA)
set_option linter.unusedVariables false
set_option linter.unusedSimpArgs false
def GuPost (us : List P.S39) (w : World) (e : Ending) (w' : World) : Prop := ∃ b, e = .returned (.bool b) ∧ (b = true ↔ UOk us) ∧ Below w.heap.size w w'
set_option maxRecDepth 100000 in
set_option maxHeartbeats 8000000 in
theorem gis_units (us : List P.S39) (A : Option Addr) (c : Nat) (w : World) (hG : Glob w) (hu : UA w A us) (hc : us.length ≤ c) (hn : Narrow us) : Calls Tryz.prog 33 #[.slice A us.length c] w (GuPost us w) := by
 have HU := Azz.mk hu
 have HN := Azz.mk hn
 have HG := Azz.mk hG
 clear hu hn hG
 by_cases hb : us.length ≤ 256
 ·have b0 : decide ((256 : Int) < us.length) = false := decide_eq_false (by omega)
  go_enter Tryz.func33, Tryz.ntmps33
  go_wp2
  go_loopw [12] (fun v wr => ∃ i : Nat, i ≤ us.length ∧ v = .int .i64 i ∧ Azz (∀ q, q < i → (h : q < us.length) → IsB (secOf us[q]) true ∧ ∀ j, (h2 : j < us[q].f5.length) → us[q].f5[j].f2 < us.length) ∧ Azz (Below w.heap.size w wr)) (fun v _ => us.length - (RowKit.intOf v).toNat)
  case atStart => exact ⟨0, Nat.zero_le _, rfl, ⟨fun q h => absurd h (Nat.not_lt_zero _)⟩, ⟨Below.refl _ _⟩⟩
  case round =>
   obtain ⟨i, hi, rfl, HQ, HB⟩ := hrel
   by_cases hlt : i < us.length
   ·obtain ⟨ad, A5, c5, ea, y0, y1, y2, y3, y4, y5, l5, g5⟩ := P.at_T39 (Kd.C_below HU.out HB.out) i (by omega) (by omega)
    subst ea
    rw [Int.toNat_natCast] at y0 y1 y2 y3 y4 y5
    have e2 : P.rd_T39 us (i : Int) = us[i] := rd_get _ _ _ hlt
    obtain ⟨u, hu⟩ : ∃ u, us[i] = u := ⟨_, rfl⟩
    rw [e2, hu] at y0 y1 y2 y3 y4 y5 l5 g5
    have hnw : u.f5.length ≤ 100000 := by rw [← hu]; exact HN.out hb i hlt
    have HUe := Azz.mk hu
    have HBa := Azz.mk (bAA HB.out (.cells #[.string u.f0, .int .i64 u.f1, .bool u.f2, .int .i64 u.f3, .string u.f4, .slice A5 u.f5.length c5] 39))
    have HX := Azz.mk (blk_new wr (.cells #[.string u.f0, .int .i64 u.f1, .bool u.f2, .int .i64 u.f3, .string u.f4, .slice A5 u.f5.length c5] 39))
    have HC5 := Azz.mk (Kd.C_below g5 (bAA (Below.refl _ wr) (.cells #[.string u.f0, .int .i64 u.f1, .bool u.f2, .int .i64 u.f3, .string u.f4, .slice A5 u.f5.length c5] 39)))
    have i0 : (0 : Int) ≤ (i : Int) := by omega
    have i1 : (i : Int) < us.length := by omega
    clear e2 hu g5
    go_wp2_with fail
    (with_reducible refine (section_any u (by omega) _ A5 c5 HC5.out l5).mono ?_)
    rintro en w2 ⟨A', c', rfl, hl', hC', hbw⟩
    have HB2 := Azz.mk (bTT HBa.out hbw)
    replace HX := Azz.mk (kBB HX.out hbw)
    replace HC5 := Azz.mk (Kd.C_below HC5.out hbw)
    have HIs := pis_sec (secOf u) A' c' w2 (HG.out.below HB2.out) (by simpa [secOf] using hl') (by simpa [secOf] using hC')
    have HIs := Azz.mk (show Calls Tryz.prog 58 #[.agg #[.string u.f0, .int .i64 u.f1, .bool u.f2, .int .i64 u.f3, .string u.f4, .slice A' u.f5.length c']] w2 (RIsPost (secOf u) w2) from by simpa [secOf] using HIs)
    clear hC' hl' hbw HB HBa y0 y1 y2 y3 y4 y5
    go_wp2_with fail
    (with_reducible refine HIs.out.mono ?_)
    rintro en w3 ⟨b, rfl, hib, hbw⟩
    have HB3 := Azz.mk (bTT HB2.out hbw)
    obtain ⟨q0, q1, q2, q3, q4, q5⟩ := cl6 (kBB HX.out hbw)
    clear q0 q1 q2 q3 q4 HX
    replace HC5 := Azz.mk (Kd.C_below HC5.out hbw)
    have HIb := Azz.mk hib
    clear hbw HB2 hib HIs
    cases b with
    | false =>
     go_wp2
     go_ret
     refine ⟨false, rfl, ⟨fun h => absurd h (by decide), fun h => ?_⟩, HB3.out⟩
     have := (h.2 i hlt).1
     rw [HUe.out] at this
     exact absurd (isB_one HIb.out this) (by decide)
    | true =>
     go_wp2
     go_loopw [23] (fun v wr => ∃ j : Nat, j ≤ u.f5.length ∧ v = .int .i64 j ∧ Azz (∀ q, q < j → (h : q < u.f5.length) → u.f5[q].f2 < us.length) ∧ Azz (Below w3.heap.size w3 wr)) (fun v _ => u.f5.length - (RowKit.intOf v).toNat)
     case atStart => exact ⟨0, Nat.zero_le _, rfl, ⟨fun q h => absurd h (Nat.not_lt_zero _)⟩, ⟨Below.refl _ _⟩⟩
     case round =>
      obtain ⟨j, hj, rfl, HJ, HBj⟩ := hrel
      by_cases hjl : j < u.f5.length
      ·obtain ⟨ad5, ea, x0, x1, x2, x3⟩ := P.at_T80 (Kd.C_below HC5.out HBj.out) j (by omega) (by omega)
       subst ea
       rw [Int.toNat_natCast] at x0 x1 x2 x3
       have e2 : P.rd_T80 u.f5 (j : Int) = u.f5[j] := rd_get _ _ _ hjl
       obtain ⟨z, hz⟩ : ∃ z, u.f5[j].f2 = z := ⟨_, rfl⟩
       rw [e2, hz] at x2
       have hz0 : 0 ≤ z := by
        have hR := (is_iff _).1 HIb.out
        have := rels_syms _ _ _ _ hR.each (relOf u.f5[j]) (List.mem_map_of_mem (List.getElem_mem hjl))
        rw [← hz]
        exact this
       have HZ := Azz.mk hz
       have k0 : (0 : Int) ≤ (j : Int) := by omega
       have k1 : (j : Int) < u.f5.length := by omega
       have b1 : decide (z < 0) = false := decide_eq_false (by omega)
       clear e2 hz
       by_cases c1 : (us.length : Int) ≤ z
       ·have b2 : decide ((us.length : Int) ≤ z) = true := decide_eq_true c1
        have HC1 := Azz.mk c1
        clear c1 hz0
        go_wp2
        go_ret
        refine ⟨false, rfl, ⟨fun h => absurd h (by decide), fun h => ?_⟩, bAA (bTT HB3.out HBj.out) _⟩
        have hx : ∀ v, us[i] = v → (h2 : j < v.f5.length) → v.f5[j].f2 < us.length := fun v hv h2 => by subst hv; exact (h.2 i hlt).2 j h2
        have := hx u HUe.out hjl
        rw [HZ.out] at this
        have := HC1.out
        omega
       ·have b2 : decide ((us.length : Int) ≤ z) = false := decide_eq_false c1
        have HC1 := Azz.mk c1
        clear c1 hz0
        go_wp2
        go_roundw
        case rel =>
         refine ⟨j + 1, by omega, by go_num, ⟨fun q hq h => ?_⟩, ⟨bAA HBj.out _⟩⟩
         rcases Nat.eq_or_lt_of_le (Nat.le_of_lt_succ hq) with rfl | hq
         ·rw [HZ.out]
          have := HC1.out
          omega
         ·exact HJ.out q hq h
        case measure => simp [RowKit.intOf]; omega
      ·obtain rfl : j = u.f5.length := by omega
       go_wp2
       go_roundw
       case rel =>
        refine ⟨i + 1, by omega, by go_num, ⟨fun q hq h => ?_⟩, ⟨bTT HB3.out HBj.out⟩⟩
        rcases Nat.eq_or_lt_of_le (Nat.le_of_lt_succ hq) with rfl | hq
        ·have hx : ∀ v, us[q] = v → v = u → IsB (secOf v) true ∧ ∀ j, (h2 : j < v.f5.length) → v.f5[j].f2 < us.length := fun v hv hv2 => by subst hv2; exact ⟨HIb.out, fun j hj => HJ.out j hj hj⟩
         exact hx _ rfl HUe.out
        ·exact HQ.out q hq h
       case measure => simp [RowKit.intOf]; omega
   ·obtain rfl : i = us.length := by omega
    go_wp2
    go_ret
    exact ⟨true, rfl, ⟨fun _ => ⟨hb, fun q h => HQ.out q h h⟩, fun _ => rfl⟩, HB.out⟩
 ·have b0 : decide ((256 : Int) < us.length) = true := decide_eq_true (by omega)
  go_enter Tryz.func33, Tryz.ntmps33
  go_wp2
  go_ret
  exact ⟨false, rfl, ⟨fun h => absurd h (by decide), fun h => absurd h.1 hb⟩, Below.refl _ _⟩
/-- 'graph.Is' answers what the plain function says. -/
theorem isU_calls {us : List P.S39} {b : Bool} (hp : IsU us b) (W : World) (A : Option Addr) (c : Nat) (hG : Glob W) (h : UA W A us) (hc : us.length ≤ c) (hn : Narrow us) :
 Calls Tryz.prog 33 #[.slice A us.length c] W fun x w' => x = .returned (.bool b) ∧ Below W.heap.size W w' := by
 refine (gis_units us A c W hG h hc hn).mono ?_
 rintro e w' ⟨b', rfl, hi, hb⟩
 obtain ⟨b2, h2, hi2⟩ := isU_ends us hn
 have := isU_one hp h2
 subst this
 have e : b' = b := by cases b <;> cases b' <;> simp_all
 subst e
 exact ⟨rfl, hb⟩
end Go.Proofs.YtngmipfodjgmmaaGreatDoor.Pure
end
