/- Walks and plain laws of this claim, a part. -/
import Derived.Test.YtngmipfodjgmmaaDoorFh71
import Derived.Test.YtngmipfodjgmmaaDoorFh70
section
namespace Go.Proofs.YtngmipfodjgmmaaDoor.Pure
open Go Go.RowKit Go.Proofs.YtngmipfodjgmmaaDoorW.PrintWords Go.Proofs.YtngmipfodjgmmaaDoorW.PrintLast Go.Proofs.YtngmipfodjgmmaaDoorW.PrintMore
open P (UA)
set_option linter.unusedVariables false
set_option linter.unusedSimpArgs false
theorem sec_ev (u : P.S36) (hr : u.f5.length ≤ 4398046510976) : Ev (fun k => P.cleatref21_Sec.f k u.f0 u.f1 u.f2 u.f3 u.f4 u.f5) (u.f0, u.f1, u.f2, u.f3, u.f4, u.f5.map relOf) := by
 have go : ∀ (d i : Nat), i + d = u.f5.length → Ev (fun k => P.cleatref21_Sec.l0 k (i : Int) u.f0 u.f1 u.f2 u.f3 u.f4 u.f5 u.f0 u.f1 u.f2 u.f3 u.f4 ((u.f5.take i).map relOf)) (u.f0, u.f1, u.f2, u.f3, u.f4, u.f5.map relOf) := by
  intro d
  induction d with
  | zero =>
   intro i hi
   rw [List.take_of_length_le (by omega)]
   exact Ev.step (fun k => P.cleatref21_Sec.l0.eq_2 _ _ _ _ _ _ _ _ _ _ _ _ _ _) (Ev.congr (fun k => if_neg (by omega)) (Ev.now _))
  | succ d ih =>
   intro i hi
   have e1 : wrap64 ((i : Int) + 1) = ((i + 1 : Nat) : Int) := by rw [wrap64_small _ (by omega) (by omega)]; rfl
   refine Ev.step (fun k => P.cleatref21_Sec.l0.eq_2 _ _ _ _ _ _ _ _ _ _ _ _ _ _) (Ev.congr (fun k => if_pos (by omega)) (Ev.congr (fun k => if_pos (by omega)) (Ev.congr (fun k => if_pos (by simp; omega)) ?_)))
   rw [e1]
   have := ih (i + 1) (by omega)
   rw [List.take_succ_eq_append_getElem (by omega), List.map_append, List.map_singleton] at this
   have e2 : P.rd_T64 u.f5 (i : Int) = u.f5[i] := rd_get _ _ _ (by omega)
   rw [e2]
   exact this
 exact go u.f5.length 0 (by omega)
/-- No unit's row is more than memory holds. -/
def Held (us : List P.S36) : Prop := us.length ≤ 2000000000000 ∧ ∀ u ∈ us, u.f5.length ≤ 4398046510976
/-- Units that are looked at: few and small; or too many. -/
def Few (us : List P.S36) : Prop := us.length ≤ 300 ∧ (us.length ≤ 256 → us.length ≤ 40 ∧ ∀ u ∈ us, u.f4.size ≤ 5000 ∧ u.f5.length ≤ 80 ∧ u.f0.size ≤ 100)
theorem big_units (us : List P.S36) (hh : Held us) : ∃ b, Ev (fun k => P.cleatref21_Big.f k us) b ∧ (b = false → Few us) := by
 have fin : ∀ (i : Nat), EndsP (fun k => P.cleatref21_Big.j1 k us (i : Int) false) (fun b => b = false → us.length ≤ 40 ∨ (256 < us.length ∧ us.length ≤ 300)) := by
  intro i
  refine EndsP.step (fun k => P.cleatref21_Big.j1.eq_2 _ _ _ _) (EndsP.ite (fun h => absurd h (by decide)) fun _ => EndsP.ite (fun c => EndsP.ite (fun c2 => EndsP.now _ fun h => absurd h (by decide)) fun c2 => EndsP.now _ fun h => ?_) fun c => EndsP.now _ fun h => ?_)
  ·have := of_decide_eq_false h
   omega
  ·omega
 have go : ∀ (d i : Nat), i + d = us.length → EndsP (fun k => P.cleatref21_Big.l0 k us (i : Int)) (fun b => b = false → us.length ≤ 300 ∧ (us.length ≤ 256 → us.length ≤ 40 ∧ ∀ q, i ≤ q → (h : q < us.length) → us[q].f4.size ≤ 5000 ∧ us[q].f5.length ≤ 80 ∧ us[q].f0.size ≤ 100)) := by
  intro d
  induction d with
  | zero =>
   intro i hi
   refine EndsP.step (fun k => P.cleatref21_Big.l0.eq_2 _ _ _) (EndsP.ite (fun h => absurd h (by omega)) fun _ => ?_)
   obtain ⟨b, hb, h⟩ := fin i
   exact ⟨b, hb, fun e => ⟨by have := h e; omega, fun _ => ⟨by have := h e; omega, fun q a k => by omega⟩⟩⟩
  | succ d ih =>
   intro i hi
   have hil : i < us.length := by omega
   have e1 : wrap64 ((i : Int) + 1) = ((i + 1 : Nat) : Int) := by rw [wrap64_small _ (by have := hh.1; omega) (by have := hh.1; omega)]; rfl
   have e2 : P.rd_T36 us (i : Int) = us[i] := rd_get _ _ _ hil
   refine EndsP.step (fun k => P.cleatref21_Big.l0.eq_2 _ _ _) (EndsP.ite (fun _ => ?_) fun h => absurd (by omega) h)
   by_cases c40 : us.length ≤ 40
   ·rw [decide_eq_true (show (us.length : Int) ≤ 40 by omega)]
    refine EndsP.step (fun k => P.cleatref21_Big.j1.eq_2 _ _ _ _) (EndsP.ite (fun _ => EndsP.ite (fun _ => EndsP.ite (fun _ => ?_) fun h => absurd (by omega) h) fun h => absurd (by omega) h) fun h => absurd rfl h)
    rw [e2]
    refine EndsP.bind (q := fun t => t = (us[i].f0, us[i].f1, us[i].f2, us[i].f3, us[i].f4, us[i].f5.map relOf)) ⟨_, sec_ev us[i] (hh.2 _ (List.getElem_mem hil)), rfl⟩ fun t _ ht => ?_
    subst ht
    refine EndsP.bind (q := fun t => t = false → us[i].f4.size ≤ 5000 ∧ us[i].f5.length ≤ 80 ∧ us[i].f0.size ≤ 100) ?_ fun t _ ht => EndsP.ite (fun _ => EndsP.now _ fun h => absurd h (by decide)) fun c => ?_
    ·show EndsP (fun _ => P.cleatref16_Big.f us[i].f0 us[i].f1 us[i].f2 us[i].f3 us[i].f4 (us[i].f5.map relOf)) _
     unfold P.cleatref16_Big.f
     refine EndsP.ite (fun _ => EndsP.now _ fun h => absurd h (by decide)) fun c1 => EndsP.ite (fun _ => EndsP.now _ fun h => absurd h (by decide)) fun c2 => EndsP.now _ fun h => ?_
     have := of_decide_eq_false h
     rw [List.length_map] at c2
     omega
    ·rw [e1]
     obtain ⟨b, hb, h⟩ := ih (i + 1) (by omega)
     refine ⟨b, hb, fun e => ⟨(h e).1, fun h256 => ⟨((h e).2 h256).1, fun q a k => ?_⟩⟩⟩
     rcases Nat.eq_or_lt_of_le a with rfl | a
     ·exact ht (by simpa using c)
     ·exact ((h e).2 h256).2 q a k
   ·rw [decide_eq_false (show ¬ (us.length : Int) ≤ 40 by omega)]
    obtain ⟨b, hb, h⟩ := fin i
    exact ⟨b, hb, fun e => ⟨by have := h e; omega, fun h2 => by have := h e; omega⟩⟩
 obtain ⟨b, hb, h⟩ := go us.length 0 (by omega)
 refine ⟨b, hb, fun e => ⟨(h e).1, fun h2 => ⟨((h e).2 h2).1, fun u hu => ?_⟩⟩⟩
 obtain ⟨q, hq, rfl⟩ := List.getElem_of_mem hu
 exact ((h e).2 h2).2 q (Nat.zero_le _) hq
theorem Few.narrow {us : List P.S36} (h : Few us) : Narrow us := fun h2 i hi => by
 have := ((h.2 h2).2 _ (List.getElem_mem hi)).2.1
 omega
theorem bigU_calls (us : List P.S36) (hh : Held us) (W : World) (A : Option Addr) (c : Nat) (h : UA W A us) (hc : us.length ≤ c) :
 ∃ b, Calls Tryd.prog 12 #[.slice A us.length c] W (fun x w' => x = .returned (.bool b) ∧ Below W.heap.size W w') ∧ (b = false → Few us) := by
 obtain ⟨b, ⟨K, hK⟩, hb⟩ := big_units us hh
 exact ⟨b, P.cleatref21_Big.calls K A c us b W h hc (hK K (Nat.le_refl _)), hb⟩
end Go.Proofs.YtngmipfodjgmmaaDoor.Pure
end
section
namespace Go.Proofs.YtngmipfodjgmmaaDoor.Pure
open Go Go.RowKit Go.Lib Go.Shelf Go.Proofs.YtngmipfodjgmmaaDoorW.PrintWords Go.Proofs.YtngmipfodjgmmaaDoorW.PrintLast Go.Proofs.YtngmipfodjgmmaaDoorW.PrintMore
open P (Glob UA)
open Folds (gt)
set_option linter.unusedVariables false
set_option linter.unusedSimpArgs false
set_option maxRecDepth 100000 in
set_option maxHeartbeats 8000000 in
theorem fgood_any (w : World) (A A2 : Option Addr) (us : List P.S36) (ins : List Bool) (c c2 : Nat) (hG : Glob w) (hu : UA w A us) (hc : us.length ≤ c) (hh : Held us) (hi : BA w A2 ins) (hil : ins.length ≤ 9000000000000000000) (hc2 : ins.length ≤ c2) :
 Calls Tryd.prog 3 #[.slice A us.length c, .slice A2 ins.length c2] w fun e w' => e = .returned (.bool true) ∧ Below w.heap.size w w' := by
 obtain ⟨b, hb, hfew⟩ := bigU_calls us hh w A c hu hc
 have hul3 := hh.1
 have HBig := Azz.mk hb
 have HG := Azz.mk hG
 have HU := Azz.mk hu
 have HS := Azz.mk hi
 clear hb hG hu hi
 cases b with
 | true =>
  go_enter Tryd.func3, Tryd.ntmps3
  go_wp2_with (go_at_call 12; (with_reducible refine HBig.out.mono ?_); rintro e w1 ⟨rfl, hb⟩; have HB := Azz.mk hb; clear hb)
  go_ret
  exact ⟨rfl, HB.out⟩
 | false =>
  have HF := Azz.mk (hfew rfl)
  clear hfew hh
  have hul := HF.out.1
  by_cases h3 : (ins.length : Int) > 300
  ·go_enter Tryd.func3, Tryd.ntmps3
   go_wp2_with (go_at_call 12; (with_reducible refine HBig.out.mono ?_); rintro e w1 ⟨rfl, hb⟩; have HB := Azz.mk hb; clear hb)
   go_ret
   exact ⟨rfl, HB.out⟩
  ·have hil2 : ins.length ≤ 300 := by omega
   clear hil
   go_enter Tryd.func3, Tryd.ntmps3
   go_wp2_with (go_at_call 12; (with_reducible refine HBig.out.mono ?_); rintro e w1 ⟨rfl, hb⟩; have HB := Azz.mk hb; clear hb HBig)
   (with_reducible refine (fold_any w1 A A2 us ins c c2 (HG.out.below HB.out) (Kd.C_below HU.out HB.out) hc HF.out.narrow (by omega) (Kd.C_below HS.out HB.out) (by omega) hc2).mono ?_)
   rintro e w2 ⟨hb, hs⟩
   replace HB := Azz.mk (bTT HB.out hb)
   clear hb
   rcases hs with ⟨hno, rfl⟩ | ⟨hok, pb, rfl, hL, _⟩
   ·go_wp2_with fail
    (with_reducible refine (folded_any _ (HG.out.below HB.out)).mono ?_)
    rintro e w3 ⟨rfl, hb⟩
    replace HB := Azz.mk (bTT HB.out hb)
    clear hb
    obtain ⟨bu, hbu, hbi⟩ := isU_ends us HF.out.narrow
    have HI := Azz.mk (isU_calls hbu w3 A c (HG.out.below HB.out) (Kd.C_below HU.out HB.out) hc)
    clear hbu
    cases bu with
    | false =>
     clear hbi hno
     go_wp2_with (go_at_call 15; (with_reducible refine HI.out.mono ?_); rintro e w4 ⟨rfl, hb⟩; have HB4 := Azz.mk (bTT HB.out hb); clear hb)
     go_ret
     exact ⟨rfl, HB4.out⟩
    | true =>
     have hne : ((ins.length : Int) != us.length) = true := bne_iff_ne.mpr (fun e => hno ⟨by omega, hbi.1 rfl⟩)
     clear hbi hno
     go_wp2_with (go_at_call 15; (with_reducible refine HI.out.mono ?_); rintro e w4 ⟨rfl, hb⟩; have HB4 := Azz.mk (bTT HB.out hb); clear hb)
     go_ret
     exact ⟨rfl, HB4.out⟩
   ·have HOk := Azz.mk hok.2
    have hle := hok.1
    have HL := Azz.mk hL
    have hne : ((us.length : Int) != us.length) = false := by simp
    clear hok hL
    rw [hle] at hc2 ⊢
    go_wp2
    go_loopw [7] (fun v wr => ∃ i : Nat, i ≤ us.length ∧ v = .int .i64 i ∧ Azz (IB wr pb (foldL us ins)) ∧ Azz (Below w.heap.size w wr)) (fun v _ => us.length - (RowKit.intOf v).toNat)
    case atStart => exact ⟨0, Nat.zero_le _, rfl, HL, HB⟩
    case round =>
     clear HL HB
     obtain ⟨i, hi, rfl, HL, HB⟩ := hrel
     by_cases hlt : i < us.length
     ·have hi0 : (0 : Int) ≤ (i : Int) := by omega
      have hi1 : (i : Int) < us.length := by omega
      obtain ⟨ad2, e2, b1⟩ := bool_at _ A2 ins (Kd.C_below HS.out HB.out) i (by omega)
      subst e2
      have cz := HL.out.cell i (by rw [foldL_length]; exact hlt)
      obtain ⟨bi, hbi⟩ : ∃ b, ins.getD i false = b := ⟨_, rfl⟩
      rw [hbi] at b1
      have HBi := Azz.mk (show inn ins i = bi from hbi)
      clear hbi
      cases bi with
      | false =>
       rw [foldL_get us ins i hlt, if_neg (by rw [HBi.out]; decide)] at cz
       go_wp2
       go_roundw
       case rel => exact ⟨i + 1, by omega, by go_num, HL, HB⟩
       case measure => simp [RowKit.intOf]; omega
      | true =>
       rw [foldL_at hlt HBi.out] at cz
       obtain ⟨f1, f2, f3⟩ := fold_least ins hlt HBi.out
       have HF3 := Azz.mk (foldL_at (us := us) (ins := ins) (i := gt (foldP us ins) i) (by omega) f2)
       obtain ⟨q, hq⟩ : ∃ q, gt (foldP us ins) i = q := ⟨_, rfl⟩
       rw [hq] at cz f1 f2 f3 HF3
       obtain ⟨ad2', e2, b2⟩ := bool_at _ (some ad2) ins (Kd.C_below HS.out HB.out) q (by omega)
       cases e2
       rw [show ins.getD q false = true from f2] at b2
       have cq := HL.out.cell q (by rw [foldL_length]; omega)
       rw [HF3.out, f3] at cq
       have hq0 : (0 : Int) ≤ (q : Int) := by omega
       have hq1 : (q : Int) < us.length := by omega
       have hq2 : (q : Int) ≤ (i : Int) := by omega
       have hqq : ((q : Int) != (q : Int)) = false := by simp
       clear hq f2 f3 HF3
       go_wp2
       go_quiet (fail)
       go_wp2
       go_roundw
       case rel => exact ⟨i + 1, by omega, by go_num, ⟨HL.out.below (bNN (Below.refl _ _) _)⟩, ⟨bNN HB.out _⟩⟩
       case measure => simp [RowKit.intOf]; omega
     ·obtain rfl : i = us.length := by omega
      go_wp2_with fail
      (with_reducible refine (folded_any _ (HG.out.below HB.out)).mono ?_)
      rintro e w4 ⟨rfl, hb⟩
      replace HB := Azz.mk (bTT HB.out hb)
      replace HL := Azz.mk (HL.out.below hb)
      clear hb
      have hrd := HL.out.reads (by rw [foldL_length]; omega)
      rw [foldL_length] at hrd
      have HGo := Azz.mk (good_any w4 A A2 (some ⟨pb, 0, none⟩) us ins (foldL us ins) c c2 us.length (Kd.C_below HU.out HB.out) hc HOk.out (Kd.C_below HS.out HB.out) hle hc2 (by show Kd.C (Kd.int .i64) w4 (some ⟨pb, 0, none⟩) (foldL us ins).length (foldL us ins); rw [foldL_length]; exact hrd) (foldL_length us ins) (Nat.le_refl _))
      clear hrd
      go_wp2_with fail
      (with_reducible refine HGo.out.mono ?_)
      rintro e w5 ⟨b, rfl, hb1, hb⟩
      obtain rfl : b = true := hb1.2 (fold_good ins HOk.out)
      replace HB := Azz.mk (bTT HB.out hb)
      clear hb hb1
      go_wp2
      go_ret
      exact ⟨rfl, HB.out⟩
end Go.Proofs.YtngmipfodjgmmaaDoor.Pure
end
