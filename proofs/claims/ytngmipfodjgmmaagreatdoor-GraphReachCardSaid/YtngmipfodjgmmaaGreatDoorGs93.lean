/- Walks and plain laws of this claim, a part. -/
import Derived.Test.YtngmipfodjgmmaaGreatDoorGs89
import Derived.Test.YtngmipfodjgmmaaGreatDoorChecked
import Derived.Test.YtngmipfodjgmmaaGreatDoorRows
import Derived.LaidMore
import Derived.LaidLaws
import Derived.MakeChecks
import Derived.Lib.LaidU8
section
namespace Go.Proofs.YtngmipfodjgmmaaGreatDoor.Pure
open Go Go.RowKit Go.Lib Go.Shelf Go.Proofs.YtngmipfodjgmmaaGreatDoorW.PrintWords Go.Proofs.YtngmipfodjgmmaaGreatDoorW.PrintLast Go.Proofs.YtngmipfodjgmmaaGreatDoorW.PrintMore Go.Proofs.YtngmipfodjgmmaaGreatDoor.Reach
open P (Glob UA nd ndI NdOk Rt root_at)
set_option linter.unusedVariables false
set_option linter.unusedSimpArgs false
theorem Held.narrow' {us : List P.S39} (hh : Few us) : Narrow us := fun h i hi => by
 have := (hh.2 h).2 us[i] (List.getElem_mem hi)
 omega
theorem own_ev (us : List P.S39) (hh : Held us) (hl : us.length ≤ 300) : Ev (fun k => P.cleatref21_Own.f k us) us := by
 have go : ∀ (d i : Nat), i + d = us.length → Ev (fun k => P.cleatref21_Own.l0 k us (us.take i) (i : Int)) us := by
  intro d
  induction d with
  | zero =>
   intro i hi
   rw [List.take_of_length_le (by omega)]
   exact Ev.step (fun k => P.cleatref21_Own.l0.eq_2 _ _ _ _) (Ev.congr (fun k => if_neg (by omega)) (Ev.now _))
  | succ d ih =>
   intro i hi
   have e2 : P.rd_T39 us (i : Int) = us[i] := rd_get _ _ _ (by omega)
   have h5 := hh.2 us[i] (List.getElem_mem (by omega))
   refine Ev.step (fun k => P.cleatref21_Own.l0.eq_2 _ _ _ _) (Ev.congr (fun k => if_pos (by omega)) (Ev.congr (fun k => if_pos (by omega)) (Ev.congr (fun k => if_pos (by rw [e2]; simp; omega)) (Ev.congr (fun k => if_pos (by rw [List.length_take]; omega)) ?_))))
   rw [i64_succ i (by omega), e2]
   have := ih (i + 1) (by omega)
   rw [List.take_succ_eq_append_getElem (by omega)] at this
   exact this
 exact go us.length 0 (by omega)
theorem own_calls (us : List P.S39) (hh : Held us) (hl : us.length ≤ 300) (W : World) (A : Option Addr) (c : Nat) (hu : UA W A us) (hc : us.length ≤ c) :
 Calls Tryz.prog 8 #[.slice A us.length c] W fun e w' => ∃ A' c', e = .returned (.slice A' us.length c') ∧ us.length ≤ c' ∧ UA w' A' us ∧ Below W.heap.size W w' := by
 obtain ⟨K, hK⟩ := own_ev us hh hl
 refine (P.cleatref21_Own.calls K A c us us W hu hc (hK K (Nat.le_refl _))).mono ?_
 rintro e w' ⟨v, rfl, hv, hb⟩
 obtain ⟨A', c', rfl, h1, h2⟩ := Kd.S_reads hv
 exact ⟨A', c', rfl, h1, h2, hb⟩
theorem kp12 {w w1 : World} {p0 p1 p2 p3 p4 p5 p6 p7 p8 p9 p10 p11 : Addr} {v0 v1 v2 v3 v4 v5 v6 v7 v8 v9 v10 v11 : Value} (h : w.cell? p0 = some v0 ∧ w.cell? p1 = some v1 ∧ w.cell? p2 = some v2 ∧ w.cell? p3 = some v3 ∧ w.cell? p4 = some v4 ∧ w.cell? p5 = some v5 ∧ w.cell? p6 = some v6 ∧ w.cell? p7 = some v7 ∧ w.cell? p8 = some v8 ∧ w.cell? p9 = some v9 ∧ w.cell? p10 = some v10 ∧ w.cell? p11 = some v11) (hb : Below w.heap.size w w1) : w1.cell? p0 = some v0 ∧ w1.cell? p1 = some v1 ∧ w1.cell? p2 = some v2 ∧ w1.cell? p3 = some v3 ∧ w1.cell? p4 = some v4 ∧ w1.cell? p5 = some v5 ∧ w1.cell? p6 = some v6 ∧ w1.cell? p7 = some v7 ∧ w1.cell? p8 = some v8 ∧ w1.cell? p9 = some v9 ∧ w1.cell? p10 = some v10 ∧ w1.cell? p11 = some v11 := by
 obtain ⟨a0, a1, a2, a3, a4, a5, a6, a7, a8, a9, a10, a11⟩ := h
 exact ⟨kp1 a0 hb, kp1 a1 hb, kp1 a2 hb, kp1 a3 hb, kp1 a4 hb, kp1 a5 hb, kp1 a6 hb, kp1 a7 hb, kp1 a8 hb, kp1 a9 hb, kp1 a10 hb, kp1 a11 hb⟩
theorem srels_ev (l : List P.S98) (hl : l.length ≤ 4398046510976) : Ev (fun k => P.cleatref16_SameRels.f k l l) true := by
 have go : ∀ (d i : Nat), i + d = l.length → Ev (fun k => P.cleatref16_SameRels.l0 k l l (i : Int)) true := by
  intro d
  induction d with
  | zero => intro i hi; exact Ev.step (fun k => P.cleatref16_SameRels.l0.eq_2 _ _ _ _) (Ev.congr (fun k => if_neg (by omega)) (Ev.now _))
  | succ d ih =>
   intro i hi
   have e1 : wrap64 ((i : Int) + 1) = ((i + 1 : Nat) : Int) := by rw [wrap64_small _ (by omega) (by omega)]; rfl
   refine Ev.step (fun k => P.cleatref16_SameRels.l0.eq_2 _ _ _ _) (Ev.congr (fun k => if_pos (by omega)) (Ev.congr (fun k => if_pos (by omega)) (Ev.congr (fun k => if_pos (by omega)) (Ev.congr (fun k => if_neg (by simp)) ?_))))
   rw [e1]
   exact ih (i + 1) (by omega)
 unfold P.cleatref16_SameRels.f
 exact Ev.congr (fun k => if_pos rfl) (go l.length 0 (by omega))
theorem srels_calls (l : List P.S98) (hl : l.length ≤ 4398046510976) (W : World) (A B : Option Addr) (c d : Nat) (hA : Kd.C P.k98 W A l.length l) (hc : l.length ≤ c) (hB : Kd.C P.k98 W B l.length l) (hd : l.length ≤ d) :
 Calls Tryz.prog 62 #[.slice A l.length c, .slice B l.length d] W fun e w' => e = .returned (.bool true) ∧ Below W.heap.size W w' := by
 obtain ⟨K, hK⟩ := srels_ev l hl
 exact (P.cleatref16_SameRels.calls K A c l B d l true W hA hc hB hd (hK K (Nat.le_refl _))).mono fun e w' h => ⟨h.1, h.2.below⟩
set_option maxRecDepth 100000 in
set_option maxHeartbeats 8000000 in
theorem ssame_calls (u : P.S39) (hl : u.f5.length ≤ 4398046510976) (w : World) (A B : Option Addr) (c d : Nat) (hA : Kd.C P.k98 w A u.f5.length (u.f5.map relOf)) (hc : u.f5.length ≤ c) (hB : Kd.C P.k98 w B u.f5.length (u.f5.map relOf)) (hd : u.f5.length ≤ d) :
 Calls Tryz.prog 44 #[.agg #[.string u.f0, .int .i64 u.f1, .bool u.f2, .int .i64 u.f3, .string u.f4, .slice A u.f5.length c], .agg #[.string u.f0, .int .i64 u.f1, .bool u.f2, .int .i64 u.f3, .string u.f4, .slice B u.f5.length d]] w fun e w' => e = .returned (.bool true) ∧ Below w.heap.size w w' := by
 have hb := bAA (bAA (Below.refl w.heap.size w) (.cells #[.string u.f0, .int .i64 u.f1, .bool u.f2, .int .i64 u.f3, .string u.f4, .slice A u.f5.length c] 64)) (.cells #[.string u.f0, .int .i64 u.f1, .bool u.f2, .int .i64 u.f3, .string u.f4, .slice B u.f5.length d] 64)
 have HB := Azz.mk hb
 have HS := srels_calls (u.f5.map relOf) (by simpa using hl) _ A B c d (by simpa using Kd.C_below hA hb) (by simpa using hc) (by simpa using Kd.C_below hB hb) (by simpa using hd)
 rw [List.length_map] at HS
 have HS := Azz.mk HS
 have HX := Azz.mk (kAA (blk_new w (.cells #[.string u.f0, .int .i64 u.f1, .bool u.f2, .int .i64 u.f3, .string u.f4, .slice A u.f5.length c] 64)) (.cells #[.string u.f0, .int .i64 u.f1, .bool u.f2, .int .i64 u.f3, .string u.f4, .slice B u.f5.length d] 64))
 have HY := Azz.mk (blk_n2 w (.cells #[.string u.f0, .int .i64 u.f1, .bool u.f2, .int .i64 u.f3, .string u.f4, .slice A u.f5.length c] 64) (.cells #[.string u.f0, .int .i64 u.f1, .bool u.f2, .int .i64 u.f3, .string u.f4, .slice B u.f5.length d] 64))
 clear hA hB hb
 go_enter Tryz.func44, Tryz.ntmps44
 go_wp2_with fail
 (with_reducible refine HS.out.mono ?_)
 rintro e w1 ⟨rfl, hb⟩
 have HB2 := Azz.mk (bTT HB.out hb)
 clear hb
 go_wp2
 go_ret
 exact ⟨rfl, HB2.out⟩
set_option maxRecDepth 100000 in
set_option maxHeartbeats 8000000 in
theorem usame_calls (us : List P.S39) (hh : Held us) (hl : us.length ≤ 300) (w : World) (A B : Option Addr) (c d : Nat) (hA : UA w A us) (hB : UA w B us) :
 Calls Tryz.prog 14 #[.slice A us.length c, .slice B us.length d] w fun e w' => e = .returned (.bool true) ∧ Below w.heap.size w w' := by
 have HA := Azz.mk hA
 have HC := Azz.mk hB
 have HH := Azz.mk hh
 clear hA hB hh
 go_enter Tryz.func14, Tryz.ntmps14
 go_wp2
 go_loopw [5] (fun v wr => ∃ i : Nat, i ≤ us.length ∧ v = .int .i64 i ∧ Azz (Below w.heap.size w wr)) (fun v _ => us.length - (RowKit.intOf v).toNat)
 case atStart => exact ⟨0, Nat.zero_le _, rfl, ⟨Below.refl _ _⟩⟩
 case round =>
  obtain ⟨i, hi, rfl, HB⟩ := hrel
  by_cases hlt : i < us.length
  ·obtain ⟨ad, A5, c5, ea, y0, y1, y2, y3, y4, y5, l5, g5⟩ := P.at_T39 (Kd.C_below HA.out HB.out) i (by omega) (by omega)
   subst ea
   obtain ⟨ae, B5, d5, ea, z0, z1, z2, z3, z4, z5, m5, k5⟩ := P.at_T39 (Kd.C_below HC.out HB.out) i (by omega) (by omega)
   subst ea
   rw [Int.toNat_natCast] at y0 y1 y2 y3 y4 y5 z0 z1 z2 z3 z4 z5
   have e2 : P.rd_T39 us (i : Int) = us[i] := rd_get _ _ _ hlt
   obtain ⟨u, hu⟩ : ∃ u, us[i] = u := ⟨_, rfl⟩
   rw [e2, hu] at y0 y1 y2 y3 y4 y5 l5 g5 z0 z1 z2 z3 z4 z5 m5 k5
   have hnw : u.f5.length ≤ 4398046510976 := by rw [← hu]; exact HH.out.2 _ (List.getElem_mem hlt)
   have HG5 := Azz.mk (fun W (hb : Below wr.heap.size wr W) => rsec_any u hnw W A5 c5 (Kd.C_below g5 hb) l5)
   have HK5 := Azz.mk (fun W (hb : Below wr.heap.size wr W) => rsec_any u hnw W B5 d5 (Kd.C_below k5 hb) m5)
   have i0 : (0 : Int) ≤ (i : Int) := by omega
   have i1 : (i : Int) < us.length := by omega
   clear e2 hu g5 k5 l5 m5
   go_wp2
   go_region_held3 (fun w' => w'.cell? (ad.add (i * 6)) = some (.string u.f0) ∧ w'.cell? ⟨(ad.add (i * 6)).block, (ad.add (i * 6)).off + 1, none⟩ = some (.int .i64 u.f1) ∧ w'.cell? ⟨(ad.add (i * 6)).block, (ad.add (i * 6)).off + 2, none⟩ = some (.bool u.f2) ∧ w'.cell? ⟨(ad.add (i * 6)).block, (ad.add (i * 6)).off + 3, none⟩ = some (.int .i64 u.f3) ∧ w'.cell? ⟨(ad.add (i * 6)).block, (ad.add (i * 6)).off + 4, none⟩ = some (.string u.f4) ∧ w'.cell? ⟨(ad.add (i * 6)).block, (ad.add (i * 6)).off + 5, none⟩ = some (.slice A5 u.f5.length c5) ∧ w'.cell? (ae.add (i * 6)) = some (.string u.f0) ∧ w'.cell? ⟨(ae.add (i * 6)).block, (ae.add (i * 6)).off + 1, none⟩ = some (.int .i64 u.f1) ∧ w'.cell? ⟨(ae.add (i * 6)).block, (ae.add (i * 6)).off + 2, none⟩ = some (.bool u.f2) ∧ w'.cell? ⟨(ae.add (i * 6)).block, (ae.add (i * 6)).off + 3, none⟩ = some (.int .i64 u.f3) ∧ w'.cell? ⟨(ae.add (i * 6)).block, (ae.add (i * 6)).off + 4, none⟩ = some (.string u.f4) ∧ w'.cell? ⟨(ae.add (i * 6)).block, (ae.add (i * 6)).off + 5, none⟩ = some (.slice B5 u.f5.length d5)) (first | go_keep | exact kp12 (by assumption) hb1 | exact kp12 (by assumption) hb2 | exact kp12 (by assumption) hb3) (first | (go_at_call 39; (with_reducible refine (HG5.out _ ?d1).mono ?_); (case d1 => repeat (first | exact Below.refl _ _ | apply bDD | apply bNN | (refine bTT ?_ hb2) | (refine bTT ?_ hb1))); rintro en w2 ⟨A1, c1, rfl, hl1, hC1, hb1⟩) | (go_at_call 39; (with_reducible refine (HK5.out _ ?d1).mono ?_); (case d1 => repeat (first | exact Below.refl _ _ | apply bDD | apply bNN | (refine bTT ?_ hb2) | (refine bTT ?_ hb1))); rintro en w2 ⟨B1, d1, rfl, hm1, hK1, hb2⟩; (have hC2 := Kd.C_below hC1 (show Below _ _ w2 from bTT (by repeat (first | exact Below.refl _ _ | apply bDD | apply bNN)) hb2))) | (go_at_call 44; (with_reducible refine (ssame_calls u hnw _ A1 B1 c1 d1 (Kd.C_below hC2 ?d1) hl1 (Kd.C_below hK1 ?d2) hm1).mono ?_); (case d1 => repeat (first | exact Below.refl _ _ | apply bDD | apply bNN | (refine bTT ?_ hb2) | (refine bTT ?_ hb1))); (case d2 => repeat (first | exact Below.refl _ _ | apply bDD | apply bNN | (refine bTT ?_ hb2) | (refine bTT ?_ hb1))); rintro en w2 ⟨rfl, hb3⟩))
   have HB2 := Azz.mk (bTT HB.out (by repeat (first | exact Below.refl _ _ | apply bDD | apply bNN | (refine bTT ?_ hb3) | (refine bTT ?_ hb2) | (refine bTT ?_ hb1)) : Below wr.heap.size wr w2))
   clear y0 y1 y2 y3 y4 y5 z0 z1 z2 z3 z4 z5 hb1 hb2 hb3 HG5 HK5
   go_wp2
   go_roundw
   case rel => exact ⟨i + 1, by omega, by go_num, HB2⟩
   case measure => simp [RowKit.intOf]; omega
  ·obtain rfl : i = us.length := by omega
   go_wp2
   go_ret
   exact ⟨rfl, HB.out⟩
theorem bsame_ev (l : List Bool) (hl : l.length ≤ 100000) : Ev (fun k => P.cleatref21_Bools.f k l l) true := by
 have go : ∀ (d i : Nat), i + d = l.length → Ev (fun k => P.cleatref21_Bools.l0 k l l (i : Int)) true := by
  intro d
  induction d with
  | zero => intro i hi; exact Ev.step (fun k => P.cleatref21_Bools.l0.eq_2 _ _ _ _) (Ev.congr (fun k => if_neg (by omega)) (Ev.now _))
  | succ d ih =>
   intro i hi
   refine Ev.step (fun k => P.cleatref21_Bools.l0.eq_2 _ _ _ _) (Ev.congr (fun k => if_pos (by omega)) (Ev.congr (fun k => if_pos (by omega)) (Ev.congr (fun k => if_pos (by omega)) (Ev.congr (fun k => if_neg (by simp)) ?_))))
   rw [i64_succ i (by omega)]
   exact ih (i + 1) (by omega)
 unfold P.cleatref21_Bools.f
 exact Ev.congr (fun k => if_pos rfl) (go l.length 0 (by omega))
theorem isame_ev (l : List Int) (hl : l.length ≤ 100000) : Ev (fun k => P.cleatref04_Same.f k l l) true := by
 have go : ∀ (d i : Nat), i + d = l.length → Ev (fun k => P.cleatref04_Same.l0 k l l (i : Int)) true := by
  intro d
  induction d with
  | zero => intro i hi; exact Ev.step (fun k => P.cleatref04_Same.l0.eq_2 _ _ _ _) (Ev.congr (fun k => if_neg (by omega)) (Ev.now _))
  | succ d ih =>
   intro i hi
   refine Ev.step (fun k => P.cleatref04_Same.l0.eq_2 _ _ _ _) (Ev.congr (fun k => if_pos (by omega)) (Ev.congr (fun k => if_pos (by omega)) (Ev.congr (fun k => if_pos (by omega)) (Ev.congr (fun k => if_pos rfl) ?_))))
   rw [i64_succ i (by omega)]
   exact ih (i + 1) (by omega)
 unfold P.cleatref04_Same.f
 exact Ev.congr (fun k => if_pos rfl) (go l.length 0 (by omega))
set_option maxRecDepth 100000 in
set_option maxHeartbeats 8000000 in
theorem rroots_calls (us : List P.S39) (en : Int) (hl : us.length ≤ 300) (hn : Narrow us) (w : World) (A : Option Addr) (c : Nat) (hu : UA w A us) (hc : us.length ≤ c) :
 Calls Tryz.prog 29 #[.slice A us.length c, .int .i64 en] w (RootsPost us en w) := by
 have HI := Azz.mk (ris_units us A c w hu hc hn (by omega))
 have HU := Azz.mk hu
 have no : ¬ (UOk us ∧ 0 ≤ en ∧ en < us.length) → ∀ w', Below w.heap.size w w' → RootsPost us en w (.returned (.tuple #[.slice none 0 0, .int .i64 1])) w' := fun h w' hb => ⟨none, 0, [], 1, rfl, Nat.le_refl _, .inl ⟨h, rfl, rfl⟩, (Kd.R_reads' (Kd.R_nil (Kd.int .i64) 3 w' 0 (fun _ => True))).2.2, hb⟩
 have HNo := Azz.mk no
 clear hu hn hc no
 go_enter Tryz.func29, Tryz.ntmps29
 go_wp2_with fail
 (with_reducible refine HI.out.mono ?_)
 rintro en_ w1 ⟨b, rfl, hbi, hb⟩
 have HB := Azz.mk hb
 have HBi := Azz.mk hbi
 clear hb hbi HI
 cases b with
 | false =>
  go_wp2
  go_ret2
  exact HNo.out (fun h => absurd (HBi.out.2 h.1) (by decide)) _ HB.out
 | true =>
  have HOk := Azz.mk (HBi.out.1 rfl)
  clear HBi
  by_cases c1 : en < 0
  ·have b1 : decide (en < 0) = true := decide_eq_true c1
   have H1 := Azz.mk c1
   clear c1
   go_wp2
   go_ret2
   exact HNo.out (fun h => by have := H1.out; omega) _ HB.out
  have b1 : decide (en < 0) = false := decide_eq_false c1
  by_cases c2 : (us.length : Int) ≤ en
  ·have b2 : decide ((us.length : Int) ≤ en) = true := decide_eq_true c2
   have H2 := Azz.mk c2
   clear c1 c2
   go_wp2
   go_ret2
   exact HNo.out (fun h => by have := H2.out; omega) _ HB.out
  have b2 : decide ((us.length : Int) ≤ en) = false := decide_eq_false c2
  have H12 := Azz.mk (And.intro c1 c2)
  clear c1 c2
  go_wp2
  go_loopw [6, 7] (fun v6 v wr => ∃ i : Nat, i ≤ us.length ∧ v = .int .i64 i ∧ Azz (Kd.R (Kd.int .i64) 3 wr w1.heap.size (fun _ => True) v6 (rootsL us en i)) ∧ Azz (Below w1.heap.size w1 wr)) (fun _ v _ => us.length - (RowKit.intOf v).toNat)
  case atStart => exact ⟨0, Nat.zero_le _, rfl, ⟨Kd.R_nil _ _ _ _ _⟩, ⟨Below.refl _ _⟩⟩
  case round =>
   obtain ⟨i, hi, rfl, HO, HBr⟩ := hrel
   by_cases hlt : i < us.length
   ·obtain ⟨ad, A5, c5, ea, y0, y1, y2, y3, y4, y5, l5, g5⟩ := P.at_T39 (Kd.C_below HU.out (bTT HB.out HBr.out)) i (by omega) (by omega)
    subst ea
    rw [Int.toNat_natCast] at y2
    obtain ⟨kp, hkp⟩ : ∃ b, (P.rd_T39 us (i : Int)).f2 = b := ⟨_, rfl⟩
    rw [hkp] at y2
    have HKp := Azz.mk hkp
    have HLn := Azz.mk (rootsL_len us en i)
    have i0 : (0 : Int) ≤ (i : Int) := by omega
    have i1 : (i : Int) < us.length := by omega
    clear y0 y1 y3 y4 y5 l5 g5 hkp
    by_cases c3 : (i : Int) = en
    ·have b3 : ((i : Int) == en) = true := beq_iff_eq.mpr c3
     have HYes := Azz.mk (rootsL_yes (us := us) (.inl c3))
     clear c3
     go_wp2_with (at_builtin; refine Kd.R_append_rows (Kd.int .i64) (w0 := w1) w1.heap.size rfl _ _ 26 3 (.int .i64 0) 8 rfl Tryz.underlying26 P.info_int rfl (by decide) (by decide) _ (rootsL us en i) [(i : Int)] (some ⟨wr.heap.size, 0, none⟩) 1 1 (fun _ => True) (fun _ => False) rfl rfl (Kd.R_alloc HO.out _) (ints_read (l := [(i : Int)]) (blk_new _ (.cells #[.int .i64 (i : Int)] 3 (0, 0))) (by show 1 ≤ maxLen; decide)) (fun _ _ h => h) (fun _ h => h.elim) (fun _ _ => trivial) (HBr.out.alloc HBr.out.size _) (HBr.out.alloc HBr.out.size _).size (by have := HLn.out; omega) ?_; intro v1 w7 ho1 hb1 _ _; have HO1 := Azz.mk ho1; have HB1 := Azz.mk hb1; clear ho1 hb1)
     go_roundw
     case rel => exact ⟨i + 1, by omega, by go_num, ⟨by rw [HYes.out]; exact HO1.out⟩, HB1⟩
     case measure => simp [RowKit.intOf]; omega
    ·have b3 : ((i : Int) == en) = false := beq_eq_false_iff_ne.mpr c3
     have H3 := Azz.mk c3
     clear c3
     cases kp with
     | true =>
      have HYes := Azz.mk (rootsL_yes (us := us) (en := en) (.inr HKp.out))
      go_wp2_with (at_builtin; refine Kd.R_append_rows (Kd.int .i64) (w0 := w1) w1.heap.size rfl _ _ 26 3 (.int .i64 0) 8 rfl Tryz.underlying26 P.info_int rfl (by decide) (by decide) _ (rootsL us en i) [(i : Int)] (some ⟨wr.heap.size, 0, none⟩) 1 1 (fun _ => True) (fun _ => False) rfl rfl (Kd.R_alloc HO.out _) (ints_read (l := [(i : Int)]) (blk_new _ (.cells #[.int .i64 (i : Int)] 3 (0, 0))) (by show 1 ≤ maxLen; decide)) (fun _ _ h => h) (fun _ h => h.elim) (fun _ _ => trivial) (HBr.out.alloc HBr.out.size _) (HBr.out.alloc HBr.out.size _).size (by have := HLn.out; omega) ?_; intro v1 w7 ho1 hb1 _ _; have HO1 := Azz.mk ho1; have HB1 := Azz.mk hb1; clear ho1 hb1)
      go_roundw
      case rel => exact ⟨i + 1, by omega, by go_num, ⟨by rw [HYes.out]; exact HO1.out⟩, HB1⟩
      case measure => simp [RowKit.intOf]; omega
     | false =>
      have HNn := Azz.mk (rootsL_no (us := us) (en := en) (i := i) (fun h => h.elim H3.out (fun k => by rw [HKp.out] at k; cases k)))
      go_wp2
      go_roundw
      case rel => exact ⟨i + 1, by omega, by go_num, ⟨by rw [HNn.out]; exact HO.out⟩, HBr⟩
      case measure => simp [RowKit.intOf]; omega
   ·obtain rfl : i = us.length := by omega
    obtain ⟨Aa, ca, rfl, hla, hC⟩ := Kd.R_reads HO.out
    have HC := Azz.mk hC
    clear hC
    go_wp2
    go_ret2
    exact ⟨Aa, ca, _, 0, rfl, hla, .inr ⟨⟨HOk.out, by have := H12.out; omega, by have := H12.out; omega⟩, rfl, rfl⟩, HC.out, bTT HB.out HBr.out⟩
def SeenR (us : List P.S39) (roots : List Int) (bl : List Bool) (er : Int) : Prop := (¬ (UOk us ∧ ROk us roots) ∧ bl = [] ∧ er = 1) ∨ ((UOk us ∧ ROk us roots) ∧ bl.length = us.length ∧ (∀ i, sn bl i ↔ RS (nd us) (Rt roots) i) ∧ er = 0)
theorem sn_ext {a b : List Bool} (hl : a.length = b.length) (h : ∀ i, sn a i ↔ sn b i) : a = b := by
 refine List.ext_getElem hl fun i h1 h2 => ?_
 have := h i
 unfold sn at this
 rw [List.getD_eq_getElem?_getD, List.getElem?_eq_getElem h1, List.getD_eq_getElem?_getD, List.getElem?_eq_getElem h2] at this
 exact Bool.eq_iff_iff.2 this
theorem SeenR.one {us roots a er b er'} (h : SeenR us roots a er) (k : SeenR us roots b er') : a = b ∧ er = er' := by
 rcases h with ⟨x, rfl, rfl⟩ | ⟨x, l1, i1, rfl⟩ <;> rcases k with ⟨y, rfl, rfl⟩ | ⟨y, l2, i2, rfl⟩
 ·exact ⟨rfl, rfl⟩
 ·exact absurd y x
 ·exact absurd x y
 ·exact ⟨sn_ext (by omega) fun i => (i1 i).trans (i2 i).symm, rfl⟩
def SeenPost (us : List P.S39) (roots : List Int) (w : World) (e : Ending) (w' : World) : Prop := ∃ A bl er, e = .returned (.tuple #[.slice A bl.length bl.length, .int .i64 er]) ∧ SeenR us roots bl er ∧ Kd.C Kd.bool w' A bl.length bl ∧ Below w.heap.size w w'
theorem seen_of {us roots} {w w' : World} {e : Ending} (hul : us.length ≤ 300) (h : ReachPost us roots w e w') : SeenPost us roots w e w' := by
 obtain ⟨hb, ⟨hn, rfl⟩ | ⟨h1, h2, sb, seen, rfl, hl, hi, hk, _⟩⟩ := h
 ·exact ⟨none, [], 1, rfl, .inl ⟨hn, rfl, rfl⟩, (Kd.R_reads' (Kd.R_nil Kd.bool 4 w' 0 (fun _ => True))).2.2, hb⟩
 ·exact ⟨_, seen, 0, rfl, .inr ⟨⟨h1, h2⟩, hl, hi, rfl⟩, bools_read hk (by unfold maxLen; omega), hb⟩
end Go.Proofs.YtngmipfodjgmmaaGreatDoor.Pure
end
section
namespace Go.Proofs.YtngmipfodjgmmaaGreatDoor.Pure
open Go Go.RowKit Go.Lib Go.Shelf Go.Proofs.YtngmipfodjgmmaaGreatDoorW.PrintWords Go.Proofs.YtngmipfodjgmmaaGreatDoorW.PrintLast Go.Proofs.YtngmipfodjgmmaaGreatDoorW.PrintMore Go.Proofs.YtngmipfodjgmmaaGreatDoor.Reach
open P (Glob UA nd ndI NdOk Rt root_at)
set_option linter.unusedVariables false
set_option linter.unusedSimpArgs false
def TruePost (w : World) (e : Ending) (w' : World) : Prop := e = .returned (.bool true) ∧ Below w.heap.size w w'
set_option maxRecDepth 100000 in
set_option maxHeartbeats 8000000 in
theorem greach_any (w : World) (A A2 : Option Addr) (us : List P.S39) (en : Int) (roots : List Int) (c c2 : Nat) (hG : Glob w) (hu : UA w A us) (hc : us.length ≤ c) (hh : Held us) (hr : IA w A2 roots) (hrc : roots.length ≤ c2) :
 Calls Tryz.prog 5 #[.slice A us.length c, .int .i64 en, .slice A2 roots.length c2] w (TruePost w) := by
 have HG := Azz.mk hG
 have HU := Azz.mk hu
 have HR := Azz.mk hr
 have HH := Azz.mk hh
 have HC := Azz.mk hc
 obtain ⟨b, hbig, hfew⟩ := bigU_calls us hh w A c hu hc
 have HBig := Azz.mk hbig
 have HFew := Azz.mk hfew
 clear hG hu hr hh hbig hfew hc
 go_enter Tryz.func5, Tryz.ntmps5
 go_wp2_with fail
 (with_reducible refine HBig.out.mono ?_)
 rintro e w1 ⟨rfl, hb⟩
 have HB := Azz.mk hb
 clear hb HBig
 cases b with
 | true =>
  go_wp2
  go_ret
  exact ⟨rfl, HB.out⟩
 | false =>
  have HFe := Azz.mk (HFew.out rfl)
  clear HFew
  by_cases c3 : (300 : Int) < roots.length
  ·have b3 : decide ((300 : Int) < roots.length) = true := decide_eq_true c3
   clear c3
   go_wp2
   go_ret
   exact ⟨rfl, HB.out⟩
  have b3 : decide ((300 : Int) < roots.length) = false := decide_eq_false c3
  have hl3 := HFe.out.1
  have hnw := Held.narrow' HFe.out
  have HNw := Azz.mk hnw
  have HRl := Azz.mk (show roots.length ≤ 100000 by omega)
  clear c3 hnw
  -- a copy
  go_wp2_with fail
  (with_reducible refine (own_calls us HH.out hl3 w1 A c (Kd.C_below HU.out HB.out) HC.out).mono ?_)
  rintro e w2 ⟨Ao, co, rfl, hco, huo, hb⟩
  replace HB := Azz.mk (bTT HB.out hb)
  have HO := Azz.mk huo
  have HCo := Azz.mk hco
  clear hb huo hco
  -- roots
  go_wp2_with fail
  (with_reducible refine (proots_calls us en hl3 HNw.out _ A c (HG.out.below HB.out) (Kd.C_below HU.out HB.out) HC.out).mono ?_)
  rintro e w3 ⟨Aa, ca, la, ea, rfl, hca, hra, hia, hb⟩
  replace HB := Azz.mk (bTT HB.out hb)
  replace HO := Azz.mk (Kd.C_below HO.out hb)
  have HA := Azz.mk hia
  have HRa := Azz.mk (And.intro hra hca)
  clear hb hia hra hca
  go_wp2_with fail
  (with_reducible refine (rroots_calls us en hl3 HNw.out _ Ao co HO.out HCo.out).mono ?_)
  rintro e w4 ⟨Ab, cb, lb, eb, rfl, hcb, hrb, hib, hb⟩
  replace HB := Azz.mk (bTT HB.out hb)
  replace HO := Azz.mk (Kd.C_below HO.out hb)
  replace HA := Azz.mk (Kd.C_below HA.out hb)
  have HBb := Azz.mk hib
  obtain ⟨rfl, rfl⟩ := RootsR.one HRa.out.1 hrb
  have HCb := Azz.mk hcb
  clear hb hib hrb hcb
  -- what is reached
  go_wp2_with fail
  (with_reducible refine ((reach_any _ A A2 us roots c c2 (HG.out.below HB.out) (Kd.C_below HU.out HB.out) HC.out HNw.out (by omega) (Kd.C_below HR.out HB.out) HRl.out).mono (fun _ _ h => seen_of hl3 h)).mono ?_)
  rintro e w5 ⟨Ac, bc, ec, rfl, hsc, hic, hb⟩
  replace HB := Azz.mk (bTT HB.out hb)
  replace HO := Azz.mk (Kd.C_below HO.out hb)
  replace HA := Azz.mk (Kd.C_below HA.out hb)
  replace HBb := Azz.mk (Kd.C_below HBb.out hb)
  have HSc := Azz.mk hsc
  have HIc := Azz.mk hic
  clear hb hsc hic
  go_wp2_with fail
  (with_reducible refine ((rreach_any _ Ao A2 us roots co c2 HO.out HCo.out HNw.out (by omega) (Kd.C_below HR.out HB.out) HRl.out).mono (fun _ _ h => seen_of hl3 h)).mono ?_)
  rintro e w6 ⟨Ad, bd, ed, rfl, hsd, hid, hb⟩
  replace HB := Azz.mk (bTT HB.out hb)
  replace HO := Azz.mk (Kd.C_below HO.out hb)
  replace HA := Azz.mk (Kd.C_below HA.out hb)
  replace HBb := Azz.mk (Kd.C_below HBb.out hb)
  replace HIc := Azz.mk (Kd.C_below HIc.out hb)
  obtain ⟨rfl, rfl⟩ := SeenR.one HSc.out hsd
  have HId := Azz.mk hid
  clear hb hsd hid
  have hbl : bc.length ≤ 100000 := by
   rcases HSc.out with ⟨_, h, _⟩ | ⟨_, h, _⟩
   ·rw [h]; simp
   ·omega
  have HBl := Azz.mk hbl
  clear hbl
  -- the end
  go_wp2_with fail
  (with_reducible refine (linked_any _ (HG.out.below HB.out)).mono ?_)
  rintro e w7 ⟨rfl, hb⟩
  replace HB := Azz.mk (bTT HB.out hb)
  replace HO := Azz.mk (Kd.C_below HO.out hb)
  replace HA := Azz.mk (Kd.C_below HA.out hb)
  replace HBb := Azz.mk (Kd.C_below HBb.out hb)
  replace HIc := Azz.mk (Kd.C_below HIc.out hb)
  replace HId := Azz.mk (Kd.C_below HId.out hb)
  clear hb
  obtain ⟨b1, hb1, hi1⟩ := isU_ends us HNw.out
  have HI1 := Azz.mk (And.intro hb1 hi1)
  clear hb1 hi1
  go_wp2_with fail
  (with_reducible refine (isU_calls HI1.out.1 _ A c (HG.out.below HB.out) (Kd.C_below HU.out HB.out) HC.out HNw.out).mono ?_)
  rintro e w8 ⟨rfl, hb⟩
  replace HB := Azz.mk (bTT HB.out hb)
  replace HO := Azz.mk (Kd.C_below HO.out hb)
  replace HA := Azz.mk (Kd.C_below HA.out hb)
  replace HBb := Azz.mk (Kd.C_below HBb.out hb)
  replace HIc := Azz.mk (Kd.C_below HIc.out hb)
  replace HId := Azz.mk (Kd.C_below HId.out hb)
  clear hb
  go_wp2_with fail
  (with_reducible refine (ris_units us Ao co _ HO.out HCo.out HNw.out (by omega)).mono ?_)
  rintro e w9 ⟨b2, rfl, hi2, hb⟩
  replace HB := Azz.mk (bTT HB.out hb)
  replace HO := Azz.mk (Kd.C_below HO.out hb)
  replace HA := Azz.mk (Kd.C_below HA.out hb)
  replace HBb := Azz.mk (Kd.C_below HBb.out hb)
  replace HIc := Azz.mk (Kd.C_below HIc.out hb)
  replace HId := Azz.mk (Kd.C_below HId.out hb)
  obtain rfl : b1 = b2 := Bool.eq_iff_iff.2 (HI1.out.2.trans hi2.symm)
  have hbe : (b1 == b1) = true := by simp
  obtain ⟨K1, hK1⟩ := isame_ev la (HRa.out.1.len hl3)
  obtain ⟨K2, hK2⟩ := bsame_ev bc HBl.out
  have H1 := Azz.mk (P.cleatref04_Same.calls K1 Aa ca la Ab cb la true w9 HA.out HRa.out.2 HBb.out HCb.out (hK1 K1 (Nat.le_refl _)))
  clear hb hi2 hK1
  go_wp2_with fail
  (with_reducible refine H1.out.mono ?_)
  rintro e w10 ⟨rfl, nd1, rfl⟩
  have H2 := Azz.mk (P.cleatref21_Bools.calls K2 Ac bc.length bc Ad bc.length bc true (w9.drewN nd1) (Kd.C_below HIc.out (bNN (Below.refl _ _) _)) (Nat.le_refl _) (Kd.C_below HId.out (bNN (Below.refl _ _) _)) (Nat.le_refl _) (hK2 K2 (Nat.le_refl _)))
  clear hK2 H1
  go_wp2_with fail
  (with_reducible refine H2.out.mono ?_)
  rintro e w11 ⟨rfl, nd2, rfl⟩
  have H3 := Azz.mk (usame_calls us HH.out hl3 (w9.drewN (nd1 + nd2)) A Ao c co (Kd.C_below HU.out (bNN HB.out _)) (Kd.C_below HO.out (bNN (Below.refl _ _) _)))
  clear H2
  go_wp2_with fail
  (with_reducible refine H3.out.mono ?_)
  rintro e w12 ⟨rfl, hb⟩
  have HB12 := Azz.mk (bTT (bNN HB.out (nd1 + nd2)) hb)
  clear hb
  go_wp2
  go_ret
  exact ⟨rfl, HB12.out⟩
end Go.Proofs.YtngmipfodjgmmaaGreatDoor.Pure
end
section
namespace Go.Proofs.YtngmipfodjgmmaaGreatDoor.Walks
open Go Go.RowKit Go.Proofs.YtngmipfodjgmmaaGreatDoorW.PrintWords Go.Proofs.YtngmipfodjgmmaaGreatDoorW.PrintLast Go.Proofs.YtngmipfodjgmmaaGreatDoorW.PrintMore
set_option linter.unusedVariables false
theorem GraphReach (A0 : Option Addr) (c0 : Nat) (x0 : List P.S39) (x1 : Int) (A2 : Option Addr) (c2 : Nat) (x2 : List Int) (w : World) (hG : P.Glob w)
 (hc0 : Kd.C P.k39 w A0 x0.length x0) (hl0 : x0.length ≤ c0) (hw0 : x0.length ≤ 1759218604390 ∧ ∀ z ∈ x0, z.f5.length ≤ 4398046510976) (hw1 : (Lit.int IntKind.i64 x1).wf = true) (hc2 : Kd.C (Kd.int .i64) w A2 x2.length x2) (hl2 : x2.length ≤ c2) (hw2 : x2.length ≤ 17592186043904) :
 Calls Tryz.prog 5 #[.slice A0 x0.length c0, .int .i64 x1, .slice A2 x2.length c2] w fun e w' => e = .returned (.bool true) ∧ Below w.heap.size w w' :=
 Pure.greach_any w A0 A2 x0 x1 x2 c0 c2 hG hc0 hl0 ⟨by have := hw0.1; omega, hw0.2⟩ hc2 hl2
end Go.Proofs.YtngmipfodjgmmaaGreatDoor.Walks
end
section
namespace Go.Proofs.YtngmipfodjgmmaaGreatDoor.Tables
open Go Go.RowKit Go.Lib
abbrev four : List (String × DataW Unit) := [("cleat/inst.shapes", Rows.laid_cleat_inst_shapes), ("cleat/code.bases", Rows.laid_cleat_code_bases), ("cleat/code.fields", Rows.laid_cleat_code_fields), ("math/bits.deBruijn32tab", Rows.laid_math_bits_deBruijn32tab), ("math/bits.deBruijn64tab", Rows.laid_math_bits_deBruijn64tab), ("internal/strconv.uint64pow10", Rows.laid_internal_strconv_uint64pow10), ("cleat/part.fitting", Rows.laid_cleat_part_fitting)]
/-- The door's own heap meets the condition. -/
theorem door_met (os : Os) (args : Array Value) : laidMetH Tryz.prog four ((World.doorLaid Tryz.prog 400 os).forCall (fun _ _ => 0) ⟨#[], args, []⟩).memory :=
 laidMetH_of_parts3 (fuel := 8) (laidMet_of_run' 8 (by kernel_rfl) (by kernel_rfl)) (by kernel_rfl) (by kernel_rfl)
theorem cell_lt {w : World} {b i : Nat} {v : Value} (h : w.cell? ⟨b, i, none⟩ = some v) : b < w.heap.size := by
 refine Decidable.byContradiction fun hn => ?_
 have e : w.heap[b]? = none := Array.getElem?_eq_none (by omega)
 simp [World.cell?, e] at h
/-- A table of whole numbers that reads as these holds these. -/
theorem tab {W : World} {name : String} {k : IntKind} {zs : List Int} {g t e n : Nat} (hg : Tryz.prog.globalNamed name = some g) (hty : (Tryz.prog.globals[g]?).map (·.type) = some t)
 (ht : Tryz.prog.underlying t = some (.array n e)) (he : Tryz.prog.underlying e = some (.int k)) (hce : Tryz.prog.cellsOf e = 1) (hct : Tryz.prog.cellsOf t = n)
 (h : VarReads Tryz.prog W name (tabData k zs)) (i : Nat) (hi : i < zs.length) : W.cell? ⟨g, i, none⟩ = some (.int k (zs.getD i 0)) := by
 obtain ⟨g', t', cs, fuel, p, hg', ht', hvar, hd⟩ := h
 obtain rfl := Option.some.inj (hg.symm.trans hg')
 obtain rfl := Option.some.inj (hty.symm.trans ht')
 have hT : TabIs Tryz.prog W name k zs := by
  unfold TabIs
  rw [hvar, ← cells_of_tab ht he hce hct hd]
 exact hT.cell hg i hi
theorem fits {W : World} (h : VarReads Tryz.prog W "cleat/part.fitting" Rows.laid_cleat_part_fitting) (i : Nat) (hi : i < 20) :
 W.cell? ⟨0, i, none⟩ = some (.int .i64 (P.fittingL.getD i 0)) := by
 obtain ⟨g', t', cs, fuel, p, hg', ht', hvar, hd⟩ := h
 have hg : Tryz.prog.globalNamed "cleat/part.fitting" = some 0 := by kernel_rfl
 have hty : (Tryz.prog.globals[0]?).map (·.type) = some 139 := by kernel_rfl
 obtain rfl := Option.some.inj (hg.symm.trans hg')
 obtain rfl := Option.some.inj (hty.symm.trans ht')
 have hc2 : Tryz.prog.cellsOf 138 = 2 := by kernel_rfl
 obtain ⟨f', d, q, hdi, ht⟩ := array_elem (P := Tryz.prog) (t := 139) (e := 138) (n := 10) (by kernel_rfl) hd (i / 2) (by omega)
 rw [hc2] at ht
 have hd2 : d = tabData .i64 [P.fittingL.getD (i / 2 * 2) 0, P.fittingL.getD (i / 2 * 2 + 1) 0] := by
  have hj : i / 2 < 10 := by omega
  generalize i / 2 = j at hdi hj ⊢
  have hj' : j = 0 ∨ j = 1 ∨ j = 2 ∨ j = 3 ∨ j = 4 ∨ j = 5 ∨ j = 6 ∨ j = 7 ∨ j = 8 ∨ j = 9 := by omega
  rcases hj' with rfl | rfl | rfl | rfl | rfl | rfl | rfl | rfl | rfl | rfl <;> exact (Option.some.inj hdi).symm
 rw [hd2] at ht
 have hcs := cells_of_tab (P := Tryz.prog) (t := 138) (e := 3) (n := 2) (by kernel_rfl) (by kernel_rfl) (by kernel_rfl) (by kernel_rfl) ht
 have hrow := World.var?_cell hg hvar i
 rw [Array.getElem?_toList.symm] at hrow
 have hi2 : cs.toList[i]? = some (.int .i64 (P.fittingL.getD i 0)) := by
  have h1 : ((cs.toList.drop (i / 2 * 2)).take 2)[i % 2]? = cs.toList[i]? := by
   rw [List.getElem?_take, List.getElem?_drop, if_pos (by omega)]
   rw [show i / 2 * 2 + i % 2 = i by omega]
  rw [← h1, hcs]
  have h2 : i % 2 = 0 ∨ i % 2 = 1 := by omega
  rcases h2 with h2 | h2 <;> rw [h2] <;> simp only [List.map, List.getElem?_cons_zero, List.getElem?_cons_succ]
  ·rw [show i / 2 * 2 = i by omega]
  ·rw [show i / 2 * 2 + 1 = i by omega]
 exact hrow.trans hi2
theorem glob_of_laid {W : World} (hL : laidMetH Tryz.prog four W) : P.Glob W := by
 rw [MakeChecks.laidMetH_plain _ _ _ (by kernel_rfl)] at hL
 have h1 : ∀ i, i < 40 → W.cell? ⟨4, i, none⟩ = some (.int .i64 (P.shapesL.getD i 0)) := fun i hi =>
  tab (zs := P.shapesL) (t := 195) (e := 3) (n := 40) (by kernel_rfl) (by kernel_rfl) (by kernel_rfl) (by kernel_rfl) (by kernel_rfl) (by kernel_rfl) (laidMet.reads hL (.head _)) i hi
 have h2 : ∀ i, i < 40 → W.cell? ⟨3, i, none⟩ = some (.int .u32 (P.basesL.getD i 0)) := fun i hi =>
  tab (zs := P.basesL) (t := 194) (e := 124) (n := 40) (by kernel_rfl) (by kernel_rfl) (by kernel_rfl) (by kernel_rfl) (by kernel_rfl) (by kernel_rfl) (laidMet.reads hL (.tail _ (.head _))) i hi
 have h3 : ∀ i, i < 17 → W.cell? ⟨2, i, none⟩ = some (.int .u32 (P.fieldsL.getD i 0)) := fun i hi =>
  tab (zs := P.fieldsL) (t := 193) (e := 124) (n := 17) (by kernel_rfl) (by kernel_rfl) (by kernel_rfl) (by kernel_rfl) (by kernel_rfl) (by kernel_rfl) (laidMet.reads hL (.tail _ (.tail _ (.head _)))) i hi
 have h4 := fun i hi => fits (laidMet.reads hL (.tail _ (.tail _ (.tail _ (.tail _ (.tail _ (.tail _ (.head _)))))))) i hi
 exact ⟨h1, h2, h3, h4, cell_lt (h1 0 (by decide)), cell_lt (h2 0 (by decide)), cell_lt (h3 0 (by decide)), cell_lt (h4 0 (by decide))⟩
end Go.Proofs.YtngmipfodjgmmaaGreatDoor.Tables
end
