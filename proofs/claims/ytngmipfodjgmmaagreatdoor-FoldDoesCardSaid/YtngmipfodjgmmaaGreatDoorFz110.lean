/- Walks and plain laws of this claim, a part. -/
import Derived.Test.YtngmipfodjgmmaaGreatDoorFz108
set_option maxRecDepth 100000
set_option maxHeartbeats 8000000
set_option linter.unusedVariables false
set_option linter.unusedSimpArgs false
section
namespace Go.Proofs.YtngmipfodjgmmaaGreatDoor.Pure
open Go Go.RowKit Go.Lib Go.Shelf Wa Wb Wc Go.Proofs.YtngmipfodjgmmaaGreatDoor.Reach
open P (Glob UA nd ndI NdOk Rt root_at)
theorem Held.narrow' {us : List P.S39} (hh : Few us) : Narrow us := fun h i hi => by
 have := (hh.2 h).2 us[i] (List.getElem_mem hi)
 omega
theorem own_ev (us : List P.S39) (hh : Held us) (hl : us.length ≤ 300) : Ev (fun k => P.cleatref21_Own.f k us) us := by
 have go : ∀ (d i : Nat), i + d = us.length → Ev (fun k => P.cleatref21_Own.l0 k us (us.take i) (i : Int)) us := by
  intro d
  induction d with
  | zero =>
   intro i hi
   rw [List.take_of_length_le (by omega)]
   exact Ev.step (fun k => P.cleatref21_Own.l0.eq_2 _ _ _ _) (Ev.congr (fun k => if_neg (by omega)) (Ev.now _))
  | succ d ih =>
   intro i hi
   have e2 : P.rd_T39 us (i : Int) = us[i] := rd_get _ _ _ (by omega)
   have h5 := hh.2 us[i] (List.getElem_mem (by omega))
   refine Ev.step (fun k => P.cleatref21_Own.l0.eq_2 _ _ _ _) (Ev.congr (fun k => if_pos (by omega)) (Ev.congr (fun k => if_pos (by omega)) (Ev.congr (fun k => if_pos (by rw [e2]; simp; omega)) (Ev.congr (fun k => if_pos (by rw [List.length_take]; omega)) ?_))))
   rw [i64_succ i (by omega), e2]
   have := ih (i + 1) (by omega)
   rw [List.take_succ_eq_append_getElem (by omega)] at this
   exact this
 exact go us.length 0 (by omega)
theorem own_calls (us : List P.S39) (hh : Held us) (hl : us.length ≤ 300) (W : World) (A : Option Addr) (c : Nat) (hu : UA W A us) (hc : us.length ≤ c) :
 Calls Tryz.prog 8 #[.slice A us.length c] W fun e w' => ∃ A' c', e = .returned (.slice A' us.length c') ∧ us.length ≤ c' ∧ UA w' A' us ∧ Below W.heap.size W w' := by
 obtain ⟨K, hK⟩ := own_ev us hh hl
 refine (P.cleatref21_Own.calls K A c us us W hu hc (hK K (Nat.le_refl _))).mono ?_
 rintro e w' ⟨v, rfl, hv, hb⟩
 obtain ⟨A', c', rfl, h1, h2⟩ := Kd.S_reads hv
 exact ⟨A', c', rfl, h1, h2, hb⟩
theorem kp12 {w w1 : World} {p0 p1 p2 p3 p4 p5 p6 p7 p8 p9 p10 p11 : Addr} {v0 v1 v2 v3 v4 v5 v6 v7 v8 v9 v10 v11 : Value} (h : w.cell? p0 = some v0 ∧ w.cell? p1 = some v1 ∧ w.cell? p2 = some v2 ∧ w.cell? p3 = some v3 ∧ w.cell? p4 = some v4 ∧ w.cell? p5 = some v5 ∧ w.cell? p6 = some v6 ∧ w.cell? p7 = some v7 ∧ w.cell? p8 = some v8 ∧ w.cell? p9 = some v9 ∧ w.cell? p10 = some v10 ∧ w.cell? p11 = some v11) (hb : Below w.heap.size w w1) : w1.cell? p0 = some v0 ∧ w1.cell? p1 = some v1 ∧ w1.cell? p2 = some v2 ∧ w1.cell? p3 = some v3 ∧ w1.cell? p4 = some v4 ∧ w1.cell? p5 = some v5 ∧ w1.cell? p6 = some v6 ∧ w1.cell? p7 = some v7 ∧ w1.cell? p8 = some v8 ∧ w1.cell? p9 = some v9 ∧ w1.cell? p10 = some v10 ∧ w1.cell? p11 = some v11 := by
 obtain ⟨a0, a1, a2, a3, a4, a5, a6, a7, a8, a9, a10, a11⟩ := h
 exact ⟨kp1 a0 hb, kp1 a1 hb, kp1 a2 hb, kp1 a3 hb, kp1 a4 hb, kp1 a5 hb, kp1 a6 hb, kp1 a7 hb, kp1 a8 hb, kp1 a9 hb, kp1 a10 hb, kp1 a11 hb⟩
theorem srels_ev (l : List P.S98) (hl : l.length ≤ 4398046510976) : Ev (fun k => P.cleatref16_SameRels.f k l l) true := by
 have go : ∀ (d i : Nat), i + d = l.length → Ev (fun k => P.cleatref16_SameRels.l0 k l l (i : Int)) true := by
  intro d
  induction d with
  | zero => intro i hi; exact Ev.step (fun k => P.cleatref16_SameRels.l0.eq_2 _ _ _ _) (Ev.congr (fun k => if_neg (by omega)) (Ev.now _))
  | succ d ih =>
   intro i hi
   have e1 : wrap64 ((i : Int) + 1) = ((i + 1 : Nat) : Int) := by rw [wrap64_small _ (by omega) (by omega)]; rfl
   refine Ev.step (fun k => P.cleatref16_SameRels.l0.eq_2 _ _ _ _) (Ev.congr (fun k => if_pos (by omega)) (Ev.congr (fun k => if_pos (by omega)) (Ev.congr (fun k => if_pos (by omega)) (Ev.congr (fun k => if_neg (by simp)) ?_))))
   rw [e1]
   exact ih (i + 1) (by omega)
 unfold P.cleatref16_SameRels.f
 exact Ev.congr (fun k => if_pos rfl) (go l.length 0 (by omega))
theorem srels_calls (l : List P.S98) (hl : l.length ≤ 4398046510976) (W : World) (A B : Option Addr) (c d : Nat) (hA : Kd.C P.k98 W A l.length l) (hc : l.length ≤ c) (hB : Kd.C P.k98 W B l.length l) (hd : l.length ≤ d) :
 Calls Tryz.prog 62 #[.slice A l.length c, .slice B l.length d] W fun e w' => e = .returned (.bool true) ∧ Below W.heap.size W w' := by
 obtain ⟨K, hK⟩ := srels_ev l hl
 exact (P.cleatref16_SameRels.calls K A c l B d l true W hA hc hB hd (hK K (Nat.le_refl _))).mono fun e w' h => ⟨h.1, h.2.below⟩
theorem ssame_calls (u : P.S39) (hl : u.f5.length ≤ 4398046510976) (w : World) (A B : Option Addr) (c d : Nat) (hA : Kd.C P.k98 w A u.f5.length (u.f5.map relOf)) (hc : u.f5.length ≤ c) (hB : Kd.C P.k98 w B u.f5.length (u.f5.map relOf)) (hd : u.f5.length ≤ d) :
 Calls Tryz.prog 44 #[.agg #[.string u.f0, .int .i64 u.f1, .bool u.f2, .int .i64 u.f3, .string u.f4, .slice A u.f5.length c], .agg #[.string u.f0, .int .i64 u.f1, .bool u.f2, .int .i64 u.f3, .string u.f4, .slice B u.f5.length d]] w fun e w' => e = .returned (.bool true) ∧ Below w.heap.size w w' := by
 have hb := bAA (bAA (Below.refl w.heap.size w) (.cells #[.string u.f0, .int .i64 u.f1, .bool u.f2, .int .i64 u.f3, .string u.f4, .slice A u.f5.length c] 64)) (.cells #[.string u.f0, .int .i64 u.f1, .bool u.f2, .int .i64 u.f3, .string u.f4, .slice B u.f5.length d] 64)
 have HB := Azz.mk hb
 have HS := srels_calls (u.f5.map relOf) (by simpa using hl) _ A B c d (by simpa using Kd.C_below hA hb) (by simpa using hc) (by simpa using Kd.C_below hB hb) (by simpa using hd)
 rw [List.length_map] at HS
 have HS := Azz.mk HS
 have HX := Azz.mk (kAA (blk_new w (.cells #[.string u.f0, .int .i64 u.f1, .bool u.f2, .int .i64 u.f3, .string u.f4, .slice A u.f5.length c] 64)) (.cells #[.string u.f0, .int .i64 u.f1, .bool u.f2, .int .i64 u.f3, .string u.f4, .slice B u.f5.length d] 64))
 have HY := Azz.mk (blk_n2 w (.cells #[.string u.f0, .int .i64 u.f1, .bool u.f2, .int .i64 u.f3, .string u.f4, .slice A u.f5.length c] 64) (.cells #[.string u.f0, .int .i64 u.f1, .bool u.f2, .int .i64 u.f3, .string u.f4, .slice B u.f5.length d] 64))
 clear hA hB hb
 go_enter Tryz.func44, Tryz.ntmps44
 go_wp2_with fail
 (with_reducible refine HS.out.mono ?_)
 rintro e w1 ⟨rfl, hb⟩
 have HB2 := Azz.mk (bTT HB.out hb)
 clear hb
 go_wp2
 go_ret
 exact ⟨rfl, HB2.out⟩
theorem usame_calls (us : List P.S39) (hh : Held us) (hl : us.length ≤ 300) (w : World) (A B : Option Addr) (c d : Nat) (hA : UA w A us) (hB : UA w B us) :
 Calls Tryz.prog 14 #[.slice A us.length c, .slice B us.length d] w fun e w' => e = .returned (.bool true) ∧ Below w.heap.size w w' := by
 have HA := Azz.mk hA
 have HC := Azz.mk hB
 have HH := Azz.mk hh
 clear hA hB hh
 go_enter Tryz.func14, Tryz.ntmps14
 go_wp2
 go_loopw [5] (fun v wr => ∃ i : Nat, i ≤ us.length ∧ v = .int .i64 i ∧ Azz (Below w.heap.size w wr)) (fun v _ => us.length - (RowKit.intOf v).toNat)
 case atStart => exact ⟨0, Nat.zero_le _, rfl, ⟨Below.refl _ _⟩⟩
 case round =>
  obtain ⟨i, hi, rfl, HB⟩ := hrel
  by_cases hlt : i < us.length
  ·obtain ⟨ad, A5, c5, ea, y0, y1, y2, y3, y4, y5, l5, g5⟩ := P.at_T39 (Kd.C_below HA.out HB.out) i (by omega) (by omega)
   subst ea
   obtain ⟨ae, B5, d5, ea, z0, z1, z2, z3, z4, z5, m5, k5⟩ := P.at_T39 (Kd.C_below HC.out HB.out) i (by omega) (by omega)
   subst ea
   rw [Int.toNat_natCast] at y0 y1 y2 y3 y4 y5 z0 z1 z2 z3 z4 z5
   have e2 : P.rd_T39 us (i : Int) = us[i] := rd_get _ _ _ hlt
   obtain ⟨u, hu⟩ : ∃ u, us[i] = u := ⟨_, rfl⟩
   rw [e2, hu] at y0 y1 y2 y3 y4 y5 l5 g5 z0 z1 z2 z3 z4 z5 m5 k5
   have hnw : u.f5.length ≤ 4398046510976 := by rw [← hu]; exact HH.out.2 _ (List.getElem_mem hlt)
   have HG5 := Azz.mk (fun W (hb : Below wr.heap.size wr W) => rsec_any u hnw W A5 c5 (Kd.C_below g5 hb) l5)
   have HK5 := Azz.mk (fun W (hb : Below wr.heap.size wr W) => rsec_any u hnw W B5 d5 (Kd.C_below k5 hb) m5)
   have i0 : (0 : Int) ≤ (i : Int) := by omega
   have i1 : (i : Int) < us.length := by omega
   clear e2 hu g5 k5 l5 m5
   go_wp2
   go_region_held3 (fun w' => w'.cell? (ad.add (i * 6)) = some (.string u.f0) ∧ w'.cell? ⟨(ad.add (i * 6)).block, (ad.add (i * 6)).off + 1, none⟩ = some (.int .i64 u.f1) ∧ w'.cell? ⟨(ad.add (i * 6)).block, (ad.add (i * 6)).off + 2, none⟩ = some (.bool u.f2) ∧ w'.cell? ⟨(ad.add (i * 6)).block, (ad.add (i * 6)).off + 3, none⟩ = some (.int .i64 u.f3) ∧ w'.cell? ⟨(ad.add (i * 6)).block, (ad.add (i * 6)).off + 4, none⟩ = some (.string u.f4) ∧ w'.cell? ⟨(ad.add (i * 6)).block, (ad.add (i * 6)).off + 5, none⟩ = some (.slice A5 u.f5.length c5) ∧ w'.cell? (ae.add (i * 6)) = some (.string u.f0) ∧ w'.cell? ⟨(ae.add (i * 6)).block, (ae.add (i * 6)).off + 1, none⟩ = some (.int .i64 u.f1) ∧ w'.cell? ⟨(ae.add (i * 6)).block, (ae.add (i * 6)).off + 2, none⟩ = some (.bool u.f2) ∧ w'.cell? ⟨(ae.add (i * 6)).block, (ae.add (i * 6)).off + 3, none⟩ = some (.int .i64 u.f3) ∧ w'.cell? ⟨(ae.add (i * 6)).block, (ae.add (i * 6)).off + 4, none⟩ = some (.string u.f4) ∧ w'.cell? ⟨(ae.add (i * 6)).block, (ae.add (i * 6)).off + 5, none⟩ = some (.slice B5 u.f5.length d5)) (first | go_keep | exact kp12 (by assumption) hb1 | exact kp12 (by assumption) hb2 | exact kp12 (by assumption) hb3) (first | (go_at_call 39; (with_reducible refine (HG5.out _ ?d1).mono ?_); (case d1 => repeat (first | exact Below.refl _ _ | apply bDD | apply bNN | (refine bTT ?_ hb2) | (refine bTT ?_ hb1))); rintro en w2 ⟨A1, c1, rfl, hl1, hC1, hb1⟩) | (go_at_call 39; (with_reducible refine (HK5.out _ ?d1).mono ?_); (case d1 => repeat (first | exact Below.refl _ _ | apply bDD | apply bNN | (refine bTT ?_ hb2) | (refine bTT ?_ hb1))); rintro en w2 ⟨B1, d1, rfl, hm1, hK1, hb2⟩; (have hC2 := Kd.C_below hC1 (show Below _ _ w2 from bTT (by repeat (first | exact Below.refl _ _ | apply bDD | apply bNN)) hb2))) | (go_at_call 44; (with_reducible refine (ssame_calls u hnw _ A1 B1 c1 d1 (Kd.C_below hC2 ?d1) hl1 (Kd.C_below hK1 ?d2) hm1).mono ?_); (case d1 => repeat (first | exact Below.refl _ _ | apply bDD | apply bNN | (refine bTT ?_ hb2) | (refine bTT ?_ hb1))); (case d2 => repeat (first | exact Below.refl _ _ | apply bDD | apply bNN | (refine bTT ?_ hb2) | (refine bTT ?_ hb1))); rintro en w2 ⟨rfl, hb3⟩))
   have HB2 := Azz.mk (bTT HB.out (by repeat (first | exact Below.refl _ _ | apply bDD | apply bNN | (refine bTT ?_ hb3) | (refine bTT ?_ hb2) | (refine bTT ?_ hb1)) : Below wr.heap.size wr w2))
   clear y0 y1 y2 y3 y4 y5 z0 z1 z2 z3 z4 z5 hb1 hb2 hb3 HG5 HK5
   go_wp2
   go_roundw
   case rel => exact ⟨i + 1, by omega, by go_num, HB2⟩
   case measure => simp [RowKit.intOf]; omega
  obtain rfl : i = us.length := by omega
  go_wp2
  go_ret
  exact ⟨rfl, HB.out⟩
theorem bsame_ev (l : List Bool) (hl : l.length ≤ 100000) : Ev (fun k => P.cleatref21_Bools.f k l l) true := by
 have go : ∀ (d i : Nat), i + d = l.length → Ev (fun k => P.cleatref21_Bools.l0 k l l (i : Int)) true := by
  intro d
  induction d with
  | zero => intro i hi; exact Ev.step (fun k => P.cleatref21_Bools.l0.eq_2 _ _ _ _) (Ev.congr (fun k => if_neg (by omega)) (Ev.now _))
  | succ d ih =>
   intro i hi
   refine Ev.step (fun k => P.cleatref21_Bools.l0.eq_2 _ _ _ _) (Ev.congr (fun k => if_pos (by omega)) (Ev.congr (fun k => if_pos (by omega)) (Ev.congr (fun k => if_pos (by omega)) (Ev.congr (fun k => if_neg (by simp)) ?_))))
   rw [i64_succ i (by omega)]
   exact ih (i + 1) (by omega)
 unfold P.cleatref21_Bools.f
 exact Ev.congr (fun k => if_pos rfl) (go l.length 0 (by omega))
theorem isame_ev (l : List Int) (hl : l.length ≤ 100000) : Ev (fun k => P.cleatref04_Same.f k l l) true := by
 have go : ∀ (d i : Nat), i + d = l.length → Ev (fun k => P.cleatref04_Same.l0 k l l (i : Int)) true := by
  intro d
  induction d with
  | zero => intro i hi; exact Ev.step (fun k => P.cleatref04_Same.l0.eq_2 _ _ _ _) (Ev.congr (fun k => if_neg (by omega)) (Ev.now _))
  | succ d ih =>
   intro i hi
   refine Ev.step (fun k => P.cleatref04_Same.l0.eq_2 _ _ _ _) (Ev.congr (fun k => if_pos (by omega)) (Ev.congr (fun k => if_pos (by omega)) (Ev.congr (fun k => if_pos (by omega)) (Ev.congr (fun k => if_pos rfl) ?_))))
   rw [i64_succ i (by omega)]
   exact ih (i + 1) (by omega)
 unfold P.cleatref04_Same.f
 exact Ev.congr (fun k => if_pos rfl) (go l.length 0 (by omega))
def SeenR (us : List P.S39) (roots : List Int) (bl : List Bool) (er : Int) : Prop := (¬ (UOk us ∧ ROk us roots) ∧ bl = [] ∧ er = 1) ∨ ((UOk us ∧ ROk us roots) ∧ bl.length = us.length ∧ (∀ i, sn bl i ↔ RS (nd us) (Rt roots) i) ∧ er = 0)
theorem sn_ext {a b : List Bool} (hl : a.length = b.length) (h : ∀ i, sn a i ↔ sn b i) : a = b := by
 refine List.ext_getElem hl fun i h1 h2 => ?_
 have := h i
 unfold sn at this
 rw [List.getD_eq_getElem?_getD, List.getElem?_eq_getElem h1, List.getD_eq_getElem?_getD, List.getElem?_eq_getElem h2] at this
 exact Bool.eq_iff_iff.2 this
theorem SeenR.one {us roots a er b er'} (h : SeenR us roots a er) (k : SeenR us roots b er') : a = b ∧ er = er' := by
 rcases h with ⟨x, rfl, rfl⟩ | ⟨x, l1, i1, rfl⟩ <;> rcases k with ⟨y, rfl, rfl⟩ | ⟨y, l2, i2, rfl⟩
 ·exact ⟨rfl, rfl⟩
 ·exact absurd y x
 ·exact absurd x y
 exact ⟨sn_ext (by omega) fun i => (i1 i).trans (i2 i).symm, rfl⟩
end Go.Proofs.YtngmipfodjgmmaaGreatDoor.Pure
end
section
namespace Go.Proofs.YtngmipfodjgmmaaGreatDoor.Pure
open Go Go.RowKit Go.Lib Go.Shelf Wa Wb Wc
theorem ralike_calls (w : World) (x y : P.S39) (A B : Option Addr) (c d : Nat) (hx : Kd.C P.k80 w A x.f5.length x.f5) (hc : x.f5.length ≤ c) (hy : Kd.C P.k80 w B y.f5.length y.f5) (hd : y.f5.length ≤ d) (hl : x.f5.length ≤ 4398046510976) :
 Calls Tryz.prog 18 #[.agg #[.string x.f0, .int .i64 x.f1, .bool x.f2, .int .i64 x.f3, .string x.f4, .slice A x.f5.length c], .agg #[.string y.f0, .int .i64 y.f1, .bool y.f2, .int .i64 y.f3, .string y.f4, .slice B y.f5.length d]] w fun e w' => e = .returned (.bool (alikeU x y)) ∧ Below w.heap.size w w' := by
 have HX := Azz.mk hx
 have HY := Azz.mk hy
 have HAl := Azz.mk (alikeU_iff (x := x) (y := y))
 obtain ⟨al, hal⟩ : ∃ b, alikeU x y = b := ⟨_, rfl⟩
 rw [hal] at HAl ⊢
 clear hal hx hy hc hd
 obtain ⟨xn, xk, xb, xa, xd, xr⟩ := x
 obtain ⟨yn, yk, yb, ya, yd, yr⟩ := y
 dsimp only at HX HY HAl hl ⊢
 have HB := Azz.mk (bAA (bAA (Below.refl w.heap.size w) (.cells #[.string xn, .int .i64 xk, .bool xb, .int .i64 xa, .string xd, .slice A xr.length c] 39)) (.cells #[.string yn, .int .i64 yk, .bool yb, .int .i64 ya, .string yd, .slice B yr.length d] 39))
 have hX := kAA (blk_new w (.cells #[.string xn, .int .i64 xk, .bool xb, .int .i64 xa, .string xd, .slice A xr.length c] 39)) (.cells #[.string yn, .int .i64 yk, .bool yb, .int .i64 ya, .string yd, .slice B yr.length d] 39)
 have hY := blk_new (w.alloc (.cells #[.string xn, .int .i64 xk, .bool xb, .int .i64 xa, .string xd, .slice A xr.length c] 39)) (.cells #[.string yn, .int .i64 yk, .bool yb, .int .i64 ya, .string yd, .slice B yr.length d] 39)
 rw [World.size_alloc] at hY
 have HXb := Azz.mk hX
 have HYb := Azz.mk hY
 have x1 := (kCC hX 1).trans rfl
 have x4 := (kCC hX 4).trans rfl
 have x5 := (kCC hX 5).trans rfl
 have y1 := (kCC hY 1).trans rfl
 have y4 := (kCC hY 4).trans rfl
 have y5 := (kCC hY 5).trans rfl
 have no : ∀ {W : World}, ¬ (xk = 1 ∧ yk = 1 ∧ xd.toList = yd.toList ∧ xr.map rkey = yr.map rkey) → Below w.heap.size w W → Ending.returned (.bool false) = Ending.returned (.bool al) ∧ Below w.heap.size w W := fun h hb => by
  cases al with
  | false => exact ⟨rfl, hb⟩
  | true => exact absurd (HAl.out.1 rfl) h
 have HNo := Azz.mk @no
 clear no hX hY
 go_enter Tryz.func18, Tryz.ntmps18
 by_cases c1 : xk = 1
 rotate_left
 ·have b1 : (xk != 1) = true := bN_ c1
  have HN := Azz.mk (show ¬ (xk = 1 ∧ yk = 1 ∧ xd.toList = yd.toList ∧ xr.map rkey = yr.map rkey) from fun h => c1 h.1)
  clear c1
  go_wp2
  go_ret
  exact HNo.out HN.out HB.out
 have b1 : (xk != 1) = false := by simp [c1]
 by_cases c2 : yk = 1
 rotate_left
 ·have b2 : (yk != 1) = true := bN_ c2
  have HN := Azz.mk (show ¬ (xk = 1 ∧ yk = 1 ∧ xd.toList = yd.toList ∧ xr.map rkey = yr.map rkey) from fun h => c2 h.2.1)
  clear c1 c2
  go_wp2
  go_ret
  exact HNo.out HN.out HB.out
 have b2 : (yk != 1) = false := by simp [c2]
 by_cases c3 : xd.toList = yd.toList
 rotate_left
 ·have b3 : (xd.toList == yd.toList) = false := bF_ c3
  have HN := Azz.mk (show ¬ (xk = 1 ∧ yk = 1 ∧ xd.toList = yd.toList ∧ xr.map rkey = yr.map rkey) from fun h => c3 h.2.2.1)
  clear c1 c2 c3
  go_wp2
  go_ret
  exact HNo.out HN.out HB.out
 have b3 : (xd.toList == yd.toList) = true := by simp [c3]
 by_cases c4 : xr.length = yr.length
 rotate_left
 ·have b4 : ((xr.length : Int) != yr.length) = true := bN_ (by omega)
  have HN := Azz.mk (show ¬ (xk = 1 ∧ yk = 1 ∧ xd.toList = yd.toList ∧ xr.map rkey = yr.map rkey) from fun h => c4 (by have := congrArg List.length h.2.2.2; simpa using this))
  clear c1 c2 c3 c4
  go_wp2
  go_ret
  exact HNo.out HN.out HB.out
 have b4 : ((xr.length : Int) != yr.length) = false := by simp [c4]
 have H1 := Azz.mk (And.intro c1 (And.intro c2 (And.intro c3 c4)))
 clear c1 c2 c3 c4
 go_wp2
 clear x1 x4 x5 y1 y4 y5 b1 b2 b3 b4
 generalize (w.alloc (.cells #[.string xn, .int .i64 xk, .bool xb, .int .i64 xa, .string xd, .slice A xr.length c] 39)).alloc (.cells #[.string yn, .int .i64 yk, .bool yb, .int .i64 ya, .string yd, .slice B yr.length d] 39) = V at HB HXb HYb ⊢
 go_loopw [5] (fun v wr => ∃ i : Nat, i ≤ xr.length ∧ v = .int .i64 i ∧ Azz ((xr.take i).map rkey = (yr.take i).map rkey) ∧ Azz (Below V.heap.size V wr)) (fun v _ => xr.length - (RowKit.intOf v).toNat)
 case atStart => exact ⟨0, Nat.zero_le _, rfl, ⟨rfl⟩, ⟨Below.refl _ _⟩⟩
 case round =>
  obtain ⟨i, hi, rfl, HM, HBr⟩ := hrel
  have HB2 := Azz.mk (bTT HB.out HBr.out)
  have xc := (kCC (kBB HXb.out HBr.out) 5).trans rfl
  by_cases hlt : i < xr.length
  rotate_left
  ·obtain rfl : i = xr.length := by omega
   have HT : Azz (al = true) := ⟨HAl.out.2 ⟨H1.out.1, H1.out.2.1, H1.out.2.2.1, by have h := HM.out; rw [List.take_of_length_le (Nat.le_refl _), List.take_of_length_le (by have := H1.out.2.2.2; omega)] at h; exact h⟩⟩
   obtain rfl := HT.out
   go_wp2
   go_ret
   exact ⟨rfl, HB2.out⟩
  have hly : i < yr.length := by have := H1.out; omega
  obtain ⟨ad, e, s0, s1, s2, s3⟩ := P.at_T80 (Kd.C_below HX.out HB2.out) i (by omega) (by omega)
  cases e
  obtain ⟨ae, e, t0, t1, t2, t3⟩ := P.at_T80 (Kd.C_below HY.out HB2.out) i (by omega) (by omega)
  cases e
  rw [Int.toNat_natCast] at s0 s1 s2 s3 t0 t1 t2 t3
  have ex : P.rd_T80 xr (i : Int) = xr[i] := rd_get _ _ _ hlt
  have ey : P.rd_T80 yr (i : Int) = yr[i] := rd_get _ _ _ hly
  rw [ex] at s0 s1 s2 s3
  rw [ey] at t0 t1 t2 t3
  obtain ⟨r, hr⟩ : ∃ r, xr[i] = r := ⟨_, rfl⟩
  obtain ⟨q, hq⟩ : ∃ r, yr[i] = r := ⟨_, rfl⟩
  have HOff : Azz (rkey r ≠ rkey q → ¬ (xk = 1 ∧ yk = 1 ∧ xd.toList = yd.toList ∧ xr.map rkey = yr.map rkey)) := ⟨fun h hh => h (by
   have e := congrArg (fun l => l[i]?) hh.2.2.2
   simp only [List.getElem?_map, List.getElem?_eq_getElem hlt, List.getElem?_eq_getElem hly, Option.map_some, Option.some.injEq] at e
   rw [hr, hq] at e
   exact e)⟩
  have HOn : Azz (rkey r = rkey q → (xr.take (i + 1)).map rkey = (yr.take (i + 1)).map rkey) := ⟨fun h => by
   rw [List.take_succ_eq_append_getElem hlt, List.take_succ_eq_append_getElem hly, List.map_append, List.map_append, HM.out, hr, hq]
   show _ ++ [rkey r] = _ ++ [rkey q]
   rw [h]⟩
  rw [hr] at s0 s1 s2 s3
  rw [hq] at t0 t1 t2 t3
  obtain ⟨r0, r1, r2, r3⟩ := r
  obtain ⟨q0, q1, q2, q3⟩ := q
  dsimp only at s0 s1 s2 s3 t0 t1 t2 t3
  have hb1 := bAA (Below.refl wr.heap.size wr) (.cells #[.int .i64 r0, .int .i64 r1, .int .i64 r2, .int .i64 r3] 80)
  have yc := kp1 ((kCC (kBB HYb.out HBr.out) 5).trans rfl) hb1
  replace t0 := kp1 t0 hb1
  replace t1 := kp1 t1 hb1
  replace t2 := kp1 t2 hb1
  replace t3 := kp1 t3 hb1
  have hR := kAA (blk_new wr (.cells #[.int .i64 r0, .int .i64 r1, .int .i64 r2, .int .i64 r3] 80)) (.cells #[.int .i64 q0, .int .i64 q1, .int .i64 q2, .int .i64 q3] 80)
  have hQ := blk_new (wr.alloc (.cells #[.int .i64 r0, .int .i64 r1, .int .i64 r2, .int .i64 r3] 80)) (.cells #[.int .i64 q0, .int .i64 q1, .int .i64 q2, .int .i64 q3] 80)
  rw [World.size_alloc] at hQ
  obtain ⟨u0, u1, u2, u3⟩ := cl4 hR
  obtain ⟨z0, z1, z2, z3⟩ := cl4 hQ
  have HBn := Azz.mk (bAA (bAA HBr.out (.cells #[.int .i64 r0, .int .i64 r1, .int .i64 r2, .int .i64 r3] 80)) (.cells #[.int .i64 q0, .int .i64 q1, .int .i64 q2, .int .i64 q3] 80))
  have i0 : (0 : Int) ≤ (i : Int) := by omega
  have i1 : (i : Int) < xr.length := by omega
  have i2 : (i : Int) < yr.length := by omega
  clear ex ey hr hq hR hQ hb1
  by_cases d1 : r0 = q0
  ·have e1 : (r0 != q0) = false := by simp [d1]
   by_cases d2 : r1 = q1
   ·have e2 : (r1 != q1) = false := by simp [d2]
    by_cases d3 : r3 = q3
    ·have e3 : (r3 != q3) = false := by simp [d3]
     have HN := Azz.mk (HOn.out (by unfold rkey; rw [d1, d2, d3]))
     clear d1 d2 d3
     go_wp2
     go_roundw
     case rel => exact ⟨i + 1, by omega, by go_num, HN, HBn⟩
     case measure => simp [RowKit.intOf]; omega
    have e3 : (r3 != q3) = true := bN_ d3
    have HN := Azz.mk (HOff.out (fun h => d3 (congrArg (·.2.2) h)))
    clear d1 d2 d3
    go_wp2
    go_ret
    exact HNo.out HN.out (bTT HB.out HBn.out)
   have e2 : (r1 != q1) = true := bN_ d2
   have HN := Azz.mk (HOff.out (fun h => d2 (congrArg (·.2.1) h)))
   clear d1 d2
   go_wp2
   go_ret
   exact HNo.out HN.out (bTT HB.out HBn.out)
  have e1 : (r0 != q0) = true := bN_ d1
  have HN := Azz.mk (HOff.out (fun h => d1 (congrArg (·.1) h)))
  clear d1
  go_wp2
  go_ret
  exact HNo.out HN.out (bTT HB.out HBn.out)
end Go.Proofs.YtngmipfodjgmmaaGreatDoor.Pure
end
