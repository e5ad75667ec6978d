/- Walks and plain laws of this claim, a part. -/
import Derived.Test.YtngmipfodjgmmaaGreatDoorFz112
import Derived.Test.YtngmipfodjgmmaaGreatDoorChecked
import Derived.Test.YtngmipfodjgmmaaGreatDoorRows
import Derived.LaidMore
import Derived.LaidLaws
import Derived.MakeChecks
import Derived.Lib.LaidU8
set_option maxRecDepth 100000
set_option maxHeartbeats 16000000
set_option linter.unusedVariables false
set_option linter.unusedSimpArgs false
section
namespace Go.Proofs.YtngmipfodjgmmaaGreatDoor.Pure
open Go Go.RowKit Go.Lib Go.Shelf Wa Wb Wc Go.Proofs.YtngmipfodjgmmaaGreatDoor.Reach
open P (Glob UA nd ndI NdOk Rt root_at)
abbrev T_ : Bool := true
abbrev F_ : Bool := false
def FldR (us : List P.S39) (ins : List Bool) (l : List Int) (er : Int) : Prop := (¬ FOk us ins ∧ l = [] ∧ er = 1) ∨ (FOk us ins ∧ l = foldL us ins ∧ er = 0)
theorem FldR.one {us ins a er b er'} (h : FldR us ins a er) (k : FldR us ins b er') : a = b ∧ er = er' := by
 rcases h with ⟨h1, rfl, rfl⟩ | ⟨h1, rfl, rfl⟩ <;> rcases k with ⟨k1, rfl, rfl⟩ | ⟨k1, rfl, rfl⟩
 ·exact ⟨rfl, rfl⟩
 ·exact absurd k1 h1
 ·exact absurd h1 k1
 exact ⟨rfl, rfl⟩
def FldPost (us : List P.S39) (ins : List Bool) (w : World) (e : Ending) (w' : World) : Prop := ∃ A cp l er, e = .returned (.tuple #[.slice A l.length cp, .int .i64 er]) ∧ l.length ≤ cp ∧ FldR us ins l er ∧ IA w' A l ∧ Below w.heap.size w w'
theorem fld_of {us ins w e w'} (hul : us.length ≤ 100000) (h : FoldPost us ins w e w') : FldPost us ins w e w' := by
 obtain ⟨hb, ⟨hno, rfl⟩ | ⟨hok, pb, rfl, hl, _⟩⟩ := h
 ·exact ⟨none, 0, [], 1, rfl, Nat.le_refl _, .inl ⟨hno, rfl, rfl⟩, Kd.C_nil _ _, hb⟩
 refine ⟨some ⟨pb, 0, none⟩, us.length, foldL us ins, 0, by rw [foldL_length], by rw [foldL_length]; exact Nat.le_refl _, .inr ⟨hok, rfl, rfl⟩, hl.reads (by rw [foldL_length]; exact hul), hb⟩
theorem rfld_of {us ins w e w'} (h : RFoldPost us ins w e w') : FldPost us ins w e w' := by
 obtain ⟨hb, ⟨hno, rfl⟩ | ⟨hok, A, cp, rfl, hc, hl⟩⟩ := h
 ·exact ⟨none, 0, [], 1, rfl, Nat.le_refl _, .inl ⟨hno, rfl, rfl⟩, Kd.C_nil _ _, hb⟩
 exact ⟨A, cp, foldL us ins, 0, by rw [foldL_length], by rw [foldL_length]; exact hc, .inr ⟨hok, rfl, rfl⟩, hl, hb⟩
theorem FldR.len {us ins l er} (h : FldR us ins l er) (hul : us.length ≤ 300) : l.length ≤ 100000 := by
 rcases h with ⟨_, rfl, _⟩ | ⟨_, rfl, _⟩
 ·exact Nat.zero_le _
 rw [foldL_length]; omega
def SvR (us : List P.S39) (ins : List Bool) (n er : Int) : Prop := (¬ FOk us ins ∧ n = 0 ∧ er = 1) ∨ (FOk us ins ∧ n = savedF us ins us.length ∧ er = 0)
theorem SvR.one {us ins a er b er'} (h : SvR us ins a er) (k : SvR us ins b er') : a = b ∧ er = er' := by
 rcases h with ⟨h1, rfl, rfl⟩ | ⟨h1, rfl, rfl⟩ <;> rcases k with ⟨k1, rfl, rfl⟩ | ⟨k1, rfl, rfl⟩
 ·exact ⟨rfl, rfl⟩
 ·exact absurd k1 h1
 ·exact absurd h1 k1
 exact ⟨rfl, rfl⟩
theorem sv_of {us ins w e w'} (h : SavedPost us ins w e w') : ∃ n er, e = .returned (.tuple #[.int .i64 n, .int .i64 er]) ∧ SvR us ins n er ∧ Below w.heap.size w w' := by
 obtain ⟨hb, ⟨hno, rfl⟩ | ⟨hok, rfl⟩⟩ := h
 ·exact ⟨0, 1, rfl, .inl ⟨hno, rfl, rfl⟩, hb⟩
 exact ⟨_, 0, rfl, .inr ⟨hok, rfl, rfl⟩, hb⟩
theorem info_bool2 : (Tryz.prog.info? 4).map (fun i => (i.zero, i.size, i.bytes)) = some (some (.bool false), 1, 1) := by kernel_rfl
def TruePost (w : World) (e : Ending) (w' : World) : Prop := e = .returned (.bool true) ∧ Below w.heap.size w w'
theorem fdoes_any (w : World) (A A2 : Option Addr) (us : List P.S39) (ins : List Bool) (za zb : Int) (c c2 : Nat) (hG : Glob w) (hu : UA w A us) (hc : us.length ≤ c) (hh : Held us) (hi : BA w A2 ins) (hic : ins.length ≤ c2) :
 Calls Tryz.prog 3 #[.slice A us.length c, .slice A2 ins.length c2, .int .i64 za, .int .i64 zb] w (TruePost w) := by
 have HG := Azz.mk hG
 have HU := Azz.mk hu
 have HI := Azz.mk hi
 have HH := Azz.mk hh
 have HC := Azz.mk hc
 have HIc := Azz.mk hic
 obtain ⟨b, hbig, hfew⟩ := bigU_calls us hh w A c hu hc
 have HBig := Azz.mk hbig
 have HFew := Azz.mk hfew
 clear hG hu hi hh hbig hfew hc
 go_enter Tryz.func3, Tryz.ntmps3
 go_wp2_with fail
 (with_reducible refine HBig.out.mono ?_)
 rintro e w1 ⟨rfl, hb⟩
 have HB := Azz.mk hb
 clear hb HBig
 cases b with
 | true =>
  go_wp2
  go_ret
  exact ⟨rfl, HB.out⟩
 | false =>
  have HFe := Azz.mk (HFew.out rfl)
  clear HFew
  by_cases c3 : (300 : Int) < ins.length
  ·have b3 : decide ((300 : Int) < ins.length) = true := dT_ c3
   clear c3
   go_wp2
   go_ret
   exact ⟨rfl, HB.out⟩
  have b3 : decide ((300 : Int) < ins.length) = false := dF_ c3
  have hl3 := HFe.out.1
  have hnw := Held.narrow' HFe.out
  have HNw := Azz.mk hnw
  have HIl := Azz.mk (show ins.length ≤ 300 by omega)
  clear c3 hnw
  -- copies
  go_wp2_with fail
  (with_reducible refine (own_calls us HH.out hl3 w1 A c (Kd.C_below HU.out HB.out) HC.out).mono ?_)
  rintro e w2 ⟨Ao, co, rfl, hco, huo, hb⟩
  replace HB := Azz.mk (bTT HB.out hb)
  have HO := Azz.mk huo
  have HCo := Azz.mk hco
  clear hb huo hco
  go_wp2_with (at_builtin; refine Kd.R_append_rows Kd.bool (w0 := w2) w2.heap.size rfl (.tmp 28) (.tmp 29) 23 4 (.bool false) 1 rfl Tryz.underlying23 info_bool2 rfl (by decide) (by decide) (.slice none 0 0) [] ins A2 ins.length c2 (fun _ => True) (fun _ => False) rfl rfl (Kd.R_nil _ _ _ _ _) (Kd.C_below HI.out HB.out) (fun _ _ h => h) (fun _ h => h.elim) (fun _ _ => trivial) (Below.refl _ _) (Nat.le_refl _) (by have := HIl.out; simp; omega) ?_; intro v1 w3 ho1 hb1 _ _; rw [List.nil_append] at ho1; obtain ⟨Am, cm, rfl, hcm, hM⟩ := Kd.R_reads ho1; have HM := Azz.mk hM; have HCm := Azz.mk hcm; replace HB := Azz.mk (bTT HB.out hb1); replace HO := Azz.mk (Kd.C_below HO.out hb1); clear ho1 hb1 hM hcm)
  -- folded
  (with_reducible refine ((fold_any _ A A2 us ins c c2 (HG.out.below HB.out) (Kd.C_below HU.out HB.out) HC.out HNw.out (by omega) (Kd.C_below HI.out HB.out) (by have := HIl.out; omega) HIc.out).mono (fun _ _ h => fld_of (by omega) h)).mono ?_)
  rintro e w4 ⟨Aa, ca, la, ea, rfl, hca, hra, hia, hb⟩
  replace HB := Azz.mk (bTT HB.out hb)
  replace HO := Azz.mk (Kd.C_below HO.out hb)
  replace HM := Azz.mk (Kd.C_below HM.out hb)
  have HA := Azz.mk hia
  have HRa := Azz.mk (And.intro hra hca)
  clear hb hia hra hca
  go_wp2_with fail
  (with_reducible refine ((rfold_any _ Ao Am us ins co cm HO.out HCo.out HNw.out (by omega) HM.out (by have := HIl.out; omega) HCm.out).mono (fun _ _ h => rfld_of h)).mono ?_)
  rintro e w5 ⟨Ab, cb, lb, eb, rfl, hcb, hrb, hib, hb⟩
  replace HB := Azz.mk (bTT HB.out hb)
  replace HO := Azz.mk (Kd.C_below HO.out hb)
  replace HM := Azz.mk (Kd.C_below HM.out hb)
  replace HA := Azz.mk (Kd.C_below HA.out hb)
  have HBb := Azz.mk hib
  obtain ⟨rfl, rfl⟩ := FldR.one HRa.out.1 hrb
  have HCb := Azz.mk hcb
  clear hb hib hrb hcb
  -- saved
  go_wp2_with fail
  (with_reducible refine ((saved_any _ A A2 us ins c c2 (HG.out.below HB.out) (Kd.C_below HU.out HB.out) HC.out HNw.out (by omega) (Kd.C_below HI.out HB.out) (by have := HIl.out; omega) HIc.out).mono (fun _ _ h => sv_of h)).mono ?_)
  rintro e w6 ⟨na, ga, rfl, hna, hb⟩
  replace HB := Azz.mk (bTT HB.out hb)
  replace HO := Azz.mk (Kd.C_below HO.out hb)
  replace HM := Azz.mk (Kd.C_below HM.out hb)
  replace HA := Azz.mk (Kd.C_below HA.out hb)
  replace HBb := Azz.mk (Kd.C_below HBb.out hb)
  have HNa := Azz.mk hna
  clear hb hna
  go_wp2_with fail
  (with_reducible refine ((rsaved_any _ Ao Am us ins co cm HO.out HCo.out HNw.out (by omega) HM.out (by have := HIl.out; omega) HCm.out).mono (fun _ _ h => sv_of h)).mono ?_)
  rintro e w7 ⟨nb, gb, rfl, hnb, hb⟩
  replace HB := Azz.mk (bTT HB.out hb)
  replace HO := Azz.mk (Kd.C_below HO.out hb)
  replace HM := Azz.mk (Kd.C_below HM.out hb)
  replace HA := Azz.mk (Kd.C_below HA.out hb)
  replace HBb := Azz.mk (Kd.C_below HBb.out hb)
  obtain ⟨rfl, rfl⟩ := SvR.one HNa.out hnb
  clear hb hnb
  -- the same
  obtain ⟨K1, hK1⟩ := isame_ev la (HRa.out.1.len hl3)
  obtain ⟨K2, hK2⟩ := bsame_ev ins (by have := HIl.out; omega)
  have H1 := Azz.mk (P.cleatref04_Same.calls K1 Aa ca la Ab cb la true w7 HA.out HRa.out.2 HBb.out HCb.out (hK1 K1 (Nat.le_refl _)))
  clear hK1
  go_wp2_with fail
  (with_reducible refine H1.out.mono ?_)
  rintro e w8 ⟨rfl, nd1, rfl⟩
  have H3 := Azz.mk (usame_calls us HH.out hl3 (w7.drewN nd1) A Ao c co (Kd.C_below HU.out (bNN HB.out _)) (Kd.C_below HO.out (bNN (Below.refl _ _) _)))
  clear H1
  go_wp2_with fail
  (with_reducible refine H3.out.mono ?_)
  rintro e w9 ⟨rfl, hb⟩
  replace HB := Azz.mk (bTT (bNN HB.out nd1) hb)
  replace HO := Azz.mk (Kd.C_below (Kd.C_below HO.out (bNN (Below.refl _ _) nd1)) hb)
  replace HM := Azz.mk (Kd.C_below (Kd.C_below HM.out (bNN (Below.refl _ _) nd1)) hb)
  have H2 := Azz.mk (P.cleatref21_Bools.calls K2 A2 c2 ins Am cm ins true w9 (Kd.C_below HI.out HB.out) HIc.out HM.out HCm.out (hK2 K2 (Nat.le_refl _)))
  clear hb hK2 H3
  go_wp2_with fail
  (with_reducible refine H2.out.mono ?_)
  rintro e w10 ⟨rfl, nd2, rfl⟩
  replace HB := Azz.mk (bNN HB.out nd2)
  replace HO := Azz.mk (Kd.C_below HO.out (bNN (Below.refl _ _) nd2))
  clear H2
  generalize w9.drewN nd2 = w11 at HB HO ⊢
  have HFo := Azz.mk (folded_any w11 (HG.out.below HB.out))
  by_cases a1 : za < 0
  ·have d1 : decide (za < 0) = true := dT_ a1
   go_wp2_with fail
   (with_reducible refine HFo.out.mono ?_)
   rintro e w12 ⟨rfl, hb⟩
   replace HB := Azz.mk (bTT HB.out hb)
   clear hb
   go_wp2
   go_ret
   exact ⟨rfl, HB.out⟩
  have d1 : decide (za < 0) = false := dF_ a1
  by_cases a2 : (us.length : Int) ≤ za
  ·have d2 : decide ((us.length : Int) ≤ za) = true := dT_ a2
   go_wp2_with fail
   (with_reducible refine HFo.out.mono ?_)
   rintro e w12 ⟨rfl, hb⟩
   replace HB := Azz.mk (bTT HB.out hb)
   clear hb
   go_wp2
   go_ret
   exact ⟨rfl, HB.out⟩
  have d2 : decide ((us.length : Int) ≤ za) = false := dF_ a2
  by_cases a3 : zb < 0
  ·have d3 : decide (zb < 0) = true := dT_ a3
   go_wp2_with fail
   (with_reducible refine HFo.out.mono ?_)
   rintro e w12 ⟨rfl, hb⟩
   replace HB := Azz.mk (bTT HB.out hb)
   clear hb
   go_wp2
   go_ret
   exact ⟨rfl, HB.out⟩
  have d3 : decide (zb < 0) = false := dF_ a3
  by_cases a4 : (us.length : Int) ≤ zb
  ·have d4 : decide ((us.length : Int) ≤ zb) = true := dT_ a4
   go_wp2_with fail
   (with_reducible refine HFo.out.mono ?_)
   rintro e w12 ⟨rfl, hb⟩
   replace HB := Azz.mk (bTT HB.out hb)
   clear hb
   go_wp2
   go_ret
   exact ⟨rfl, HB.out⟩
  have d4 : decide ((us.length : Int) ≤ zb) = false := dF_ a4
  obtain ⟨i, rfl⟩ : ∃ i : Nat, za = (i : Int) := ⟨za.toNat, by omega⟩
  obtain ⟨k, rfl⟩ : ∃ k : Nat, zb = (k : Int) := ⟨zb.toNat, by omega⟩
  have hil : i < us.length := by omega
  have hkl : k < us.length := by omega
  obtain ⟨ad, A5, c5, ea, x0, x1, x2, x3, x4, x5, l5, C5⟩ := P.at_T39 (Kd.C_below HU.out HB.out) i (by omega) (by omega)
  cases ea
  obtain ⟨_, B5, d5, ea, y0, y1, y2, y3, y4, y5, m5, D5⟩ := P.at_T39 (Kd.C_below HU.out HB.out) k (by omega) (by omega)
  cases ea
  obtain ⟨ae, E5, e5, ea, s0, s1, s2, s3, s4, s5, p5, F5⟩ := P.at_T39 HO.out i (by omega) (by omega)
  cases ea
  obtain ⟨_, G5, g5, ea, t0, t1, t2, t3, t4, t5, q5, J5⟩ := P.at_T39 HO.out k (by omega) (by omega)
  cases ea
  rw [Int.toNat_natCast] at x0 x1 x2 x3 x4 x5 y0 y1 y2 y3 y4 y5 s0 s1 s2 s3 s4 s5 t0 t1 t2 t3 t4 t5
  have hxl : (P.rd_T39 us i).f5.length ≤ 4398046510976 := by
   have e2 : P.rd_T39 us (i : Int) = us[i] := rd_get _ _ _ hil
   rw [e2]
   exact HH.out.2 us[i] (List.getElem_mem hil)
  obtain ⟨x, hx⟩ : ∃ x, P.rd_T39 us i = x := ⟨_, rfl⟩
  obtain ⟨y, hy⟩ : ∃ y, P.rd_T39 us k = y := ⟨_, rfl⟩
  rw [hx] at x0 x1 x2 x3 x4 x5 l5 C5 s0 s1 s2 s3 s4 s5 p5 F5 hxl
  rw [hy] at y0 y1 y2 y3 y4 y5 m5 D5 t0 t1 t2 t3 t4 t5 q5 J5
  have HX5 := Azz.mk C5
  have HY5 := Azz.mk D5
  have HE5 := Azz.mk F5
  have HJ5 := Azz.mk J5
  have HXl := Azz.mk hxl
  have i0 : (0 : Int) ≤ (i : Int) := by omega
  have i1 : (i : Int) < us.length := by omega
  have k0 : (0 : Int) ≤ (k : Int) := by omega
  have k1 : (k : Int) < us.length := by omega
  clear hx hy C5 D5 F5 J5 hxl a1 a2 a3 a4
  go_wp2
  refine start_ (n := 23) (S := fun w' => w'.cell? (ad.add (i * 6)) = some (.string x.f0) ∧ w'.cell? ⟨(ad.add (i * 6)).block, (ad.add (i * 6)).off + 1, none⟩ = some (.int .i64 x.f1) ∧ w'.cell? ⟨(ad.add (i * 6)).block, (ad.add (i * 6)).off + 2, none⟩ = some (.bool x.f2) ∧ w'.cell? ⟨(ad.add (i * 6)).block, (ad.add (i * 6)).off + 3, none⟩ = some (.int .i64 x.f3) ∧ w'.cell? ⟨(ad.add (i * 6)).block, (ad.add (i * 6)).off + 4, none⟩ = some (.string x.f4) ∧ w'.cell? ⟨(ad.add (i * 6)).block, (ad.add (i * 6)).off + 5, none⟩ = some (.slice A5 x.f5.length c5) ∧ w'.cell? (ad.add (k * 6)) = some (.string y.f0) ∧ w'.cell? ⟨(ad.add (k * 6)).block, (ad.add (k * 6)).off + 1, none⟩ = some (.int .i64 y.f1) ∧ w'.cell? ⟨(ad.add (k * 6)).block, (ad.add (k * 6)).off + 2, none⟩ = some (.bool y.f2) ∧ w'.cell? ⟨(ad.add (k * 6)).block, (ad.add (k * 6)).off + 3, none⟩ = some (.int .i64 y.f3) ∧ w'.cell? ⟨(ad.add (k * 6)).block, (ad.add (k * 6)).off + 4, none⟩ = some (.string y.f4) ∧ w'.cell? ⟨(ad.add (k * 6)).block, (ad.add (k * 6)).off + 5, none⟩ = some (.slice B5 y.f5.length d5) ∧ w'.cell? (ae.add (i * 6)) = some (.string x.f0) ∧ w'.cell? ⟨(ae.add (i * 6)).block, (ae.add (i * 6)).off + 1, none⟩ = some (.int .i64 x.f1) ∧ w'.cell? ⟨(ae.add (i * 6)).block, (ae.add (i * 6)).off + 2, none⟩ = some (.bool x.f2) ∧ w'.cell? ⟨(ae.add (i * 6)).block, (ae.add (i * 6)).off + 3, none⟩ = some (.int .i64 x.f3) ∧ w'.cell? ⟨(ae.add (i * 6)).block, (ae.add (i * 6)).off + 4, none⟩ = some (.string x.f4) ∧ w'.cell? ⟨(ae.add (i * 6)).block, (ae.add (i * 6)).off + 5, none⟩ = some (.slice E5 x.f5.length e5) ∧ w'.cell? (ae.add (k * 6)) = some (.string y.f0) ∧ w'.cell? ⟨(ae.add (k * 6)).block, (ae.add (k * 6)).off + 1, none⟩ = some (.int .i64 y.f1) ∧ w'.cell? ⟨(ae.add (k * 6)).block, (ae.add (k * 6)).off + 2, none⟩ = some (.bool y.f2) ∧ w'.cell? ⟨(ae.add (k * 6)).block, (ae.add (k * 6)).off + 3, none⟩ = some (.int .i64 y.f3) ∧ w'.cell? ⟨(ae.add (k * 6)).block, (ae.add (k * 6)).off + 4, none⟩ = some (.string y.f4) ∧ w'.cell? ⟨(ae.add (k * 6)).block, (ae.add (k * 6)).off + 5, none⟩ = some (.slice G5 y.f5.length g5)) (ds := []) #[F_,F_,F_,F_,F_,F_,F_,F_,F_,F_,F_,F_,F_,F_,F_,F_,F_,F_,F_,F_,F_,F_,F_] (by kernel_rfl) rfl rfl ⟨x0, x1, x2, x3, x4, x5, y0, y1, y2, y3, y4, y5, s0, s1, s2, s3, s4, s5, t0, t1, t2, t3, t4, t5⟩ (fun hHeld => ?_)
  have HBd := Azz.mk (bDD (Below.refl w11.heap.size w11))
  generalize w11.drew = Vd at HBd hHeld ⊢
  refine one_ (i := 0) (N := some 105) #[T_,F_,F_,F_,F_,F_,F_,F_,F_,F_,F_,F_,F_,F_,F_,F_,F_,F_,F_,F_,F_,F_,F_] rfl rfl (by kernel_rfl) (by decide) (fun K hK => ?_)
  refine goes_ Tryz.func16 (by kernel_rfl) rfl #[] (by kernel_rfl) rfl rfl (by kernel_rfl) ?_
  refine (folded_any Vd (HG.out.below (bTT HB.out HBd.out))).mono ?_
  rintro e w12 ⟨rfl, hb⟩
  obtain ⟨qa, qb, qc, qd, qe, qf, qg, qh, qi, qj, qk, ql, qm, qn, qo, qp, qq, qr, qs, qt, qu, qv, qw, qx⟩ := hHeld
  replace HBd := Azz.mk (bTT HBd.out hb)
  refine ⟨_, rfl, ?_⟩
  refine hK.out _ _ ⟨kp1 qa hb, kp1 qb hb, kp1 qc hb, kp1 qd hb, kp1 qe hb, kp1 qf hb, kp1 qg hb, kp1 qh hb, kp1 qi hb, kp1 qj hb, kp1 qk hb, kp1 ql hb, kp1 qm hb, kp1 qn hb, kp1 qo hb, kp1 qp hb, kp1 qq hb, kp1 qr hb, kp1 qs hb, kp1 qt hb, kp1 qu hb, kp1 qv hb, kp1 qw hb, kp1 qx hb⟩ (fun hHeld => ?_)
  clear qa qb qc qd qe qf qg qh qi qj qk ql qm qn qo qp qq qr qs qt qu qv qw qx hb
  clear hK K
  refine norm_ (a' := ?_) ?_ ?_
  rotate_left
  ·show Act.put _ (some 105) _ = _
   simp only [Act.put, l_A, l_0, l_1, i64_w, i32_w]
   rfl
  refine pure_ (i := 1) (N := some 106) (v := ?_) (a' := ?_) #[T_,T_,F_,F_,F_,F_,F_,F_,F_,F_,F_,F_,F_,F_,F_,F_,F_,F_,F_,F_,F_,F_,F_] rfl rfl (by kernel_rfl) (fun _ _ _ h => h) (Or.inl ⟨by rfl, ?_⟩) ?_ ?_
  rotate_left
  ·intro w'
   go_simp
   with_reducible rfl
  rotate_left
  ·simp only [Act.put, l_A, l_0, l_1, i64_w, i32_w]
   rfl
  refine pure_ (i := 2) (N := some 107) (v := ?_) (a' := ?_) #[T_,T_,T_,F_,F_,F_,F_,F_,F_,F_,F_,F_,F_,F_,F_,F_,F_,F_,F_,F_,F_,F_,F_] rfl rfl (by kernel_rfl) (fun _ _ _ h => h) (Or.inl ⟨by rfl, ?_⟩) ?_ ?_
  rotate_left
  ·intro w'
   go_simp
   with_reducible rfl
  rotate_left
  ·simp only [Act.put, l_A, l_0, l_1, i64_w, i32_w]
   rfl
  refine pure_ (i := 3) (N := some 108) (v := ?_) (a' := ?_) #[T_,T_,T_,T_,F_,F_,F_,F_,F_,F_,F_,F_,F_,F_,F_,F_,F_,F_,F_,F_,F_,F_,F_] rfl rfl (by kernel_rfl) (fun _ _ _ h => h) (Or.inl ⟨by rfl, ?_⟩) ?_ ?_
  rotate_left
  ·intro w'
   go_simp
   with_reducible rfl
  rotate_left
  ·simp only [Act.put, l_A, l_0, l_1, i64_w, i32_w]
   rfl
  refine pure_ (i := 4) (N := some 109) (v := ?_) (a' := ?_) #[T_,T_,T_,T_,T_,F_,F_,F_,F_,F_,F_,F_,F_,F_,F_,F_,F_,F_,F_,F_,F_,F_,F_] rfl rfl (by kernel_rfl) (fun _ _ _ h => h) (Or.inl ⟨by rfl, ?_⟩) ?_ ?_
  rotate_left
  ·intro w'
   go_simp
   with_reducible rfl
  rotate_left
  ·simp only [Act.put, l_A, l_0, l_1, i64_w, i32_w]
   rfl
  refine take_ (i := 5) (N := some 110) (v := ?_) (a' := ?_) #[T_,T_,T_,T_,T_,T_,F_,F_,F_,F_,F_,F_,F_,F_,F_,F_,F_,F_,F_,F_,F_,F_,F_] rfl rfl (by kernel_rfl) (fun _ _ _ h => h) (Or.inl ⟨by rfl, ?_⟩) hHeld ?_ ?_
  rotate_left
  ·rintro w' ⟨s0_, s1_, s2_, s3_, s4_, s5_, s6_, s7_, s8_, s9_, s10_, s11_, s12_, s13_, s14_, s15_, s16_, s17_, s18_, s19_, s20_, s21_, s22_, s23_⟩
   go_simp
   with_reducible rfl
  rotate_left
  ·simp only [Act.put, l_A, l_0, l_1, i64_w, i32_w]
   rfl
  refine pure_ (i := 6) (N := some 111) (v := ?_) (a' := ?_) #[T_,T_,T_,T_,T_,T_,T_,F_,F_,F_,F_,F_,F_,F_,F_,F_,F_,F_,F_,F_,F_,F_,F_] rfl rfl (by kernel_rfl) (fun _ _ _ h => h) (Or.inl ⟨by rfl, ?_⟩) ?_ ?_
  rotate_left
  ·intro w'
   go_simp
   with_reducible rfl
  rotate_left
  ·simp only [Act.put, l_A, l_0, l_1, i64_w, i32_w]
   rfl
  refine pure_ (i := 7) (N := some 112) (v := ?_) (a' := ?_) #[T_,T_,T_,T_,T_,T_,T_,T_,F_,F_,F_,F_,F_,F_,F_,F_,F_,F_,F_,F_,F_,F_,F_] rfl rfl (by kernel_rfl) (fun _ _ _ h => h) (Or.inl ⟨by rfl, ?_⟩) ?_ ?_
  rotate_left
  ·intro w'
   go_simp
   with_reducible rfl
  rotate_left
  ·simp only [Act.put, l_A, l_0, l_1, i64_w, i32_w]
   rfl
  refine pure_ (i := 8) (N := some 113) (v := ?_) (a' := ?_) #[T_,T_,T_,T_,T_,T_,T_,T_,T_,F_,F_,F_,F_,F_,F_,F_,F_,F_,F_,F_,F_,F_,F_] rfl rfl (by kernel_rfl) (fun _ _ _ h => h) (Or.inl ⟨by rfl, ?_⟩) ?_ ?_
  rotate_left
  ·intro w'
   go_simp
   with_reducible rfl
  rotate_left
  ·simp only [Act.put, l_A, l_0, l_1, i64_w, i32_w]
   rfl
  refine take_ (i := 9) (N := some 114) (v := ?_) (a' := ?_) #[T_,T_,T_,T_,T_,T_,T_,T_,T_,T_,F_,F_,F_,F_,F_,F_,F_,F_,F_,F_,F_,F_,F_] rfl rfl (by kernel_rfl) (fun _ _ _ h => h) (Or.inl ⟨by rfl, ?_⟩) hHeld ?_ ?_
  rotate_left
  ·rintro w' ⟨s0_, s1_, s2_, s3_, s4_, s5_, s6_, s7_, s8_, s9_, s10_, s11_, s12_, s13_, s14_, s15_, s16_, s17_, s18_, s19_, s20_, s21_, s22_, s23_⟩
   go_simp
   with_reducible rfl
  rotate_left
  ·simp only [Act.put, l_A, l_0, l_1, i64_w, i32_w]
   rfl
  refine pure_ (i := 11) (N := some 116) (v := ?_) (a' := ?_) #[T_,T_,T_,T_,T_,T_,T_,T_,T_,T_,F_,T_,F_,F_,F_,F_,F_,F_,F_,F_,F_,F_,F_] rfl rfl (by kernel_rfl) (fun _ _ _ h => h) (Or.inl ⟨by rfl, ?_⟩) ?_ ?_
  rotate_left
  ·intro w'
   go_simp
   with_reducible rfl
  rotate_left
  ·simp only [Act.put, l_A, l_0, l_1, i64_w, i32_w]
   rfl
  refine pure_ (i := 12) (N := some 117) (v := ?_) (a' := ?_) #[T_,T_,T_,T_,T_,T_,T_,T_,T_,T_,F_,T_,T_,F_,F_,F_,F_,F_,F_,F_,F_,F_,F_] rfl rfl (by kernel_rfl) (fun _ _ _ h => h) (Or.inl ⟨by rfl, ?_⟩) ?_ ?_
  rotate_left
  ·intro w'
   go_simp
   with_reducible rfl
  rotate_left
  ·simp only [Act.put, l_A, l_0, l_1, i64_w, i32_w]
   rfl
  refine pure_ (i := 13) (N := some 118) (v := ?_) (a' := ?_) #[T_,T_,T_,T_,T_,T_,T_,T_,T_,T_,F_,T_,T_,T_,F_,F_,F_,F_,F_,F_,F_,F_,F_] rfl rfl (by kernel_rfl) (fun _ _ _ h => h) (Or.inl ⟨by rfl, ?_⟩) ?_ ?_
  rotate_left
  ·intro w'
   go_simp
   with_reducible rfl
  rotate_left
  ·simp only [Act.put, l_A, l_0, l_1, i64_w, i32_w]
   rfl
  refine take_ (i := 14) (N := some 119) (v := ?_) (a' := ?_) #[T_,T_,T_,T_,T_,T_,T_,T_,T_,T_,F_,T_,T_,T_,T_,F_,F_,F_,F_,F_,F_,F_,F_] rfl rfl (by kernel_rfl) (fun _ _ _ h => h) (Or.inl ⟨by rfl, ?_⟩) hHeld ?_ ?_
  rotate_left
  ·rintro w' ⟨s0_, s1_, s2_, s3_, s4_, s5_, s6_, s7_, s8_, s9_, s10_, s11_, s12_, s13_, s14_, s15_, s16_, s17_, s18_, s19_, s20_, s21_, s22_, s23_⟩
   go_simp
   with_reducible rfl
  rotate_left
  ·simp only [Act.put, l_A, l_0, l_1, i64_w, i32_w]
   rfl
  refine pure_ (i := 15) (N := some 120) (v := ?_) (a' := ?_) #[T_,T_,T_,T_,T_,T_,T_,T_,T_,T_,F_,T_,T_,T_,T_,T_,F_,F_,F_,F_,F_,F_,F_] rfl rfl (by kernel_rfl) (fun _ _ _ h => h) (Or.inl ⟨by rfl, ?_⟩) ?_ ?_
  rotate_left
  ·intro w'
   go_simp
   with_reducible rfl
  rotate_left
  ·simp only [Act.put, l_A, l_0, l_1, i64_w, i32_w]
   rfl
  refine pure_ (i := 16) (N := some 121) (v := ?_) (a' := ?_) #[T_,T_,T_,T_,T_,T_,T_,T_,T_,T_,F_,T_,T_,T_,T_,T_,T_,F_,F_,F_,F_,F_,F_] rfl rfl (by kernel_rfl) (fun _ _ _ h => h) (Or.inl ⟨by rfl, ?_⟩) ?_ ?_
  rotate_left
  ·intro w'
   go_simp
   with_reducible rfl
  rotate_left
  ·simp only [Act.put, l_A, l_0, l_1, i64_w, i32_w]
   rfl
  refine pure_ (i := 17) (N := some 122) (v := ?_) (a' := ?_) #[T_,T_,T_,T_,T_,T_,T_,T_,T_,T_,F_,T_,T_,T_,T_,T_,T_,T_,F_,F_,F_,F_,F_] rfl rfl (by kernel_rfl) (fun _ _ _ h => h) (Or.inl ⟨by rfl, ?_⟩) ?_ ?_
  rotate_left
  ·intro w'
   go_simp
   with_reducible rfl
  rotate_left
  ·simp only [Act.put, l_A, l_0, l_1, i64_w, i32_w]
   rfl
  refine take_ (i := 18) (N := some 123) (v := ?_) (a' := ?_) #[T_,T_,T_,T_,T_,T_,T_,T_,T_,T_,F_,T_,T_,T_,T_,T_,T_,T_,T_,F_,F_,F_,F_] rfl rfl (by kernel_rfl) (fun _ _ _ h => h) (Or.inl ⟨by rfl, ?_⟩) hHeld ?_ ?_
  rotate_left
  ·rintro w' ⟨s0_, s1_, s2_, s3_, s4_, s5_, s6_, s7_, s8_, s9_, s10_, s11_, s12_, s13_, s14_, s15_, s16_, s17_, s18_, s19_, s20_, s21_, s22_, s23_⟩
   go_simp
   with_reducible rfl
  rotate_left
  ·simp only [Act.put, l_A, l_0, l_1, i64_w, i32_w]
   rfl
  refine one_ (i := 10) (N := some 115) #[T_,T_,T_,T_,T_,T_,T_,T_,T_,T_,T_,T_,T_,T_,T_,T_,T_,T_,T_,F_,F_,F_,F_] rfl rfl (by kernel_rfl) (by decide) (fun K hK => ?_)
  refine goes_ Tryz.func17 (by kernel_rfl) rfl #[.agg #[.string x.f0, .int .i64 x.f1, .bool x.f2, .int .i64 x.f3, .string x.f4, .slice A5 x.f5.length c5], .agg #[.string y.f0, .int .i64 y.f1, .bool y.f2, .int .i64 y.f3, .string y.f4, .slice B5 y.f5.length d5]] (by kernel_rfl) rfl rfl (by kernel_rfl) ?_
  refine (alike_callsG w12 x y A5 B5 c5 d5 (Kd.C_below HX5.out HBd.out) l5 (Kd.C_below HY5.out HBd.out) m5 HXl.out).mono ?_
  rintro e w13 ⟨rfl, hb⟩
  obtain ⟨qa, qb, qc, qd, qe, qf, qg, qh, qi, qj, qk, ql, qm, qn, qo, qp, qq, qr, qs, qt, qu, qv, qw, qx⟩ := hHeld
  replace HBd := Azz.mk (bTT HBd.out hb)
  refine ⟨_, rfl, ?_⟩
  refine hK.out _ _ ⟨kp1 qa hb, kp1 qb hb, kp1 qc hb, kp1 qd hb, kp1 qe hb, kp1 qf hb, kp1 qg hb, kp1 qh hb, kp1 qi hb, kp1 qj hb, kp1 qk hb, kp1 ql hb, kp1 qm hb, kp1 qn hb, kp1 qo hb, kp1 qp hb, kp1 qq hb, kp1 qr hb, kp1 qs hb, kp1 qt hb, kp1 qu hb, kp1 qv hb, kp1 qw hb, kp1 qx hb⟩ (fun hHeld => ?_)
  clear qa qb qc qd qe qf qg qh qi qj qk ql qm qn qo qp qq qr qs qt qu qv qw qx hb
  clear hK K
  refine norm_ (a' := ?_) ?_ ?_
  rotate_left
  ·show Act.put _ (some 115) _ = _
   simp only [Act.put, l_A, l_0, l_1, i64_w, i32_w]
   rfl
  refine one_ (i := 19) (N := some 124) #[T_,T_,T_,T_,T_,T_,T_,T_,T_,T_,T_,T_,T_,T_,T_,T_,T_,T_,T_,T_,F_,F_,F_] rfl rfl (by kernel_rfl) (by decide) (fun K hK => ?_)
  refine goes_ Tryz.func18 (by kernel_rfl) rfl #[.agg #[.string x.f0, .int .i64 x.f1, .bool x.f2, .int .i64 x.f3, .string x.f4, .slice E5 x.f5.length e5], .agg #[.string y.f0, .int .i64 y.f1, .bool y.f2, .int .i64 y.f3, .string y.f4, .slice G5 y.f5.length g5]] (by kernel_rfl) rfl rfl (by kernel_rfl) ?_
  refine (ralike_calls w13 x y E5 G5 e5 g5 (Kd.C_below HE5.out HBd.out) p5 (Kd.C_below HJ5.out HBd.out) q5 HXl.out).mono ?_
  rintro e w14 ⟨rfl, hb⟩
  obtain ⟨qa, qb, qc, qd, qe, qf, qg, qh, qi, qj, qk, ql, qm, qn, qo, qp, qq, qr, qs, qt, qu, qv, qw, qx⟩ := hHeld
  replace HBd := Azz.mk (bTT HBd.out hb)
  refine ⟨_, rfl, ?_⟩
  refine hK.out _ _ ⟨kp1 qa hb, kp1 qb hb, kp1 qc hb, kp1 qd hb, kp1 qe hb, kp1 qf hb, kp1 qg hb, kp1 qh hb, kp1 qi hb, kp1 qj hb, kp1 qk hb, kp1 ql hb, kp1 qm hb, kp1 qn hb, kp1 qo hb, kp1 qp hb, kp1 qq hb, kp1 qr hb, kp1 qs hb, kp1 qt hb, kp1 qu hb, kp1 qv hb, kp1 qw hb, kp1 qx hb⟩ (fun hHeld => ?_)
  clear qa qb qc qd qe qf qg qh qi qj qk ql qm qn qo qp qq qr qs qt qu qv qw qx hb
  clear hK K
  refine norm_ (a' := ?_) ?_ ?_
  rotate_left
  ·show Act.put _ (some 124) _ = _
   simp only [Act.put, l_A, l_0, l_1, i64_w, i32_w]
   rfl
  refine pure_ (i := 20) (N := some 125) (v := ?_) (a' := ?_) #[T_,T_,T_,T_,T_,T_,T_,T_,T_,T_,T_,T_,T_,T_,T_,T_,T_,T_,T_,T_,T_,F_,F_] rfl rfl (by kernel_rfl) (fun _ _ _ h => h) (Or.inl ⟨by rfl, ?_⟩) ?_ ?_
  rotate_left
  ·intro w'
   go_simp
   with_reducible rfl
  rotate_left
  ·simp only [Act.put, l_A, l_0, l_1, i64_w, i32_w]
   rfl
  refine pure_ (i := 21) (N := some 126) (v := ?_) (a' := ?_) #[T_,T_,T_,T_,T_,T_,T_,T_,T_,T_,T_,T_,T_,T_,T_,T_,T_,T_,T_,T_,T_,T_,F_] rfl rfl (by kernel_rfl) (fun _ _ _ h => h) (Or.inl ⟨by rfl, ?_⟩) ?_ ?_
  rotate_left
  ·intro w'
   go_simp
   with_reducible rfl
  rotate_left
  ·simp only [Act.put, l_A, l_0, l_1, i64_w, i32_w]
   rfl
  refine pure_ (i := 22) (N := some 8) (v := ?_) (a' := ?_) #[T_,T_,T_,T_,T_,T_,T_,T_,T_,T_,T_,T_,T_,T_,T_,T_,T_,T_,T_,T_,T_,T_,T_] rfl rfl (by kernel_rfl) (fun _ _ _ h => h) (Or.inl ⟨by rfl, ?_⟩) ?_ ?_
  rotate_left
  ·intro w'
   go_simp
   with_reducible rfl
  rotate_left
  ·simp only [Act.put, l_A, l_0, l_1, i64_w, i32_w]
   rfl
  refine done_ (by kernel_rfl) ?_
  go_wp2
  go_ret
  exact ⟨by first | rfl | simp, bTT HB.out HBd.out⟩
end Go.Proofs.YtngmipfodjgmmaaGreatDoor.Pure
end
section
namespace Go.Proofs.YtngmipfodjgmmaaGreatDoor.Walks
open Go Go.RowKit Wa Wb Wc
theorem FoldDoes (A0 : Option Addr) (c0 : Nat) (x0 : List P.S39) (A1 : Option Addr) (c1 : Nat) (x1 : List Bool) (x2 x3 : Int) (w : World) (hG : P.Glob w)
 (hc0 : Kd.C P.k39 w A0 x0.length x0) (hl0 : x0.length ≤ c0) (hw0 : x0.length ≤ 1759218604390 ∧ ∀ z ∈ x0, z.f5.length ≤ 4398046510976) (hc1 : Kd.C Kd.bool w A1 x1.length x1) (hl1 : x1.length ≤ c1) (hw1 : x1.length ≤ 140737488351232) (hw2 : (Lit.int IntKind.i64 x2).wf = true) (hw3 : (Lit.int IntKind.i64 x3).wf = true) :
 Calls Tryz.prog 3 #[.slice A0 x0.length c0, .slice A1 x1.length c1, .int .i64 x2, .int .i64 x3] w fun e w' => e = .returned (.bool true) ∧ Below w.heap.size w w' :=
 Pure.fdoes_any w A0 A1 x0 x1 x2 x3 c0 c1 hG hc0 hl0 ⟨by have := hw0.1; omega, hw0.2⟩ hc1 hl1
end Go.Proofs.YtngmipfodjgmmaaGreatDoor.Walks
end
section
namespace Go.Proofs.YtngmipfodjgmmaaGreatDoor.Tables
open Go Go.RowKit Go.Lib
abbrev four : List (String × DataW Unit) := [("cleat/inst.shapes", Rows.laid_cleat_inst_shapes), ("cleat/code.bases", Rows.laid_cleat_code_bases), ("cleat/code.fields", Rows.laid_cleat_code_fields), ("math/bits.deBruijn32tab", Rows.laid_math_bits_deBruijn32tab), ("math/bits.deBruijn64tab", Rows.laid_math_bits_deBruijn64tab), ("internal/strconv.uint64pow10", Rows.laid_internal_strconv_uint64pow10), ("cleat/part.fitting", Rows.laid_cleat_part_fitting)]
theorem door_met (os : Os) (args : Array Value) : laidMetH Tryz.prog four ((World.doorLaid Tryz.prog 400 os).forCall (fun _ _ => 0) ⟨#[], args, []⟩).memory :=
 laidMetH_of_parts3 (fuel := 8) (laidMet_of_run' 8 (by kernel_rfl) (by kernel_rfl)) (by kernel_rfl) (by kernel_rfl)
theorem cell_lt {w : World} {b i : Nat} {v : Value} (h : w.cell? ⟨b, i, none⟩ = some v) : b < w.heap.size := by
 refine Decidable.byContradiction fun hn => ?_
 have e : w.heap[b]? = none := Array.getElem?_eq_none (by omega)
 simp [World.cell?, e] at h
theorem tab {W : World} {name : String} {k : IntKind} {zs : List Int} {g t e n : Nat} (hg : Tryz.prog.globalNamed name = some g) (hty : (Tryz.prog.globals[g]?).map (·.type) = some t)
 (ht : Tryz.prog.underlying t = some (.array n e)) (he : Tryz.prog.underlying e = some (.int k)) (hce : Tryz.prog.cellsOf e = 1) (hct : Tryz.prog.cellsOf t = n)
 (h : VarReads Tryz.prog W name (tabData k zs)) (i : Nat) (hi : i < zs.length) : W.cell? ⟨g, i, none⟩ = some (.int k (zs.getD i 0)) := by
 obtain ⟨g', t', cs, fuel, p, hg', ht', hvar, hd⟩ := h
 obtain rfl := Option.some.inj (hg.symm.trans hg')
 obtain rfl := Option.some.inj (hty.symm.trans ht')
 have hT : TabIs Tryz.prog W name k zs := by
  unfold TabIs
  rw [hvar, ← cells_of_tab ht he hce hct hd]
 exact hT.cell hg i hi
theorem fits {W : World} (h : VarReads Tryz.prog W "cleat/part.fitting" Rows.laid_cleat_part_fitting) (i : Nat) (hi : i < 20) :
 W.cell? ⟨0, i, none⟩ = some (.int .i64 (P.fittingL.getD i 0)) := by
 obtain ⟨g', t', cs, fuel, p, hg', ht', hvar, hd⟩ := h
 have hg : Tryz.prog.globalNamed "cleat/part.fitting" = some 0 := by kernel_rfl
 have hty : (Tryz.prog.globals[0]?).map (·.type) = some 139 := by kernel_rfl
 obtain rfl := Option.some.inj (hg.symm.trans hg')
 obtain rfl := Option.some.inj (hty.symm.trans ht')
 have hc2 : Tryz.prog.cellsOf 138 = 2 := by kernel_rfl
 obtain ⟨f', d, q, hdi, ht⟩ := array_elem (P := Tryz.prog) (t := 139) (e := 138) (n := 10) (by kernel_rfl) hd (i / 2) (by omega)
 rw [hc2] at ht
 have hd2 : d = tabData .i64 [P.fittingL.getD (i / 2 * 2) 0, P.fittingL.getD (i / 2 * 2 + 1) 0] := by
  have hj : i / 2 < 10 := by omega
  generalize i / 2 = j at hdi hj ⊢
  have hj' : j = 0 ∨ j = 1 ∨ j = 2 ∨ j = 3 ∨ j = 4 ∨ j = 5 ∨ j = 6 ∨ j = 7 ∨ j = 8 ∨ j = 9 := by omega
  rcases hj' with rfl | rfl | rfl | rfl | rfl | rfl | rfl | rfl | rfl | rfl <;> exact (Option.some.inj hdi).symm
 rw [hd2] at ht
 have hcs := cells_of_tab (P := Tryz.prog) (t := 138) (e := 3) (n := 2) (by kernel_rfl) (by kernel_rfl) (by kernel_rfl) (by kernel_rfl) ht
 have hrow := World.var?_cell hg hvar i
 rw [Array.getElem?_toList.symm] at hrow
 have hi2 : cs.toList[i]? = some (.int .i64 (P.fittingL.getD i 0)) := by
  have h1 : ((cs.toList.drop (i / 2 * 2)).take 2)[i % 2]? = cs.toList[i]? := by
   rw [List.getElem?_take, List.getElem?_drop, if_pos (by omega)]
   rw [show i / 2 * 2 + i % 2 = i by omega]
  rw [← h1, hcs]
  have h2 : i % 2 = 0 ∨ i % 2 = 1 := by omega
  rcases h2 with h2 | h2 <;> rw [h2] <;> simp only [List.map, List.getElem?_cons_zero, List.getElem?_cons_succ]
  ·rw [show i / 2 * 2 = i by omega]
  rw [show i / 2 * 2 + 1 = i by omega]
 exact hrow.trans hi2
theorem glob_of_laid {W : World} (hL : laidMetH Tryz.prog four W) : P.Glob W := by
 rw [MakeChecks.laidMetH_plain _ _ _ (by kernel_rfl)] at hL
 have h1 : ∀ i, i < 40 → W.cell? ⟨4, i, none⟩ = some (.int .i64 (P.shapesL.getD i 0)) := fun i hi =>
  tab (zs := P.shapesL) (t := 195) (e := 3) (n := 40) (by kernel_rfl) (by kernel_rfl) (by kernel_rfl) (by kernel_rfl) (by kernel_rfl) (by kernel_rfl) (laidMet.reads hL (.head _)) i hi
 have h2 : ∀ i, i < 40 → W.cell? ⟨3, i, none⟩ = some (.int .u32 (P.basesL.getD i 0)) := fun i hi =>
  tab (zs := P.basesL) (t := 194) (e := 124) (n := 40) (by kernel_rfl) (by kernel_rfl) (by kernel_rfl) (by kernel_rfl) (by kernel_rfl) (by kernel_rfl) (laidMet.reads hL (.tail _ (.head _))) i hi
 have h3 : ∀ i, i < 17 → W.cell? ⟨2, i, none⟩ = some (.int .u32 (P.fieldsL.getD i 0)) := fun i hi =>
  tab (zs := P.fieldsL) (t := 193) (e := 124) (n := 17) (by kernel_rfl) (by kernel_rfl) (by kernel_rfl) (by kernel_rfl) (by kernel_rfl) (by kernel_rfl) (laidMet.reads hL (.tail _ (.tail _ (.head _)))) i hi
 have h4 := fun i hi => fits (laidMet.reads hL (.tail _ (.tail _ (.tail _ (.tail _ (.tail _ (.tail _ (.head _)))))))) i hi
 exact ⟨h1, h2, h3, h4, cell_lt (h1 0 (by decide)), cell_lt (h2 0 (by decide)), cell_lt (h3 0 (by decide)), cell_lt (h4 0 (by decide))⟩
end Go.Proofs.YtngmipfodjgmmaaGreatDoor.Tables
end
