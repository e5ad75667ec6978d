/- 'fold.Fold' walked. -/
import Derived.Test.YtngmipfodjgmmaaDoorFr64
namespace Go.Proofs.YtngmipfodjgmmaaDoor.Pure
open Go Go.RowKit Go.Lib Go.Shelf Go.Proofs.YtngmipfodjgmmaaDoorW.PrintWords Go.Proofs.YtngmipfodjgmmaaDoorW.PrintLast Go.Proofs.YtngmipfodjgmmaaDoorW.PrintMore
open P (Glob UA)
open Folds (gt beginF begin_part Part refineF refine_part refine_less foldN much sig nx nx_spec)
set_option linter.unusedVariables false
set_option linter.unusedSimpArgs false
theorem nd_64 {us : List P.S36} (h : UOk us) : ∀ i, i < us.length → (P.rd_T36 us i).f5.length ≤ 64 ∧ ∀ q ∈ P.ndI us i, 0 ≤ q ∧ q < us.length := by
 intro i hi
 refine ⟨?_, ((nd_ok h).2 i hi).2⟩
 have e2 : P.rd_T36 us (i : Int) = us[i] := rd_get _ _ _ hi
 have hR := (is_iff _).1 (h.2 i hi).1
 rw [e2]
 have := hR.rels
 simp [secOf] at this
 omega
def startP (us : List P.S36) (ins : List Bool) : List Nat := beginF (inn ins) (al us) us.length
/-- The least units of the parts. -/
def foldP (us : List P.S36) (ins : List Bool) : List Nat := foldN us.length (rf us) (much us.length (startP us ins) + 1) (startP us ins)
def foldL (us : List P.S36) (ins : List Bool) : List Int := (List.range us.length).map fun i => if inn ins i then (gt (foldP us ins) i : Int) else -1
theorem al_symm (us : List P.S36) (i k : Nat) (h : al us i k = true) : al us k i = true := alikeU_symm h
theorem al_trans (us : List P.S36) (i j k : Nat) (h : al us i j = true) (h2 : al us j k = true) : al us i k = true := alikeU_trans h h2
theorem start_part (us : List P.S36) (ins : List Bool) : Part us.length (inn ins) (al us) (startP us ins) := begin_part (al_symm us) (al_trans us)
def FOk (us : List P.S36) (ins : List Bool) : Prop := ins.length = us.length ∧ UOk us
def FoldPost (us : List P.S36) (ins : List Bool) (w : World) (e : Ending) (w' : World) : Prop :=
 Below w.heap.size w w' ∧ ((¬ FOk us ins ∧ e = .returned (.tuple #[.slice none 0 0, .int .i64 1])) ∨
 (FOk us ins ∧ ∃ pb, e = .returned (.tuple #[.slice (some ⟨pb, 0, none⟩) us.length us.length, .int .i64 0]) ∧ IB w' pb (foldL us ins) ∧ w.heap.size ≤ pb))
theorem equal_calls (w : World) (a b : Nat) (x y : List Int) (n : Nat) (hx : x.length = n) (hy : y.length = n) (hn : n ≤ 100000) (ha : IB w a x) (hb : IB w b y) :
 Calls Tryd.prog 33 #[.slice (some ⟨a, 0, none⟩) n n, .slice (some ⟨b, 0, none⟩) n n] w fun e w' => e = .returned (.bool (decide (x = y))) ∧ Drawn0 w w' := by
 obtain ⟨K, hK⟩ := equal_ev x y (by omega)
 have := P.slices_Equal_int_int.calls K (some ⟨a, 0, none⟩) n x (some ⟨b, 0, none⟩) n y (decide (x = y)) w (ha.reads (by omega)) (by omega) (hb.reads (by omega)) (by omega) (hK K (Nat.le_refl _))
 rw [hx, hy] at this
 exact this
/-- So far: the first i are told -1 where they are out. -/
def outs (ins : List Bool) (p : List Nat) (n i : Nat) : List Int := (List.range n).map fun q => if q < i ∧ inn ins q = false then -1 else (gt p q : Int)
theorem outs_zero (ins : List Bool) (p : List Nat) (n : Nat) (h : p.length = n) : p.map Int.ofNat = outs ins p n 0 := by
 refine List.ext_getElem (by simp [outs, h]) fun q h1 h2 => ?_
 simp [outs, gt, List.getD_eq_getElem?_getD]
 rw [List.getElem?_eq_getElem (by simpa using h1)]
 rfl
theorem outs_length (ins p n i) : (outs ins p n i).length = n := by simp [outs]
theorem outs_in (ins : List Bool) (p : List Nat) (n i : Nat) (h : inn ins i = true) : outs ins p n i = outs ins p n (i + 1) := by
 unfold outs
 refine List.map_congr_left fun q hq => ?_
 by_cases c : q = i
 ·subst c
  rw [if_neg (by rw [h]; simp), if_neg (by rw [h]; simp)]
 ·by_cases d : q < i ∧ inn ins q = false
  ·rw [if_pos d, if_pos ⟨by omega, d.2⟩]
  ·rw [if_neg d, if_neg (fun x => d ⟨by omega, x.2⟩)]
theorem outs_out (ins : List Bool) (p : List Nat) (n i : Nat) (h : inn ins i = false) : (outs ins p n i).set i (-1) = outs ins p n (i + 1) := by
 refine List.ext_getElem (by simp [outs]) fun q h1 h2 => ?_
 rw [List.getElem_set]
 by_cases c : i = q
 ·subst c
  rw [if_pos rfl]
  simp [outs, h]
 ·rw [if_neg c]
  simp only [outs, List.getElem_map, List.getElem_range]
  by_cases d : q < i ∧ inn ins q = false
  ·rw [if_pos d, if_pos ⟨by omega, d.2⟩]
  ·rw [if_neg d, if_neg (fun x => d ⟨by omega, x.2⟩)]
theorem outs_all (us : List P.S36) (ins : List Bool) : outs ins (foldP us ins) us.length us.length = foldL us ins := by
 unfold outs foldL
 refine List.map_congr_left fun q hq => ?_
 have := List.mem_range.1 hq
 cases h : inn ins q with
 | true => rw [if_neg (by simp), if_pos rfl]
 | false => rw [if_pos ⟨this, rfl⟩, if_neg (by decide)]
theorem gt_small {n : Nat} {inn al} {p : List Nat} (h : Part n inn al p) (hn : n ≤ 100000) (q : Nat) : gt p q ≤ 100000 := by
 by_cases c : q < n
 ·have := h.le q c
  omega
 ·unfold gt
  rw [List.getD_eq_getElem?_getD, List.getElem?_eq_none (by have := h.len; omega)]
  exact Nat.zero_le _
theorem ofNat_eq {a b : List Nat} : a.map Int.ofNat = b.map Int.ofNat ↔ a = b := List.map_inj_right (fun a b h => Int.ofNat.inj h)
set_option maxRecDepth 100000 in
set_option maxHeartbeats 8000000 in
theorem fold_any (w : World) (A A2 : Option Addr) (us : List P.S36) (ins : List Bool) (c c2 : Nat) (hG : Glob w) (hu : UA w A us) (hc : us.length ≤ c) (hn : Narrow us) (hul : us.length ≤ 100000) (hi : BA w A2 ins) (hil : ins.length ≤ 100000) (hc2 : ins.length ≤ c2) :
 Calls Tryd.prog 13 #[.slice A us.length c, .slice A2 ins.length c2] w (FoldPost us ins w) := by
 by_cases h1 : ins.length = us.length
 ·obtain ⟨b, hb, hbi⟩ := isU_ends us hn
  have HI := Azz.mk (isU_calls hb w A c hG hu hc)
  have HU := Azz.mk hu
  have HS := Azz.mk hi
  have HBi := Azz.mk hbi
  clear hb hbi hG hu hi hn
  cases b with
  | false =>
   rw [h1] at hc2 ⊢
   go_enter Tryd.func13, Tryd.ntmps13
   go_wp2
   go_step3
   go_wp2_with (go_at_call 15; (with_reducible refine HI.out.mono ?_); rintro e w1 ⟨rfl, hb⟩; have HB := Azz.mk hb; clear hb)
   try rw [Exit.noGoto_ret]
   go_ret2
   exact ⟨HB.out, .inl ⟨fun h => absurd (HBi.out.2 h.2) (by decide), rfl⟩⟩
  | true =>
   have hok := HBi.out.1 rfl
   rw [h1] at hc2 ⊢
   have HN := Azz.mk hok
   clear HBi hok
   go_enter Tryd.func13, Tryd.ntmps13
   go_wp2
   go_step3
   go_wp2_with (go_at_call 15; (with_reducible refine HI.out.mono ?_); rintro e w1 ⟨rfl, hb⟩; have HB := Azz.mk hb; clear hb)
   have hul2 := HN.out.1
   have h64 := nd_64 HN.out
   (with_reducible refine (begin_any w1 A A2 us ins c c2 (Kd.C_below HU.out HB.out) hc (by omega) (fun i hi => by have := (h64 i hi).1; omega) (Kd.C_below HS.out HB.out) h1 hc2).mono ?_)
   rintro e w2 ⟨rfl, hib, hb⟩
   have HB2 := Azz.mk (bTT HB.out hb)
   have HIb := Azz.mk hib
   have HSz := Azz.mk HB.out.size
   have H64 := Azz.mk h64
   clear hib hb HB h64 HI
   go_wp2
   go_step3
   go_wp2
   go_loopg [6] (much us.length (startP us ins) + 1) (fun g s6 wx => ∃ (p : List Nat) (pb : Nat), s6 = .slice (some ⟨pb, 0, none⟩) us.length us.length ∧ Azz (IB wx pb (p.map Int.ofNat)) ∧ Azz (Part us.length (inn ins) (al us) p) ∧ Azz (much us.length p < g ∧ foldN us.length (rf us) g p = foldP us ins) ∧ Azz (w.heap.size ≤ pb) ∧ Azz (Below w.heap.size w wx))
   case atStart => exact ⟨startP us ins, w1.heap.size, rfl, HIb, ⟨start_part us ins⟩, ⟨Nat.lt_succ_self _, rfl⟩, HSz, HB2⟩
   case round =>
    clear HIb HB2 HSz
    obtain ⟨p, pb, rfl, HP, HPt, HF, HL, HB⟩ := hrel
    cases gk with
    | zero => exact absurd HF.out.1 (Nat.not_lt_zero _)
    | succ g =>
     have hpl : p.length = us.length := HPt.out.len
     go_wp2_with fail
     (with_reducible refine (refine_any wr A pb us p c us.length (Kd.C_below HU.out HB.out) hc hul2 H64.out HP.out hpl (gt_small HPt.out (by omega)) (Nat.le_refl _)).mono ?_)
     rintro e w3 ⟨rfl, hnx, hb⟩
     have HNx := Azz.mk hnx
     have HB3 := Azz.mk (bTT HB.out hb)
     have HP3 := Azz.mk (HP.out.below hb)
     have HSz := Azz.mk (Nat.le_trans HB.out.size (Nat.le_refl _))
     clear hnx hb HP HB
     have HE := Azz.mk (equal_calls w3 wr.heap.size pb ((refineF us.length (rf us) p).map Int.ofNat) (p.map Int.ofNat) us.length (by simp [refineF]) (by rw [List.length_map, hpl]) (by omega) HNx.out HP3.out)
     by_cases hst : refineF us.length (rf us) p = p
     ·rw [decide_eq_true (ofNat_eq.2 hst)] at HE
      go_wp2_with fail
      (with_reducible refine HE.out.mono ?_)
      rintro e w4 ⟨rfl, hd⟩
      have HB4 := Azz.mk (bTT HB3.out hd.below)
      have HP4 := Azz.mk (HP3.out.below hd.below)
      clear hd HE HB3 HP3 HNx
      have hfp : foldP us ins = p := by
       have := HF.out.2
       unfold foldN at this
       rw [if_pos hst] at this
       exact this.symm
      have HFp := Azz.mk hfp
      clear hfp hst HF
      go_wp2
      go_loopw [31] (fun v wy => ∃ i : Nat, i ≤ us.length ∧ v = .int .i64 i ∧ Azz (IB wy pb (outs ins p us.length i)) ∧ Azz (Below w.heap.size w wy)) (fun v _ => us.length - (RowKit.intOf v).toNat)
      case atStart => exact ⟨0, Nat.zero_le _, rfl, ⟨by rw [← outs_zero ins p us.length hpl]; exact HP4.out⟩, HB4⟩
      case round =>
       clear HP4 HB4
       obtain ⟨i, hi, rfl, HO, HB⟩ := hrel
       by_cases hlt : i < us.length
       ·obtain ⟨ad2, e2, hin⟩ := bool_at _ A2 ins (Kd.C_below HS.out HB.out) i (by omega)
        subst e2
        have fz := HO.out.frozen i
        have cz := HO.out.cell i (by rw [outs_length]; exact hlt)
        obtain ⟨bi, hbi⟩ : ∃ b, ins.getD i false = b := ⟨_, rfl⟩
        rw [hbi] at hin
        have HBi2 := Azz.mk hbi
        clear hbi
        cases bi with
        | true =>
         go_wp2
         go_roundw
         case rel => exact ⟨i + 1, by omega, by go_num, ⟨by rw [← outs_in ins p us.length i HBi2.out]; exact HO.out⟩, HB⟩
         case measure => simp [RowKit.intOf]; omega
        | false =>
         go_wp2
         go_roundw
         case rel => exact ⟨i + 1, by omega, by go_num, ⟨by rw [← outs_out ins p us.length i HBi2.out]; exact HO.out.set i (-1)⟩, ⟨Below.setCell (p := ⟨pb, i, none⟩) HB.out HL.out _⟩⟩
         case measure => simp [RowKit.intOf]; omega
       ·obtain rfl : i = us.length := by omega
        have HR := Azz.mk (show IB wr pb (foldL us ins) by rw [← outs_all, HFp.out]; exact HO.out)
        clear HO
        go_wp2
        try rw [Exit.noGoto_ret]
        go_ret2
        exact ⟨HB.out, .inr ⟨⟨h1, HN.out⟩, pb, rfl, HR.out, HL.out⟩⟩
     ·rw [decide_eq_false (fun h => hst (ofNat_eq.1 h))] at HE
      go_wp2_with fail
      (with_reducible refine HE.out.mono ?_)
      rintro e w4 ⟨rfl, hd⟩
      have HB4 := Azz.mk (bTT HB3.out hd.below)
      have HP4 := Azz.mk (HNx.out.below hd.below)
      clear hd HE HB3 HP3 HNx
      have HFn : Azz (much us.length (refineF us.length (rf us) p) < g ∧ foldN us.length (rf us) g (refineF us.length (rf us) p) = foldP us ins) := ⟨by have := refine_less (rf := rf us) HPt.out hst; have := HF.out.1; omega, by have := HF.out.2; unfold foldN at this; rw [if_neg hst] at this; exact this⟩
      go_wp2
      go_roundg g
      case measure => omega
      case rel => exact ⟨refineF us.length (rf us) p, wr.heap.size, rfl, HP4, ⟨refine_part HPt.out⟩, HFn, HSz, HB4⟩
 ·have h2 : ((ins.length : Int) != us.length) = true := bne_iff_ne.mpr (by omega)
  go_enter Tryd.func13, Tryd.ntmps13
  go_wp2
  go_step3
  go_wp2
  try rw [Exit.noGoto_ret]
  go_ret2
  exact ⟨Below.refl _ _, .inl ⟨fun h => h1 h.1, rfl⟩⟩
end Go.Proofs.YtngmipfodjgmmaaDoor.Pure
