/- Walks and plain laws of this claim, a part. -/
import Derived.Test.YtngmipfodjgmmaaGreatDoorFz95
set_option maxRecDepth 100000
set_option maxHeartbeats 8000000
set_option linter.unusedVariables false
set_option linter.unusedSimpArgs false
section
namespace Go.Proofs.YtngmipfodjgmmaaGreatDoor.Pure
open Go Go.RowKit Go.Lib Go.Shelf Wa Wb Wc
open P (Glob UA)
open Folds (gt beginF begin_part Part refineF refine_part refine_less foldN foldN_spec much sig nx nx_spec)
theorem nd_64 {us : List P.S39} (h : UOk us) : ∀ i, i < us.length → (P.rd_T39 us i).f5.length ≤ 64 ∧ ∀ q ∈ P.ndI us i, 0 ≤ q ∧ q < us.length := by
 intro i hi
 refine ⟨?_, ((nd_ok h).2 i hi).2⟩
 have e2 : P.rd_T39 us (i : Int) = us[i] := rd_get _ _ _ hi
 have hR := (is_iff _).1 (h.2 i hi).1
 rw [e2]
 have := hR.rels
 simp [secOf] at this
 omega
def startP (us : List P.S39) (ins : List Bool) : List Nat := beginF (inn ins) (al us) us.length
def foldP (us : List P.S39) (ins : List Bool) : List Nat := foldN us.length (rf us) (much us.length (startP us ins) + 1) (startP us ins)
def foldL (us : List P.S39) (ins : List Bool) : List Int := (List.range us.length).map fun i => if inn ins i then (gt (foldP us ins) i : Int) else -1
theorem al_symm (us : List P.S39) (i k : Nat) (h : al us i k = true) : al us k i = true := alikeU_symm h
theorem al_trans (us : List P.S39) (i j k : Nat) (h : al us i j = true) (h2 : al us j k = true) : al us i k = true := alikeU_trans h h2
theorem start_part (us : List P.S39) (ins : List Bool) : Part us.length (inn ins) (al us) (startP us ins) := begin_part (al_symm us) (al_trans us)
theorem fold_part (us : List P.S39) (ins : List Bool) : Part us.length (inn ins) (al us) (foldP us ins) ∧ refineF us.length (rf us) (foldP us ins) = foldP us ins := foldN_spec _ _ (start_part us ins) (Nat.lt_succ_self _)
def FOk (us : List P.S39) (ins : List Bool) : Prop := ins.length = us.length ∧ UOk us
def FoldPost (us : List P.S39) (ins : List Bool) (w : World) (e : Ending) (w' : World) : Prop :=
 Below w.heap.size w w' ∧ ((¬ FOk us ins ∧ e = .returned (.tuple #[.slice none 0 0, .int .i64 1])) ∨
 (FOk us ins ∧ ∃ pb, e = .returned (.tuple #[.slice (some ⟨pb, 0, none⟩) us.length us.length, .int .i64 0]) ∧ IB w' pb (foldL us ins) ∧ w.heap.size ≤ pb))
theorem equal_calls (w : World) (a b : Nat) (x y : List Int) (n : Nat) (hx : x.length = n) (hy : y.length = n) (hn : n ≤ 100000) (ha : IB w a x) (hb : IB w b y) :
 Calls Tryz.prog 42 #[.slice (some ⟨a, 0, none⟩) n n, .slice (some ⟨b, 0, none⟩) n n] w fun e w' => e = .returned (.bool (decide (x = y))) ∧ Drawn0 w w' := by
 obtain ⟨K, hK⟩ := equal_ev x y (by omega)
 have := P.slices_Equal_int_int.calls K (some ⟨a, 0, none⟩) n x (some ⟨b, 0, none⟩) n y (decide (x = y)) w (ha.reads (by omega)) (by omega) (hb.reads (by omega)) (by omega) (hK K (Nat.le_refl _))
 rw [hx, hy] at this
 exact this
def outs (ins : List Bool) (p : List Nat) (n i : Nat) : List Int := (List.range n).map fun q => if q < i ∧ inn ins q = false then -1 else (gt p q : Int)
theorem outs_zero (ins : List Bool) (p : List Nat) (n : Nat) (h : p.length = n) : p.map Int.ofNat = outs ins p n 0 := by
 refine List.ext_getElem (by simp [outs, h]) fun q h1 h2 => ?_
 simp [outs, gt, List.getD_eq_getElem?_getD]
 rw [List.getElem?_eq_getElem (by simpa using h1)]
 rfl
theorem outs_length (ins p n i) : (outs ins p n i).length = n := by simp [outs]
theorem outs_in (ins : List Bool) (p : List Nat) (n i : Nat) (h : inn ins i = true) : outs ins p n i = outs ins p n (i + 1) := by
 unfold outs
 refine List.map_congr_left fun q hq => ?_
 by_cases c : q = i
 ·subst c
  rw [if_neg (by rw [h]; simp), if_neg (by rw [h]; simp)]
 by_cases d : q < i ∧ inn ins q = false
 ·rw [if_pos d, if_pos ⟨by omega, d.2⟩]
 rw [if_neg d, if_neg (fun x => d ⟨by omega, x.2⟩)]
theorem outs_out (ins : List Bool) (p : List Nat) (n i : Nat) (h : inn ins i = false) : (outs ins p n i).set i (-1) = outs ins p n (i + 1) := by
 refine List.ext_getElem (by simp [outs]) fun q h1 h2 => ?_
 rw [List.getElem_set]
 by_cases c : i = q
 ·subst c
  rw [if_pos rfl]
  simp [outs, h]
 rw [if_neg c]
 simp only [outs, List.getElem_map, List.getElem_range]
 by_cases d : q < i ∧ inn ins q = false
 ·rw [if_pos d, if_pos ⟨by omega, d.2⟩]
 rw [if_neg d, if_neg (fun x => d ⟨by omega, x.2⟩)]
theorem outs_all (us : List P.S39) (ins : List Bool) : outs ins (foldP us ins) us.length us.length = foldL us ins := by
 unfold outs foldL
 refine List.map_congr_left fun q hq => ?_
 have := List.mem_range.1 hq
 cases h : inn ins q with
 | true => rw [if_neg (by simp), if_pos rfl]
 | false => rw [if_pos ⟨this, rfl⟩, if_neg (by decide)]
theorem gt_small {n : Nat} {inn al} {p : List Nat} (h : Part n inn al p) (hn : n ≤ 100000) (q : Nat) : gt p q ≤ 100000 := by
 by_cases c : q < n
 ·have := h.le q c
  omega
 unfold gt
 rw [List.getD_eq_getElem?_getD, List.getElem?_eq_none (by have := h.len; omega)]
 exact Nat.zero_le _
theorem ofNat_eq {a b : List Nat} : a.map Int.ofNat = b.map Int.ofNat ↔ a = b := List.map_inj_right (fun a b h => Int.ofNat.inj h)
theorem fold_any (w : World) (A A2 : Option Addr) (us : List P.S39) (ins : List Bool) (c c2 : Nat) (hG : Glob w) (hu : UA w A us) (hc : us.length ≤ c) (hn : Narrow us) (hul : us.length ≤ 100000) (hi : BA w A2 ins) (hil : ins.length ≤ 100000) (hc2 : ins.length ≤ c2) :
 Calls Tryz.prog 9 #[.slice A us.length c, .slice A2 ins.length c2] w (FoldPost us ins w) := by
 by_cases h1 : ins.length = us.length
 rotate_left
 ·have h2 : ((ins.length : Int) != us.length) = true := bN_ (by omega)
  go_enter Tryz.func9, Tryz.ntmps9
  go_wp2
  go_step3
  go_wp2
  try rw [Exit.noGoto_ret]
  go_ret2
  exact ⟨Below.refl _ _, .inl ⟨fun h => h1 h.1, rfl⟩⟩
 obtain ⟨b, hb, hbi⟩ := isU_ends us hn
 have HI := Azz.mk (isU_calls hb w A c hG hu hc hn)
 have HU := Azz.mk hu
 have HS := Azz.mk hi
 have HBi := Azz.mk hbi
 clear hb hbi hG hu hi hn
 cases b with
 | false =>
  rw [h1] at hc2 ⊢
  go_enter Tryz.func9, Tryz.ntmps9
  go_wp2
  go_step3
  go_wp2_with (go_at_call 33; (with_reducible refine HI.out.mono ?_); rintro e w1 ⟨rfl, hb⟩; have HB := Azz.mk hb; clear hb)
  try rw [Exit.noGoto_ret]
  go_ret2
  exact ⟨HB.out, .inl ⟨fun h => absurd (HBi.out.2 h.2) (by decide), rfl⟩⟩
 | true =>
  have hok := HBi.out.1 rfl
  rw [h1] at hc2 ⊢
  have HN := Azz.mk hok
  clear HBi hok
  go_enter Tryz.func9, Tryz.ntmps9
  go_wp2
  go_step3
  go_wp2_with (go_at_call 33; (with_reducible refine HI.out.mono ?_); rintro e w1 ⟨rfl, hb⟩; have HB := Azz.mk hb; clear hb)
  have hul2 := HN.out.1
  have h64 := nd_64 HN.out
  (with_reducible refine (begin_any w1 A A2 us ins c c2 (Kd.C_below HU.out HB.out) hc (by omega) (fun i hi => by have := (h64 i hi).1; omega) (Kd.C_below HS.out HB.out) h1 hc2).mono ?_)
  rintro e w2 ⟨rfl, hib, hb⟩
  have HB2 := Azz.mk (bTT HB.out hb)
  have HIb := Azz.mk hib
  have HSz := Azz.mk HB.out.size
  have H64 := Azz.mk h64
  clear hib hb HB h64 HI
  go_wp2
  go_step3
  go_wp2
  go_loopg [6] (much us.length (startP us ins) + 1) (fun g s6 wx => ∃ (p : List Nat) (pb : Nat), s6 = .slice (some ⟨pb, 0, none⟩) us.length us.length ∧ Azz (IB wx pb (p.map Int.ofNat)) ∧ Azz (Part us.length (inn ins) (al us) p) ∧ Azz (much us.length p < g ∧ foldN us.length (rf us) g p = foldP us ins) ∧ Azz (w.heap.size ≤ pb) ∧ Azz (Below w.heap.size w wx))
  case atStart => exact ⟨startP us ins, w1.heap.size, rfl, HIb, ⟨start_part us ins⟩, ⟨Nat.lt_succ_self _, rfl⟩, HSz, HB2⟩
  case round =>
   clear HIb HB2 HSz
   obtain ⟨p, pb, rfl, HP, HPt, HF, HL, HB⟩ := hrel
   cases gk with
   | zero => exact absurd HF.out.1 (Nat.not_lt_zero _)
   | succ g =>
    have hpl : p.length = us.length := HPt.out.len
    go_wp2_with fail
    (with_reducible refine (refine_any wr A pb us p c us.length (Kd.C_below HU.out HB.out) hc hul2 H64.out HP.out hpl (gt_small HPt.out (by omega)) (Nat.le_refl _)).mono ?_)
    rintro e w3 ⟨rfl, hnx, hb⟩
    have HNx := Azz.mk hnx
    have HB3 := Azz.mk (bTT HB.out hb)
    have HP3 := Azz.mk (HP.out.below hb)
    have HSz := Azz.mk (Nat.le_trans HB.out.size (Nat.le_refl _))
    clear hnx hb HP HB
    have HE := Azz.mk (equal_calls w3 wr.heap.size pb ((refineF us.length (rf us) p).map Int.ofNat) (p.map Int.ofNat) us.length (by simp [refineF]) (by rw [List.length_map, hpl]) (by omega) HNx.out HP3.out)
    by_cases hst : refineF us.length (rf us) p = p
    rotate_left
    ·rw [dF_ (fun h => hst (ofNat_eq.1 h))] at HE
     go_wp2_with fail
     (with_reducible refine HE.out.mono ?_)
     rintro e w4 ⟨rfl, hd⟩
     have HB4 := Azz.mk (bTT HB3.out hd.below)
     have HP4 := Azz.mk (HNx.out.below hd.below)
     clear hd HE HB3 HP3 HNx
     have HFn : Azz (much us.length (refineF us.length (rf us) p) < g ∧ foldN us.length (rf us) g (refineF us.length (rf us) p) = foldP us ins) := ⟨by have := refine_less (rf := rf us) HPt.out hst; have := HF.out.1; omega, by have := HF.out.2; unfold foldN at this; rw [if_neg hst] at this; exact this⟩
     go_wp2
     go_roundg g
     case measure => omega
     case rel => exact ⟨refineF us.length (rf us) p, wr.heap.size, rfl, HP4, ⟨refine_part HPt.out⟩, HFn, HSz, HB4⟩
    rw [dT_ (ofNat_eq.2 hst)] at HE
    go_wp2_with fail
    (with_reducible refine HE.out.mono ?_)
    rintro e w4 ⟨rfl, hd⟩
    have HB4 := Azz.mk (bTT HB3.out hd.below)
    have HP4 := Azz.mk (HP3.out.below hd.below)
    clear hd HE HB3 HP3 HNx
    have hfp : foldP us ins = p := by
     have := HF.out.2
     unfold foldN at this
     rw [if_pos hst] at this
     exact this.symm
    have HFp := Azz.mk hfp
    clear hfp hst HF
    go_wp2
    go_loopw [31] (fun v wy => ∃ i : Nat, i ≤ us.length ∧ v = .int .i64 i ∧ Azz (IB wy pb (outs ins p us.length i)) ∧ Azz (Below w.heap.size w wy)) (fun v _ => us.length - (RowKit.intOf v).toNat)
    case atStart => exact ⟨0, Nat.zero_le _, rfl, ⟨by rw [← outs_zero ins p us.length hpl]; exact HP4.out⟩, HB4⟩
    case round =>
     clear HP4 HB4
     obtain ⟨i, hi, rfl, HO, HB⟩ := hrel
     by_cases hlt : i < us.length
     ·obtain ⟨ad2, e2, hin⟩ := bool_at _ A2 ins (Kd.C_below HS.out HB.out) i (by omega)
      subst e2
      have fz := HO.out.frozen i
      have cz := HO.out.cell i (by rw [outs_length]; exact hlt)
      obtain ⟨bi, hbi⟩ : ∃ b, ins.getD i false = b := ⟨_, rfl⟩
      rw [hbi] at hin
      have HBi2 := Azz.mk hbi
      clear hbi
      cases bi with
      | true =>
       go_wp2
       go_roundw
       case rel => exact ⟨i + 1, by omega, by go_num, ⟨by rw [← outs_in ins p us.length i HBi2.out]; exact HO.out⟩, HB⟩
       case measure => simp [RowKit.intOf]; omega
      | false =>
       go_wp2
       go_roundw
       case rel => exact ⟨i + 1, by omega, by go_num, ⟨by rw [← outs_out ins p us.length i HBi2.out]; exact HO.out.set i (-1)⟩, ⟨Below.setCell (p := ⟨pb, i, none⟩) HB.out HL.out _⟩⟩
       case measure => simp [RowKit.intOf]; omega
     obtain rfl : i = us.length := by omega
     have HR := Azz.mk (show IB wr pb (foldL us ins) by rw [← outs_all, HFp.out]; exact HO.out)
     clear HO
     go_wp2
     try rw [Exit.noGoto_ret]
     go_ret2
     exact ⟨HB.out, .inr ⟨⟨h1, HN.out⟩, pb, rfl, HR.out, HL.out⟩⟩
end Go.Proofs.YtngmipfodjgmmaaGreatDoor.Pure
end
section
namespace Go.Proofs.YtngmipfodjgmmaaGreatDoor.Pure
open Go Go.RowKit Go.Lib Go.Shelf Wa Wb Wc
open P (Glob UA)
open Folds (gt)
theorem data_4096 {us : List P.S39} (h : UOk us) : ∀ i, i < us.length → (P.rd_T39 us i).f4.size ≤ 4096 := by
 intro i hi
 have e2 : P.rd_T39 us (i : Int) = us[i] := rd_get _ _ _ hi
 have hR := (is_iff _).1 (h.2 i hi).1
 rw [e2]
 exact hR.data
def savedF (us : List P.S39) (ins : List Bool) : Nat → Nat
 | 0 => 0
 | i + 1 => savedF us ins i + if inn ins i = true ∧ gt (foldP us ins) i ≠ i then (P.rd_T39 us i).f4.size else 0
theorem savedF_step (us : List P.S39) (ins : List Bool) (i : Nat) : savedF us ins (i + 1) = savedF us ins i + if inn ins i = true ∧ gt (foldP us ins) i ≠ i then (P.rd_T39 us i).f4.size else 0 := rfl
theorem savedF_le {us : List P.S39} (ins : List Bool) (h : ∀ i, i < us.length → (P.rd_T39 us i).f4.size ≤ 4096) (i : Nat) (hi : i ≤ us.length) : savedF us ins i ≤ i * 4096 := by
 induction i with
 | zero => exact Nat.zero_le _
 | succ i ih =>
  have h1 := ih (by omega)
  have h2 := h i (by omega)
  rw [savedF_step, Nat.succ_mul]
  by_cases c : inn ins i = true ∧ gt (foldP us ins) i ≠ i
  ·rw [if_pos c]; exact Nat.add_le_add h1 h2
  rw [if_neg c]; exact Nat.add_le_add h1 (Nat.zero_le _)
def SavedPost (us : List P.S39) (ins : List Bool) (w : World) (e : Ending) (w' : World) : Prop :=
 Below w.heap.size w w' ∧ ((¬ FOk us ins ∧ e = .returned (.tuple #[.int .i64 0, .int .i64 1])) ∨ (FOk us ins ∧ e = .returned (.tuple #[.int .i64 (savedF us ins us.length), .int .i64 0])))
theorem foldL_get (us : List P.S39) (ins : List Bool) (i : Nat) (hi : i < us.length) : (foldL us ins).getD i 0 = if inn ins i = true then (gt (foldP us ins) i : Int) else -1 := by
 unfold foldL
 rw [List.getD_eq_getElem?_getD, List.getElem?_map, List.getElem?_range hi]
 rfl
theorem foldL_length (us : List P.S39) (ins : List Bool) : (foldL us ins).length = us.length := by simp [foldL]
theorem saved_any (w : World) (A A2 : Option Addr) (us : List P.S39) (ins : List Bool) (c c2 : Nat) (hG : Glob w) (hu : UA w A us) (hc : us.length ≤ c) (hn : Narrow us) (hul : us.length ≤ 100000) (hi : BA w A2 ins) (hil : ins.length ≤ 100000) (hc2 : ins.length ≤ c2) :
 Calls Tryz.prog 11 #[.slice A us.length c, .slice A2 ins.length c2] w (SavedPost us ins w) := by
 have HF := Azz.mk (fold_any w A A2 us ins c c2 hG hu hc hn hul hi hil hc2)
 have HU := Azz.mk hu
 have HS := Azz.mk hi
 clear hG hu hn hi
 go_enter Tryz.func11, Tryz.ntmps11
 go_wp2_with fail
 (with_reducible refine HF.out.mono ?_)
 rintro e w1 ⟨hb, ⟨hno, rfl⟩ | ⟨hok, pb, rfl, hL, _⟩⟩
 ·have HB := Azz.mk hb
  clear hb HF
  go_wp2
  go_ret2
  exact ⟨HB.out, .inl ⟨hno, rfl⟩⟩
 have HB := Azz.mk hb
 have HL := Azz.mk hL
 have HOk := Azz.mk hok
 have hd := data_4096 hok.2
 have HD := Azz.mk hd
 have hul2 := hok.2.1
 have hle := hok.1
 rw [hle] at hc2
 clear hb hL hok hd HF
 go_wp2
 go_loopw [8, 22] (fun v8 v wr => ∃ i : Nat, i ≤ us.length ∧ v = .int .i64 i ∧ v8 = .int .i64 (savedF us ins i) ∧ w1 = wr) (fun _ v _ => us.length - (RowKit.intOf v).toNat)
 case atStart => exact ⟨0, Nat.zero_le _, rfl, rfl, rfl⟩
 case round =>
  obtain ⟨i, hi, rfl, rfl, rfl⟩ := hrel
  by_cases hlt : i < us.length
  rotate_left
  ·obtain rfl : i = us.length := by omega
   go_wp2
   go_ret2
   exact ⟨HB.out, .inr ⟨HOk.out, rfl⟩⟩
  obtain ⟨ad2, e2, hin⟩ := bool_at _ A2 ins (Kd.C_below HS.out HB.out) i (by omega)
  subst e2
  obtain ⟨ad3, A5, c5, e3, x0, x1, x2, x3, x4, x5, l5, C5⟩ := P.at_T39 (Kd.C_below HU.out HB.out) i (by omega) (by omega)
  subst e3
  rw [Int.toNat_natCast] at x4
  clear x0 x1 x2 x3 x5 l5 C5
  have cz := HL.out.cell i (by rw [foldL_length]; exact hlt)
  rw [foldL_get us ins i hlt] at cz
  have hs := savedF_le ins HD.out i hi
  have hdi := HD.out i hlt
  have HSs := Azz.mk (show savedF us ins (i + 1) = savedF us ins i + if inn ins i = true ∧ gt (foldP us ins) i ≠ i then (P.rd_T39 us i).f4.size else 0 from rfl)
  obtain ⟨n, hn⟩ : ∃ n, savedF us ins i = n := ⟨_, rfl⟩
  obtain ⟨d, hd⟩ : ∃ d, (P.rd_T39 us i).f4 = d := ⟨_, rfl⟩
  obtain ⟨q, hq⟩ : ∃ q, gt (foldP us ins) i = q := ⟨_, rfl⟩
  rw [hd] at x4 hdi HSs
  rw [hq] at cz HSs
  rw [hn] at hs HSs ⊢
  obtain ⟨bi, hbi⟩ : ∃ b, ins.getD i false = b := ⟨_, rfl⟩
  have hbi2 : inn ins i = bi := hbi
  rw [hbi] at hin
  rw [hbi2] at cz HSs
  clear hbi hbi2 hn hd hq
  cases bi with
  | false =>
   rw [if_neg (by decide)] at cz
   go_wp2
   go_roundw
   case rel => exact ⟨i + 1, by omega, by go_num, by rw [HSs.out, if_neg (by simp)]; rfl, trivial⟩
   case measure => simp [RowKit.intOf]; omega
  | true =>
   rw [if_pos rfl] at cz
   by_cases hqi : q = i
   ·subst hqi
    have hqq : ((q : Int) != (q : Int)) = false := by simp
    go_wp2
    go_roundw
    case rel => exact ⟨q + 1, by omega, by go_num, by rw [HSs.out, if_neg (by simp)]; rfl, trivial⟩
    case measure => simp [RowKit.intOf]; omega
   have hqq : ((q : Int) != (i : Int)) = true := bN_ (by omega)
   go_wp2
   go_roundw
   case rel => exact ⟨i + 1, by omega, by go_num, by rw [HSs.out, if_pos ⟨rfl, hqi⟩]; go_num, trivial⟩
   case measure => simp [RowKit.intOf]; omega
end Go.Proofs.YtngmipfodjgmmaaGreatDoor.Pure
end
section
namespace Go.Proofs.YtngmipfodjgmmaaGreatDoor.P
open Go.RowKit Wa Wb Wc
attribute [local go_sem] max2_int min2_int max_two min_two max_three min_three max_four min_four
def cleatlaw22_caller.f (a0 : ByteArray) (a1 : Int) : Option (ByteArray × Int × Bool × Int × ByteArray × (List (S80))) := some (a0, 1, false, 0, (⟨#[0, 0, 0, 148]⟩ : ByteArray), (([(⟨0, 2, a1, 0⟩ : S80)] : List (S80))))
theorem cleatlaw22_caller.calls (a0 : ByteArray) (a1 : Int) (r1 : ByteArray) (r2 : Int) (r3 : Bool) (r4 : Int) (r5 : ByteArray) (r6 : List (S80)) (w : World) (h : cleatlaw22_caller.f a0 a1 = some (r1, r2, r3, r4, r5, r6)) :
 Calls Tryz.prog 45 #[.string a0, .int .i64 a1] w fun e w' => ∃ v5_ : Value, e = .returned (.agg #[.string r1, .int .i64 r2, .bool r3, .int .i64 r4, .string r5, v5_]) ∧ Kd.R k80 80 w' w.heap.size (fun _ => True) v5_ r6 ∧ Below w.heap.size w w' := by
 have hu39 := Tryz.underlying39
 have hu80 := Tryz.underlying80
 have HB := Azz.mk (Below.refl w.heap.size w)
 have H : (some (a0, 1, false, 0, (⟨#[0, 0, 0, 148]⟩ : ByteArray), (([(⟨0, 2, a1, 0⟩ : S80)] : List (S80))))) = some (r1, r2, r3, r4, r5, r6) := h
 clear h
 obtain ⟨y620, hy620⟩ : ∃ y_ : List (S80), y_ = (([(⟨0, 2, a1, 0⟩ : S80)] : List (S80))) := ⟨_, rfl⟩
 replace H : (some (a0, 1, false, 0, (⟨#[0, 0, 0, 148]⟩ : ByteArray), y620)) = some (r1, r2, r3, r4, r5, r6) := by first | (rw [hy620]; with_reducible exact H) | (have H2_ := (Option.bind_some _ _).symm.trans H; rw [hy620]; with_reducible exact H2_) | (have H2_ := (Option.bind_some _ _).symm.trans H; with_reducible exact H2_) | with_reducible exact H | (rw [hy620]; exact H) | exact H
 have Ny620 := Azz.mk hy620
 clear hy620
 simp only [sJ_, pJ_] at H
 obtain ⟨rfl, rfl, rfl, rfl, rfl, rfl⟩ := H
 go_enter Tryz.func45, Tryz.ntmps45
 go_wp2_with (first | ((with_reducible refine gate_dst (N := 4) rfl ?_); refine bxE (N := 4) (by with_reducible repeat first | exact HB.out | apply bAA | apply bNN | apply bDD) (cs := #[.string (⟨#[]⟩ : ByteArray), .int .i64 0, .bool false, .int .i64 0, .string (⟨#[]⟩ : ByteArray), .slice none 0 0]) (t := 39) ?_; intro gb619 w3 n0_ BK619 GE619; clear HB; have HB := n0_; have GW619 := GE619; clear n0_) | ((with_reducible refine gate_dst (N := 8) rfl ?_); refine Kd.R_lit k80 _ 80 ?hg (N := 8) ?hd (xs := ([(⟨0, 2, a1, 0⟩ : S80)] : List (S80))) (inner := [.int .i64 0, .int .i64 2, .int .i64 a1, .int .i64 0]) (ok := fun _ => True) (okp := fun _ => True) ?hr ?hp (fun _ hk => hk) trivial (Below.refl _ _) (Nat.le_refl _) (by simp) ?_; (case hd => rfl); (case hg => rfl); (case hr => first | (go_simp; done) | (go_simp; rfl)); (case hp => exact (Reps.c4 (show Kd.M k80 _ _ _ (⟨0, 2, a1, 0⟩ : S80) [.int .i64 0, .int .i64 2, .int .i64 a1, .int .i64 0] from (k80_mkM _ _ _ (⟨0, 2, a1, 0⟩ : S80) )) (Reps.none _ _))); intro v621 w4 ho5 hb hg_ hnew_; clear hg_ hnew_; (first | rw [← Ny620.out] at ho5 | (simp only [Int.reduceToNat] at ho5; rw [← Ny620.out] at ho5)); have n0_ := Azz.mk (Kd.R_lower ho5 (bZZ (by with_reducible repeat first | exact HB.out | apply bAA | apply bNN | apply bDD | refine bSS ?_ GE619.out))); have n1_ := Azz.mk (blk_b hb BK619.out); have n2_ := Azz.mk (bTT (by with_reducible repeat first | exact HB.out | apply bAA | apply bNN | apply bDD | refine bSS ?_ GE619.out) hb); clear BK619; clear HB; have HO622 := n0_; have BK619 := n1_; have HB := n2_; clear n0_ n1_ n2_; clear hb ho5; obtain ⟨Ao6, co6, eo6⟩ := Kd.R_slice HO622.out; subst eo6; obtain ⟨hcz7_0, hcz7_1, hcz7_2, hcz7_3, hcz7_4, hcz7_5, hfz7_0, hfz7_1, hfz7_2, hfz7_3, hfz7_4, hfz7_5⟩ := cel6 BK619.out) | ((with_reducible refine gate_store (t := 39) (p := 4) rfl ?_); refine store_event (t := 39) (p := 4) (v := ?vo_w8) (w1 := ((((((w4.setCell ⟨gb619, 0, none⟩ (.string a0)).setCell ⟨gb619, 1, none⟩ (.int .i64 1)).setCell ⟨gb619, 2, none⟩ (.bool false)).setCell ⟨gb619, 3, none⟩ (.int .i64 0)).setCell ⟨gb619, 4, none⟩ (.string (⟨#[0, 0, 0, 148]⟩ : ByteArray))).setCell ⟨gb619, 5, none⟩ (.slice Ao6 y620.length co6))) ?hg ?ho ?hn ?hr ?_; (case ho => rfl); (case hg => rfl); (case hn => rfl); (case hr => first | (go_simp; done) | (go_simp; rfl)); intro w8 hw; have n0_ : Azz (Kd.R k80 80 w8 w.heap.size (fun _ => True) (.slice Ao6 y620.length co6) y620) := ⟨(by rw [hw]; exact (by (with_reducible repeat (first | apply Kd.R_alloc | apply Kd.R_drewN | apply Kd.R_drew)); exact Kd.R_mono (Kd.farR6 (Kd.R_types HO622.out BK619.out (by decide)) (fun _ hk => hk.2)) (fun _ hk => trivial)))⟩; have n1_ : Azz (w8.heap[gb619]? = some (.cells #[.string a0, .int .i64 1, .bool false, .int .i64 0, .string (⟨#[0, 0, 0, 148]⟩ : ByteArray), .slice Ao6 y620.length co6] 39 (0, 0))) := ⟨(by rw [hw]; exact (by apply put6; (with_reducible repeat first | apply kNN | apply kDD | apply kAA); exact BK619.out))⟩; have n2_ : Azz (Below w.heap.size w w8) := ⟨(by rw [hw]; exact (by with_reducible repeat first | exact HB.out | apply bAA | apply bNN | apply bDD | refine bSS ?_ GE619.out))⟩; clear hw; clear HO622; clear BK619; clear HB; have HO622 := n0_; have BK619 := n1_; have HB := n2_; clear n0_ n1_ n2_))
 refine bodyPost_ret (results_cell_row rfl _ _ gb619 39 #[.string a0, .int .i64 1, .bool false, .int .i64 0, .string (⟨#[0, 0, 0, 148]⟩ : ByteArray), .slice Ao6 y620.length co6] (0, 0) _ rfl (by (with_reducible repeat first | apply kNN | apply kDD | apply kAA); exact BK619.out) Tryz.underlying39 rfl (by kernel_rfl)) rfl ?_
 exact ⟨_, by first | rfl | (simp [eNN, eSS] <;> rfl) | (simp [*, eNN, eSS] <;> rfl), by (with_reducible repeat (first | apply Kd.R_alloc | apply Kd.R_drewN | apply Kd.R_drew)); exact HO622.out, by repeat (first | (with_reducible first | exact HB.out | apply bAA | apply bNN | apply bDD | refine bSS ?_ GE619.out) | exact HB.out)⟩
end Go.Proofs.YtngmipfodjgmmaaGreatDoor.P
end
