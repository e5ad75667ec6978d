/- The law 'FoldCoarse' walked: it returns true. -/
import Derived.Test.YtngmipfodjgmmaaDoorFr70
import Derived.Test.YtngmipfodjgmmaaDoorFr72
namespace Go.Proofs.YtngmipfodjgmmaaDoor.Pure
open Go Go.RowKit Go.Lib Go.Shelf Go.Proofs.YtngmipfodjgmmaaDoorW.PrintWords Go.Proofs.YtngmipfodjgmmaaDoorW.PrintLast Go.Proofs.YtngmipfodjgmmaaDoorW.PrintMore
open P (Glob UA)
open Folds (gt)
set_option linter.unusedVariables false
set_option linter.unusedSimpArgs false
set_option maxRecDepth 100000 in
set_option maxHeartbeats 8000000 in
theorem fcoarse_any (w : World) (A A2 A3 : Option Addr) (us : List P.S36) (ins : List Bool) (l : List Int) (c c2 c3 : Nat) (hG : Glob w) (hu : UA w A us) (hc : us.length ≤ c) (hh : Held us) (hi : BA w A2 ins) (hil : ins.length ≤ 9000000000000000000) (hc2 : ins.length ≤ c2) (hl : IA w A3 l) (hll : l.length ≤ 9000000000000000000) (hc3 : l.length ≤ c3) :
 Calls Tryd.prog 4 #[.slice A us.length c, .slice A2 ins.length c2, .slice A3 l.length c3] w fun e w' => e = .returned (.bool true) ∧ Below w.heap.size w w' := by
 obtain ⟨b, hb, hfew⟩ := bigU_calls us hh w A c hu hc
 have hul3 := hh.1
 have HBig := Azz.mk hb
 have HG := Azz.mk hG
 have HU := Azz.mk hu
 have HS := Azz.mk hi
 have HL := Azz.mk hl
 clear hb hG hu hi hl
 cases b with
 | true =>
  go_enter Tryd.func4, Tryd.ntmps4
  go_wp2_with (go_at_call 12; (with_reducible refine HBig.out.mono ?_); rintro e w1 ⟨rfl, hb⟩; have HB := Azz.mk hb; clear hb)
  go_ret
  exact ⟨rfl, HB.out⟩
 | false =>
  have HF := Azz.mk (hfew rfl)
  clear hfew hh
  have hul := HF.out.1
  by_cases h3 : (ins.length : Int) > 300
  ·go_enter Tryd.func4, Tryd.ntmps4
   go_wp2_with (go_at_call 12; (with_reducible refine HBig.out.mono ?_); rintro e w1 ⟨rfl, hb⟩; have HB := Azz.mk hb; clear hb)
   go_ret
   exact ⟨rfl, HB.out⟩
  ·by_cases h4 : (l.length : Int) > 300
   ·go_enter Tryd.func4, Tryd.ntmps4
    go_wp2_with (go_at_call 12; (with_reducible refine HBig.out.mono ?_); rintro e w1 ⟨rfl, hb⟩; have HB := Azz.mk hb; clear hb)
    go_ret
    exact ⟨rfl, HB.out⟩
   ·have hil2 : ins.length ≤ 300 := by omega
    have hll2 : l.length ≤ 300 := by omega
    clear hil hll
    go_enter Tryd.func4, Tryd.ntmps4
    go_wp2_with (go_at_call 12; (with_reducible refine HBig.out.mono ?_); rintro e w1 ⟨rfl, hb⟩; have HB := Azz.mk hb; clear hb HBig)
    (with_reducible refine (fold_any w1 A A2 us ins c c2 (HG.out.below HB.out) (Kd.C_below HU.out HB.out) hc HF.out.narrow (by omega) (Kd.C_below HS.out HB.out) (by omega) hc2).mono ?_)
    rintro e w2 ⟨hb, hs⟩
    replace HB := Azz.mk (bTT HB.out hb)
    clear hb
    rcases hs with ⟨hno, rfl⟩ | ⟨hok, pb, rfl, hfl, _⟩
    ·clear hno
     go_wp2_with fail
     (with_reducible refine (folded_any _ (HG.out.below HB.out)).mono ?_)
     rintro e w3 ⟨rfl, hb⟩
     replace HB := Azz.mk (bTT HB.out hb)
     clear hb
     go_wp2
     go_ret
     exact ⟨rfl, HB.out⟩
    ·have HOk := Azz.mk hok.2
     have hle := hok.1
     have HFl := Azz.mk hfl
     clear hok hfl
     by_cases h5 : l.length = us.length
     ·have hne : ((us.length : Int) != us.length) = false := by simp
      rw [hle] at hc2 ⊢
      rw [h5] at hc3 ⊢
      have HGo := Azz.mk (good_any w2 A A2 A3 us ins l c c2 c3 (Kd.C_below HU.out HB.out) hc HOk.out (Kd.C_below HS.out HB.out) hle hc2 (Kd.C_below HL.out HB.out) h5 hc3)
      go_wp2_with fail
      (with_reducible refine HGo.out.mono ?_)
      rintro e w3 ⟨b, rfl, hb1, hb⟩
      replace HB := Azz.mk (bTT HB.out hb)
      replace HFl := Azz.mk (HFl.out.below hb)
      clear hb HGo
      cases b with
      | false =>
       clear hb1
       go_wp2_with fail
       (with_reducible refine (folded_any _ (HG.out.below HB.out)).mono ?_)
       rintro e w4 ⟨rfl, hb⟩
       replace HB := Azz.mk (bTT HB.out hb)
       clear hb
       go_wp2
       go_ret
       exact ⟨rfl, HB.out⟩
      | true =>
       have HAo := Azz.mk (hb1.1 rfl)
       clear hb1
       go_wp2
       go_loopw [9] (fun v wr => ∃ i : Nat, i ≤ us.length ∧ v = .int .i64 i ∧ Azz (IB wr pb (foldL us ins)) ∧ Azz (Below w.heap.size w wr)) (fun v _ => us.length - (RowKit.intOf v).toNat)
       case atStart => exact ⟨0, Nat.zero_le _, rfl, HFl, HB⟩
       case round =>
        clear HFl HB
        obtain ⟨i, hi, rfl, HFl, HB⟩ := hrel
        by_cases hlt : i < us.length
        ·go_wp2
         go_loopw [10] (fun v wr => ∃ k : Nat, k ≤ i ∧ v = .int .i64 k ∧ Azz (IB wr pb (foldL us ins)) ∧ Azz (Below w.heap.size w wr)) (fun v _ => i - (RowKit.intOf v).toNat)
         case atStart => exact ⟨0, Nat.zero_le _, rfl, HFl, HB⟩
         case round =>
          clear HFl HB
          obtain ⟨k, hk, rfl, HFl, HB⟩ := hrel
          by_cases hkl : k < i
          ·have hi0 : (0 : Int) ≤ (i : Int) := by omega
           have hi1 : (i : Int) < us.length := by omega
           have hk0 : (0 : Int) ≤ (k : Int) := by omega
           have hk1 : (k : Int) < us.length := by omega
           obtain ⟨ad2, e2, b1⟩ := bool_at _ A2 ins (Kd.C_below HS.out HB.out) i (by omega)
           subst e2
           obtain ⟨ad2', e2, b2⟩ := bool_at _ (some ad2) ins (Kd.C_below HS.out HB.out) k (by omega)
           cases e2
           obtain ⟨ad3, e3, l1⟩ := int_at _ A3 l (Kd.C_below HL.out HB.out) i (by omega)
           subst e3
           obtain ⟨ad3', e3, l2⟩ := int_at _ (some ad3) l (Kd.C_below HL.out HB.out) k (by omega)
           cases e3
           have f1 := HFl.out.cell i (by rw [foldL_length]; omega)
           have f2 := HFl.out.cell k (by rw [foldL_length]; omega)
           have HCo := Azz.mk (fun (ii : inn ins i = true) (ik : inn ins k = true) (e : l.getD i 0 = l.getD k 0) => fold_coarse HOk.out HAo.out i k hlt hkl ii ik e)
           obtain ⟨bi, hbi⟩ : ∃ b, ins.getD i false = b := ⟨_, rfl⟩
           obtain ⟨bk, hbk⟩ : ∃ b, ins.getD k false = b := ⟨_, rfl⟩
           obtain ⟨qi, hqi⟩ : ∃ b, l.getD i 0 = b := ⟨_, rfl⟩
           obtain ⟨qk, hqk⟩ : ∃ b, l.getD k 0 = b := ⟨_, rfl⟩
           obtain ⟨fi, hfi⟩ : ∃ b, (foldL us ins).getD i 0 = b := ⟨_, rfl⟩
           obtain ⟨fk, hfk⟩ : ∃ b, (foldL us ins).getD k 0 = b := ⟨_, rfl⟩
           rw [hbi] at b1
           rw [hbk] at b2
           rw [hqi] at l1 HCo
           rw [hqk] at l2 HCo
           rw [hfi] at f1 HCo
           rw [hfk] at f2 HCo
           rw [show inn ins i = bi from hbi, show inn ins k = bk from hbk] at HCo
           clear hbi hbk hqi hqk hfi hfk
           cases bi with
           | false =>
            go_wp2
            go_quiet (fail)
            go_wp2
            go_roundw
            case rel => exact ⟨k + 1, by omega, by go_num, ⟨HFl.out.below (bNN (Below.refl _ _) _)⟩, ⟨bNN HB.out _⟩⟩
            case measure => simp [RowKit.intOf]; omega
           | true =>
            cases bk with
            | false =>
             go_wp2
             go_quiet (fail)
             go_wp2
             go_roundw
             case rel => exact ⟨k + 1, by omega, by go_num, ⟨HFl.out.below (bNN (Below.refl _ _) _)⟩, ⟨bNN HB.out _⟩⟩
             case measure => simp [RowKit.intOf]; omega
            | true =>
             by_cases hq : qi = qk
             ·have hfe := HCo.out rfl rfl hq
              subst hq
              subst hfe
              have hqq : (qi == qi) = true := by simp
              have hff : (fi != fi) = false := by simp
              go_wp2
              go_quiet (fail)
              go_wp2
              go_roundw
              case rel => exact ⟨k + 1, by omega, by go_num, ⟨HFl.out.below (bNN (Below.refl _ _) _)⟩, ⟨bNN HB.out _⟩⟩
              case measure => simp [RowKit.intOf]; omega
             ·have hqq : (qi == qk) = false := beq_eq_false_iff_ne.mpr hq
              go_wp2
              go_quiet (fail)
              go_wp2
              go_roundw
              case rel => exact ⟨k + 1, by omega, by go_num, ⟨HFl.out.below (bNN (Below.refl _ _) _)⟩, ⟨bNN HB.out _⟩⟩
              case measure => simp [RowKit.intOf]; omega
          ·obtain rfl : k = i := by omega
           go_wp2
           go_roundw
           case rel => exact ⟨k + 1, by omega, by go_num, HFl, HB⟩
           case measure => simp [RowKit.intOf]; omega
        ·obtain rfl : i = us.length := by omega
         go_wp2_with fail
         (with_reducible refine (folded_any _ (HG.out.below HB.out)).mono ?_)
         rintro e w4 ⟨rfl, hb⟩
         replace HB := Azz.mk (bTT HB.out hb)
         clear hb
         go_wp2
         go_ret
         exact ⟨rfl, HB.out⟩
     ·have hne : ((l.length : Int) != us.length) = true := bne_iff_ne.mpr (by omega)
      go_wp2_with fail
      (with_reducible refine (folded_any _ (HG.out.below HB.out)).mono ?_)
      rintro e w3 ⟨rfl, hb⟩
      replace HB := Azz.mk (bTT HB.out hb)
      clear hb
      go_wp2
      go_ret
      exact ⟨rfl, HB.out⟩
end Go.Proofs.YtngmipfodjgmmaaDoor.Pure
