/- The document's 'Fold' and 'Saved' walked. -/
import Derived.Test.YtngmipfodjgmmaaGreatDoorFz111
set_option maxRecDepth 100000
set_option maxHeartbeats 8000000
set_option linter.unusedVariables false
set_option linter.unusedSimpArgs false
namespace Go.Proofs.YtngmipfodjgmmaaGreatDoor.Pure
open Go Go.RowKit Go.Lib Go.Shelf Wa Wb Wc
open P (Glob UA root_at)
open Folds (gt OneP Least least_start least_end)
def RFoldPost (us : List P.S39) (ins : List Bool) (w : World) (e : Ending) (w' : World) : Prop :=
 Below w.heap.size w w' ∧ ((¬ FOk us ins ∧ e = .returned (.tuple #[.slice none 0 0, .int .i64 1])) ∨
 (FOk us ins ∧ ∃ A cp, e = .returned (.tuple #[.slice A us.length cp, .int .i64 0]) ∧ us.length ≤ cp ∧ IA w' A (foldL us ins)))
theorem take_snoc (us : List P.S39) (ins : List Bool) {i : Nat} (hi : i < us.length) {z : Int} (h : z = if inn ins i = true then (gt (foldP us ins) i : Int) else -1) : (foldL us ins).take i ++ [z] = (foldL us ins).take (i + 1) := by
 have hl : i < (foldL us ins).length := by rw [foldL_length]; exact hi
 rw [List.take_succ_eq_append_getElem hl]
 have := foldL_get us ins i hi
 rw [List.getD_eq_getElem?_getD, List.getElem?_eq_getElem hl] at this
 have e : (foldL us ins)[i] = z := by rw [h]; exact this
 rw [e]
theorem take_len (us : List P.S39) (ins : List Bool) {i : Nat} (hi : i ≤ us.length) : ((foldL us ins).take i).length = i := by rw [List.length_take, foldL_length]; omega
theorem rfold_any (w : World) (A A2 : Option Addr) (us : List P.S39) (ins : List Bool) (c c2 : Nat) (hu : UA w A us) (hc : us.length ≤ c) (hn : Narrow us) (hul : us.length ≤ 100000) (hi : BA w A2 ins) (hil : ins.length ≤ 100000) (hc2 : ins.length ≤ c2) :
 Calls Tryz.prog 10 #[.slice A us.length c, .slice A2 ins.length c2] w (RFoldPost us ins w) := by
 have HI := Azz.mk (ris_units us A c w hu hc hn hul)
 have HU := Azz.mk hu
 have HS := Azz.mk hi
 clear hu hi hn
 go_enter Tryz.func10, Tryz.ntmps10
 go_wp2_with fail
 (with_reducible refine HI.out.mono ?_)
 rintro en w1 ⟨b, rfl, hbi, hb⟩
 have HB := Azz.mk hb
 have HBi := Azz.mk hbi
 clear hb hbi HI
 cases b with
 | false =>
  go_wp2
  go_ret2
  exact ⟨HB.out, .inl ⟨fun h => absurd (HBi.out.2 h.2) (by decide), rfl⟩⟩
 | true =>
  have HN := Azz.mk (HBi.out.1 rfl)
  clear HBi
  by_cases h1 : ins.length = us.length
  rotate_left
  ·have h2 : ((ins.length : Int) != us.length) = true := bN_ (by omega)
   go_wp2
   go_ret2
   exact ⟨HB.out, .inl ⟨fun h => h1 h.1, rfl⟩⟩
  have e1 : ((ins.length : Int) != us.length) = false := by simp [h1]
  have HLn := Azz.mk h1
  have HAp : Azz (Calls Tryz.prog 43 #[.slice A us.length c, .slice A2 ins.length c2] w1 (AptPost us ins w1)) := ⟨by
   have := apart_any w1 A A2 us ins c c2 (Kd.C_below HU.out HB.out) hc HN.out (Kd.C_below HS.out HB.out) h1 (by omega)
   rw [h1]
   exact this⟩
  clear h1
  go_wp2_with fail
  (with_reducible refine HAp.out.mono ?_)
  rintro e w2 ⟨hb, v, bs, m, rfl, hx, hbl, hm⟩
  have HB2 := Azz.mk (bTT HB.out hb)
  have HX := Azz.mk hx
  have HM := Azz.mk hm
  have HPt := Azz.mk (fold_part us ins).1
  clear hb hx hm HAp
  go_wp2
  go_loopw [7, 8] (fun v7 v wr => ∃ i : Nat, i ≤ us.length ∧ v = .int .i64 i ∧ Azz (Kd.R (Kd.int .i64) 3 wr w2.heap.size (fun _ => True) v7 ((foldL us ins).take i)) ∧ Azz (Below w2.heap.size w2 wr)) (fun _ v _ => us.length - (RowKit.intOf v).toNat)
  case atStart => exact ⟨0, Nat.zero_le _, rfl, ⟨Kd.R_nil _ _ _ _ _⟩, ⟨Below.refl _ _⟩⟩
  case round =>
   obtain ⟨i, hi, rfl, HO, HBr⟩ := hrel
   obtain ⟨wi, hwi⟩ : ∃ x, x = wr := ⟨_, rfl⟩
   subst hwi
   by_cases hlt : i < us.length
   rotate_left
   ·obtain rfl : i = us.length := by omega
    obtain ⟨Aa, ca, hv, hla, hC⟩ := Kd.R_reads HO.out
    rw [List.take_of_length_le (by rw [foldL_length]; exact Nat.le_refl _)] at hv hla hC
    rw [foldL_length] at hv hla
    subst hv
    have HC := Azz.mk hC
    clear hC HO
    go_wp2
    go_ret2
    exact ⟨bTT HB2.out HBr.out, .inr ⟨⟨HLn.out, HN.out⟩, Aa, ca, rfl, hla, HC.out⟩⟩
   have i0 : (0 : Int) ≤ (i : Int) := by omega
   have i1 : (i : Int) < us.length := by omega
   have i2 : (i : Int) < ins.length := by have := HLn.out; omega
   have HLt := Azz.mk hlt
   obtain ⟨ad2, e2, hin⟩ := bool_at _ A2 ins (Kd.C_below HS.out (bTT HB2.out HBr.out)) i (by have := HLn.out; omega)
   cases e2
   obtain ⟨bi, hbi⟩ : ∃ b, ins.getD i false = b := ⟨_, rfl⟩
   have HIn := Azz.mk (show inn ins i = bi from hbi)
   rw [hbi] at hin
   have HX2 := Azz.mk (HX.out.below HBr.out)
   obtain ⟨ao, co, ev, hh⟩ := HX2.out.head (i := i) (by rw [hbl]; exact hlt)
   cases ev
   have hcl := fun q (hq : q < us.length) => HX2.out.cell (i := i) (k := q) (by rw [hbl]; exact hlt) hq
   obtain ⟨bb, hbb⟩ : ∃ b, bs.getD i 0 = b := ⟨_, rfl⟩
   rw [hbb] at hh
   simp only [hbb] at hcl
   have HCl := Azz.mk hcl
   clear hbi hbb hcl hlt
   go_wp2
   go_loopw [9, 10] (fun v9 v wr2 => ∃ (k : Nat) (a : Int), k ≤ i + 1 ∧ v = .int .i64 ((k : Int) - 1) ∧ v9 = .int .i64 a ∧ Azz (Least m i k a ∧ (bi = false → a = -1)) ∧ wi = wr2) (fun _ v _ => (RowKit.intOf v + 1).toNat)
   case atStart => exact ⟨i + 1, -1, Nat.le_refl _, by congr 1; omega, rfl, ⟨least_start m i, fun _ => rfl⟩, rfl⟩
   case round =>
    obtain ⟨k, a, hk, rfl, rfl, HLe, rfl⟩ := hrel
    have HEnd : Azz ((k = 0 ∨ bi = false) → a = if inn ins i = true then (gt (foldP us ins) i : Int) else -1) := ⟨fun h => by
     cases bi with
     | false => rw [HIn.out]; exact HLe.out.2 rfl
     | true =>
      rw [HIn.out, if_pos rfl]
      rcases h with rfl | h
      ·exact least_end HPt.out HM.out HLt.out HIn.out HLe.out.1
      cases h⟩
    cases k with
    | zero =>
     have HSn := Azz.mk (take_snoc us ins HLt.out (HEnd.out (.inl rfl)))
     have k0 : decide ((0 : Int) ≤ ((0 : Nat) : Int) - 1) = false := by decide
     go_wp2_with (at_builtin; refine Kd.R_append_rows (Kd.int .i64) (w0 := w2) w2.heap.size rfl _ _ 26 3 (.int .i64 0) 8 rfl Tryz.underlying26 P.info_int rfl (by decide) (by decide) _ ((foldL us ins).take i) [a] (some ⟨wi.heap.size, 0, none⟩) 1 1 (fun _ => True) (fun _ => False) rfl rfl (Kd.R_alloc HO.out _) (int_one (blk_new wi (.cells #[.int .i64 a] 3 (0, 0)))) (fun _ _ h => h) (fun _ h => h.elim) (fun _ _ => trivial) (bAA HBr.out _) (bAA HBr.out _).size (by rw [take_len us ins (by omega)]; omega) ?_; intro v1 w7 ho1 hb1 _ _; have HO1 := Azz.mk ho1; have HB1 := Azz.mk hb1; clear ho1 hb1)
     go_roundw
     case rel => exact ⟨i + 1, by have := HLt.out; omega, by go_num, ⟨by rw [← HSn.out]; exact HO1.out⟩⟩
     case measure => have := HLt.out; simp [RowKit.intOf]; omega
    | succ q =>
     have e : ((q + 1 : Nat) : Int) - 1 = (q : Int) := by omega
     rw [e]
     have q0 : (0 : Int) ≤ (q : Int) := by omega
     cases bi with
     | false =>
      have HSn := Azz.mk (take_snoc us ins HLt.out (HEnd.out (.inr rfl)))
      go_wp2_with (at_builtin; refine Kd.R_append_rows (Kd.int .i64) (w0 := w2) w2.heap.size rfl _ _ 26 3 (.int .i64 0) 8 rfl Tryz.underlying26 P.info_int rfl (by decide) (by decide) _ ((foldL us ins).take i) [a] (some ⟨wi.heap.size, 0, none⟩) 1 1 (fun _ => True) (fun _ => False) rfl rfl (Kd.R_alloc HO.out _) (int_one (blk_new wi (.cells #[.int .i64 a] 3 (0, 0)))) (fun _ _ h => h) (fun _ h => h.elim) (fun _ _ => trivial) (bAA HBr.out _) (bAA HBr.out _).size (by rw [take_len us ins (by omega)]; omega) ?_; intro v1 w7 ho1 hb1 _ _; have HO1 := Azz.mk ho1; have HB1 := Azz.mk hb1; clear ho1 hb1)
      go_roundw
      case rel => exact ⟨i + 1, by have := HLt.out; omega, by go_num, ⟨by rw [← HSn.out]; exact HO1.out⟩⟩
      case measure => have := HLt.out; simp [RowKit.intOf]; omega
     | true =>
      have hql : q < us.length := by have := HLt.out; omega
      have hcq := HCl.out q hql
      have q1 : (q : Int) < us.length := by omega
      obtain ⟨b, hb⟩ : ∃ b, m i q = b := ⟨_, rfl⟩
      rw [hb] at hcq
      have HMq := Azz.mk hb
      clear hb hql
      cases b with
      | false =>
       go_wp2
       go_roundw
       case rel => exact ⟨q, (q : Int), by omega, by go_num, rfl, ⟨Least.yes (a := 0) HMq.out (by omega), fun h => by cases h⟩, trivial⟩
       case measure => simp [RowKit.intOf] <;> omega
      | true =>
       go_wp2
       go_roundw
       case rel => exact ⟨q, a, by omega, by go_num, rfl, ⟨HLe.out.1.no HMq.out, fun h => by cases h⟩, trivial⟩
       case measure => simp [RowKit.intOf] <;> omega
theorem rsaved_any (w : World) (A A2 : Option Addr) (us : List P.S39) (ins : List Bool) (c c2 : Nat) (hu : UA w A us) (hc : us.length ≤ c) (hn : Narrow us) (hul : us.length ≤ 100000) (hi : BA w A2 ins) (hil : ins.length ≤ 100000) (hc2 : ins.length ≤ c2) :
 Calls Tryz.prog 12 #[.slice A us.length c, .slice A2 ins.length c2] w (SavedPost us ins w) := by
 have HF := Azz.mk (rfold_any w A A2 us ins c c2 hu hc hn hul hi hil hc2)
 have HU := Azz.mk hu
 have HS := Azz.mk hi
 clear hu hn hi
 go_enter Tryz.func12, Tryz.ntmps12
 go_wp2_with fail
 (with_reducible refine HF.out.mono ?_)
 rintro e w1 ⟨hb, ⟨hno, rfl⟩ | ⟨hok, A3, c3, rfl, _, hL⟩⟩
 ·have HB := Azz.mk hb
  clear hb HF
  go_wp2
  go_ret2
  exact ⟨HB.out, .inl ⟨hno, rfl⟩⟩
 have HB := Azz.mk hb
 have HL := Azz.mk hL
 have HOk := Azz.mk hok
 have hd := data_4096 hok.2
 have HD := Azz.mk hd
 have hul2 := hok.2.1
 have HLe := Azz.mk hok.1
 clear hb hL hok hd HF
 go_wp2
 go_loopw [8, 9] (fun v8 v wr => ∃ i : Nat, i ≤ us.length ∧ v = .int .i64 i ∧ v8 = .int .i64 (savedF us ins i) ∧ w1 = wr) (fun _ v _ => us.length - (RowKit.intOf v).toNat)
 case atStart => exact ⟨0, Nat.zero_le _, rfl, rfl, rfl⟩
 case round =>
  obtain ⟨i, hi, rfl, rfl, rfl⟩ := hrel
  by_cases hlt : i < us.length
  rotate_left
  ·obtain rfl : i = us.length := by omega
   go_wp2
   go_ret2
   exact ⟨HB.out, .inr ⟨HOk.out, rfl⟩⟩
  obtain ⟨ad2, e2, hin⟩ := bool_at _ A2 ins (Kd.C_below HS.out HB.out) i (by have := HLe.out; omega)
  cases e2
  obtain ⟨ad3, A5, c5, e3, x0, x1, x2, x3, x4, x5, l5, C5⟩ := P.at_T39 (Kd.C_below HU.out HB.out) i (by omega) (by omega)
  cases e3
  rw [Int.toNat_natCast] at x4
  clear x0 x1 x2 x3 x5 l5 C5
  obtain ⟨ad4, e4, cz⟩ := root_at _ A3 _ HL.out i (by rw [foldL_length]; exact hlt)
  cases e4
  rw [foldL_get us ins i hlt] at cz
  have hs := savedF_le ins HD.out i hi
  have hdi := HD.out i hlt
  have HSs := Azz.mk (show savedF us ins (i + 1) = savedF us ins i + if inn ins i = true ∧ gt (foldP us ins) i ≠ i then (P.rd_T39 us i).f4.size else 0 from rfl)
  obtain ⟨n, hn⟩ : ∃ n, savedF us ins i = n := ⟨_, rfl⟩
  obtain ⟨d, hd⟩ : ∃ d, (P.rd_T39 us i).f4 = d := ⟨_, rfl⟩
  obtain ⟨q, hq⟩ : ∃ q, gt (foldP us ins) i = q := ⟨_, rfl⟩
  rw [hd] at x4 hdi HSs
  rw [hq] at cz HSs
  rw [hn] at hs HSs ⊢
  obtain ⟨bi, hbi⟩ : ∃ b, ins.getD i false = b := ⟨_, rfl⟩
  have hbi2 : inn ins i = bi := hbi
  rw [hbi] at hin
  rw [hbi2] at cz HSs
  have i0 : (0 : Int) ≤ (i : Int) := by omega
  have i1 : (i : Int) < us.length := by omega
  have i2 : (i : Int) < ins.length := by have := HLe.out; omega
  clear hbi hbi2 hn hd hq
  cases bi with
  | false =>
   rw [if_neg (by decide)] at cz
   go_wp2
   go_roundw
   case rel => exact ⟨i + 1, by omega, by go_num, by rw [HSs.out, if_neg (by simp)]; rfl, trivial⟩
   case measure => simp [RowKit.intOf]; omega
  | true =>
   rw [if_pos rfl] at cz
   by_cases hqi : q = i
   ·subst hqi
    have hqq : ((q : Int) != (q : Int)) = false := by simp
    go_wp2
    go_roundw
    case rel => exact ⟨q + 1, by omega, by go_num, by rw [HSs.out, if_neg (by simp)]; rfl, trivial⟩
    case measure => simp [RowKit.intOf]; omega
   have hqq : ((q : Int) != (i : Int)) = true := bN_ (by omega)
   go_wp2
   go_roundw
   case rel => exact ⟨i + 1, by omega, by go_num, by rw [HSs.out, if_pos ⟨rfl, hqi⟩]; go_num, trivial⟩
   case measure => simp [RowKit.intOf]; omega
end Go.Proofs.YtngmipfodjgmmaaGreatDoor.Pure
