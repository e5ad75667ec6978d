/- 'fold.Saved' walked. -/
import Derived.Test.YtngmipfodjgmmaaDoorFr65
namespace Go.Proofs.YtngmipfodjgmmaaDoor.Pure
open Go Go.RowKit Go.Lib Go.Shelf Go.Proofs.YtngmipfodjgmmaaDoorW.PrintWords Go.Proofs.YtngmipfodjgmmaaDoorW.PrintLast Go.Proofs.YtngmipfodjgmmaaDoorW.PrintMore
open P (Glob UA)
open Folds (gt)
set_option linter.unusedVariables false
set_option linter.unusedSimpArgs false
theorem data_4096 {us : List P.S36} (h : UOk us) : ∀ i, i < us.length → (P.rd_T36 us i).f4.size ≤ 4096 := by
 intro i hi
 have e2 : P.rd_T36 us (i : Int) = us[i] := rd_get _ _ _ hi
 have hR := (is_iff _).1 (h.2 i hi).1
 rw [e2]
 exact hR.data
/-- What the first i units save. -/
def savedF (us : List P.S36) (ins : List Bool) : Nat → Nat
 | 0 => 0
 | i + 1 => savedF us ins i + if inn ins i = true ∧ gt (foldP us ins) i ≠ i then (P.rd_T36 us i).f4.size else 0
theorem savedF_step (us : List P.S36) (ins : List Bool) (i : Nat) : savedF us ins (i + 1) = savedF us ins i + if inn ins i = true ∧ gt (foldP us ins) i ≠ i then (P.rd_T36 us i).f4.size else 0 := rfl
theorem savedF_le {us : List P.S36} (ins : List Bool) (h : ∀ i, i < us.length → (P.rd_T36 us i).f4.size ≤ 4096) (i : Nat) (hi : i ≤ us.length) : savedF us ins i ≤ i * 4096 := by
 induction i with
 | zero => exact Nat.zero_le _
 | succ i ih =>
  have h1 := ih (by omega)
  have h2 := h i (by omega)
  rw [savedF_step, Nat.succ_mul]
  by_cases c : inn ins i = true ∧ gt (foldP us ins) i ≠ i
  ·rw [if_pos c]; exact Nat.add_le_add h1 h2
  ·rw [if_neg c]; exact Nat.add_le_add h1 (Nat.zero_le _)
def SavedPost (us : List P.S36) (ins : List Bool) (w : World) (e : Ending) (w' : World) : Prop :=
 Below w.heap.size w w' ∧ ((¬ FOk us ins ∧ e = .returned (.tuple #[.int .i64 0, .int .i64 1])) ∨ (FOk us ins ∧ e = .returned (.tuple #[.int .i64 (savedF us ins us.length), .int .i64 0])))
theorem foldL_get (us : List P.S36) (ins : List Bool) (i : Nat) (hi : i < us.length) : (foldL us ins).getD i 0 = if inn ins i = true then (gt (foldP us ins) i : Int) else -1 := by
 unfold foldL
 rw [List.getD_eq_getElem?_getD, List.getElem?_map, List.getElem?_range hi]
 rfl
theorem foldL_length (us : List P.S36) (ins : List Bool) : (foldL us ins).length = us.length := by simp [foldL]
set_option maxRecDepth 100000 in
set_option maxHeartbeats 8000000 in
theorem saved_any (w : World) (A A2 : Option Addr) (us : List P.S36) (ins : List Bool) (c c2 : Nat) (hG : Glob w) (hu : UA w A us) (hc : us.length ≤ c) (hn : Narrow us) (hul : us.length ≤ 100000) (hi : BA w A2 ins) (hil : ins.length ≤ 100000) (hc2 : ins.length ≤ c2) :
 Calls Tryd.prog 17 #[.slice A us.length c, .slice A2 ins.length c2] w (SavedPost us ins w) := by
 have HF := Azz.mk (fold_any w A A2 us ins c c2 hG hu hc hn hul hi hil hc2)
 have HU := Azz.mk hu
 have HS := Azz.mk hi
 clear hG hu hn hi
 go_enter Tryd.func17, Tryd.ntmps17
 go_wp2_with fail
 (with_reducible refine HF.out.mono ?_)
 rintro e w1 ⟨hb, ⟨hno, rfl⟩ | ⟨hok, pb, rfl, hL, _⟩⟩
 ·have HB := Azz.mk hb
  clear hb HF
  go_wp2
  go_ret2
  exact ⟨HB.out, .inl ⟨hno, rfl⟩⟩
 ·have HB := Azz.mk hb
  have HL := Azz.mk hL
  have HOk := Azz.mk hok
  have hd := data_4096 hok.2
  have HD := Azz.mk hd
  have hul2 := hok.2.1
  have hle := hok.1
  rw [hle] at hc2
  clear hb hL hok hd HF
  go_wp2
  go_loopw [8, 22] (fun v8 v wr => ∃ i : Nat, i ≤ us.length ∧ v = .int .i64 i ∧ v8 = .int .i64 (savedF us ins i) ∧ w1 = wr) (fun _ v _ => us.length - (RowKit.intOf v).toNat)
  case atStart => exact ⟨0, Nat.zero_le _, rfl, rfl, rfl⟩
  case round =>
   obtain ⟨i, hi, rfl, rfl, rfl⟩ := hrel
   by_cases hlt : i < us.length
   ·obtain ⟨ad2, e2, hin⟩ := bool_at _ A2 ins (Kd.C_below HS.out HB.out) i (by omega)
    subst e2
    obtain ⟨ad3, A5, c5, e3, x0, x1, x2, x3, x4, x5, l5, C5⟩ := P.at_T36 (Kd.C_below HU.out HB.out) i (by omega) (by omega)
    subst e3
    rw [Int.toNat_natCast] at x4
    clear x0 x1 x2 x3 x5 l5 C5
    have cz := HL.out.cell i (by rw [foldL_length]; exact hlt)
    rw [foldL_get us ins i hlt] at cz
    have hs := savedF_le ins HD.out i hi
    have hdi := HD.out i hlt
    have HSs := Azz.mk (show savedF us ins (i + 1) = savedF us ins i + if inn ins i = true ∧ gt (foldP us ins) i ≠ i then (P.rd_T36 us i).f4.size else 0 from rfl)
    obtain ⟨n, hn⟩ : ∃ n, savedF us ins i = n := ⟨_, rfl⟩
    obtain ⟨d, hd⟩ : ∃ d, (P.rd_T36 us i).f4 = d := ⟨_, rfl⟩
    obtain ⟨q, hq⟩ : ∃ q, gt (foldP us ins) i = q := ⟨_, rfl⟩
    rw [hd] at x4 hdi HSs
    rw [hq] at cz HSs
    rw [hn] at hs HSs ⊢
    obtain ⟨bi, hbi⟩ : ∃ b, ins.getD i false = b := ⟨_, rfl⟩
    have hbi2 : inn ins i = bi := hbi
    rw [hbi] at hin
    rw [hbi2] at cz HSs
    clear hbi hbi2 hn hd hq
    cases bi with
    | false =>
     rw [if_neg (by decide)] at cz
     go_wp2
     go_roundw
     case rel => exact ⟨i + 1, by omega, by go_num, by rw [HSs.out, if_neg (by simp)]; rfl, trivial⟩
     case measure => simp [RowKit.intOf]; omega
    | true =>
     rw [if_pos rfl] at cz
     by_cases hqi : q = i
     ·subst hqi
      have hqq : ((q : Int) != (q : Int)) = false := by simp
      go_wp2
      go_roundw
      case rel => exact ⟨q + 1, by omega, by go_num, by rw [HSs.out, if_neg (by simp)]; rfl, trivial⟩
      case measure => simp [RowKit.intOf]; omega
     ·have hqq : ((q : Int) != (i : Int)) = true := bne_iff_ne.mpr (by omega)
      go_wp2
      go_roundw
      case rel => exact ⟨i + 1, by omega, by go_num, by rw [HSs.out, if_pos ⟨rfl, hqi⟩]; go_num, trivial⟩
      case measure => simp [RowKit.intOf]; omega
   ·obtain rfl : i = us.length := by omega
    go_wp2
    go_ret2
    exact ⟨HB.out, .inr ⟨HOk.out, rfl⟩⟩
end Go.Proofs.YtngmipfodjgmmaaDoor.Pure
