/- Walks and plain laws of this claim, a part. -/
import Derived.Test.YtngmipfodjgmmaaGreatDoorEs80
section
namespace Go.Proofs.YtngmipfodjgmmaaGreatDoor.Pure
open Go Go.RowKit Go.Lib Go.Shelf Go.Proofs.YtngmipfodjgmmaaGreatDoorW.PrintWords Go.Proofs.YtngmipfodjgmmaaGreatDoorW.PrintLast Go.Proofs.YtngmipfodjgmmaaGreatDoorW.PrintMore Go.Proofs.YtngmipfodjgmmaaGreatDoor.Reach
open P (Glob UA nd ndI NdOk Rt root_at)
set_option linter.unusedVariables false
set_option linter.unusedSimpArgs false
theorem int_one {W : World} {g t : Nat} {z : Int} (h : W.heap[g]? = some (.cells #[.int .i64 z] t (0, 0))) : IA W (some ⟨g, 0, none⟩) [z] :=
 C_blkH (d := Kd.int .i64) (xs := [z]) (inner := ([] : List Value) ++ [.int .i64 z]) h ((Reps.none ((Kd.int .i64).K W) 1).snoc (by simp [Kd.int, Kd.scalar]) rfl) (by simp [maxLen])
def rootsL (us : List P.S39) (en : Int) (i : Nat) : List Int := ((List.range i).filter fun (j : Nat) => decide ((j : Int) = en ∨ (P.rd_T39 us (j : Int)).f2 = true)).map fun (j : Nat) => (j : Int)
theorem rootsL_len (us : List P.S39) (en : Int) (i : Nat) : (rootsL us en i).length ≤ i := by
 unfold rootsL
 rw [List.length_map]
 have := List.length_filter_le (fun (j : Nat) => decide ((j : Int) = en ∨ (P.rd_T39 us (j : Int)).f2 = true)) (List.range i)
 rw [List.length_range] at this
 exact this
theorem rootsL_yes {us : List P.S39} {en : Int} {i : Nat} (h : (i : Int) = en ∨ (P.rd_T39 us (i : Int)).f2 = true) : rootsL us en (i + 1) = rootsL us en i ++ [(i : Int)] := by
 unfold rootsL
 rw [List.range_succ, List.filter_append, List.map_append, List.filter_cons_of_pos (by simpa using h)]
 rfl
theorem rootsL_no {us : List P.S39} {en : Int} {i : Nat} (h : ¬ ((i : Int) = en ∨ (P.rd_T39 us (i : Int)).f2 = true)) : rootsL us en (i + 1) = rootsL us en i := by
 unfold rootsL
 rw [List.range_succ, List.filter_append, List.filter_cons_of_neg (by simpa using h)]
 simp
def RootsR (us : List P.S39) (en : Int) (l : List Int) (er : Int) : Prop := (¬ (UOk us ∧ 0 ≤ en ∧ en < us.length) ∧ l = [] ∧ er = 1) ∨ ((UOk us ∧ 0 ≤ en ∧ en < us.length) ∧ l = rootsL us en us.length ∧ er = 0)
theorem RootsR.one {us en l er l' er'} (h : RootsR us en l er) (k : RootsR us en l' er') : l = l' ∧ er = er' := by
 rcases h with ⟨a, rfl, rfl⟩ | ⟨a, rfl, rfl⟩ <;> rcases k with ⟨b, rfl, rfl⟩ | ⟨b, rfl, rfl⟩
 ·exact ⟨rfl, rfl⟩
 ·exact absurd b a
 ·exact absurd a b
 ·exact ⟨rfl, rfl⟩
theorem RootsR.len {us en l er} (h : RootsR us en l er) (hl : us.length ≤ 300) : l.length ≤ 100000 := by
 rcases h with ⟨_, rfl, _⟩ | ⟨_, rfl, _⟩
 ·simp
 ·have := rootsL_len us en us.length
  omega
def RootsPost (us : List P.S39) (en : Int) (w : World) (e : Ending) (w' : World) : Prop := ∃ A c l er, e = .returned (.tuple #[.slice A l.length c, .int .i64 er]) ∧ l.length ≤ c ∧ RootsR us en l er ∧ IA w' A l ∧ Below w.heap.size w w'
set_option maxRecDepth 100000 in
set_option maxHeartbeats 8000000 in
theorem proots_calls (us : List P.S39) (en : Int) (hl : us.length ≤ 300) (hn : Narrow us) (w : World) (A : Option Addr) (c : Nat) (hG : Glob w) (hu : UA w A us) (hc : us.length ≤ c) :
 Calls Tryz.prog 28 #[.slice A us.length c, .int .i64 en] w (RootsPost us en w) := by
 have HI := Azz.mk (gis_units us A c w hG hu hc hn)
 have HU := Azz.mk hu
 have no : ¬ (UOk us ∧ 0 ≤ en ∧ en < us.length) → ∀ w', Below w.heap.size w w' → RootsPost us en w (.returned (.tuple #[.slice none 0 0, .int .i64 1])) w' := fun h w' hb => ⟨none, 0, [], 1, rfl, Nat.le_refl _, .inl ⟨h, rfl, rfl⟩, (Kd.R_reads' (Kd.R_nil (Kd.int .i64) 3 w' 0 (fun _ => True))).2.2, hb⟩
 have HNo := Azz.mk no
 clear hu hn hc no hG
 go_enter Tryz.func28, Tryz.ntmps28
 by_cases c1 : en < 0
 ·have b1 : decide (en < 0) = true := decide_eq_true c1
  have H1 := Azz.mk c1
  clear c1
  go_wp2
  go_ret2
  exact HNo.out (fun h => by have := H1.out; omega) _ (Below.refl _ _)
 have b1 : decide (en < 0) = false := decide_eq_false c1
 by_cases c2 : (us.length : Int) ≤ en
 ·have b2 : decide ((us.length : Int) ≤ en) = true := decide_eq_true c2
  have H2 := Azz.mk c2
  clear c1 c2
  go_wp2
  go_ret2
  exact HNo.out (fun h => by have := H2.out; omega) _ (Below.refl _ _)
 have b2 : decide ((us.length : Int) ≤ en) = false := decide_eq_false c2
 have H12 := Azz.mk (And.intro c1 c2)
 clear c1 c2
 go_wp2_with fail
 (with_reducible refine HI.out.mono ?_)
 rintro en_ w1 ⟨b, rfl, hbi, hb⟩
 have HB := Azz.mk hb
 have HBi := Azz.mk hbi
 clear hb hbi HI
 cases b with
 | false =>
  go_wp2
  go_ret2
  exact HNo.out (fun h => absurd (HBi.out.2 h.1) (by decide)) _ HB.out
 | true =>
  have HOk := Azz.mk (HBi.out.1 rfl)
  clear HBi
  go_wp2
  go_loopw [6, 24] (fun v6 v wr => ∃ i : Nat, i ≤ us.length ∧ v = .int .i64 i ∧ Azz (Kd.R (Kd.int .i64) 3 wr w1.heap.size (fun _ => True) v6 (rootsL us en i)) ∧ Azz (Below w1.heap.size w1 wr)) (fun _ v _ => us.length - (RowKit.intOf v).toNat)
  case atStart => exact ⟨0, Nat.zero_le _, rfl, ⟨Kd.R_nil _ _ _ _ _⟩, ⟨Below.refl _ _⟩⟩
  case round =>
   obtain ⟨i, hi, rfl, HO, HBr⟩ := hrel
   by_cases hlt : i < us.length
   ·obtain ⟨ad, A5, c5, ea, y0, y1, y2, y3, y4, y5, l5, g5⟩ := P.at_T39 (Kd.C_below HU.out (bTT HB.out HBr.out)) i (by omega) (by omega)
    subst ea
    rw [Int.toNat_natCast] at y0 y1 y2 y3 y4 y5
    obtain ⟨kp, hkp⟩ : ∃ b, (P.rd_T39 us (i : Int)).f2 = b := ⟨_, rfl⟩
    rw [hkp] at y2
    have HKp := Azz.mk hkp
    have HLn := Azz.mk (rootsL_len us en i)
    have i0 : (0 : Int) ≤ (i : Int) := by omega
    have i1 : (i : Int) < us.length := by omega
    clear l5 g5 hkp
    by_cases c3 : (i : Int) = en
    ·have b3 : ((i : Int) == en) = true := beq_iff_eq.mpr c3
     have HYes := Azz.mk (rootsL_yes (us := us) (.inl c3))
     clear c3
     go_wp2_with (at_builtin; refine Kd.R_append_rows (Kd.int .i64) (w0 := w1) w1.heap.size rfl _ _ 26 3 (.int .i64 0) 8 rfl Tryz.underlying26 P.info_int rfl (by decide) (by decide) _ (rootsL us en i) [(i : Int)] (some ⟨wr.heap.size + 1, 0, none⟩) 1 1 (fun _ => True) (fun _ => False) rfl rfl (Kd.R_alloc (Kd.R_alloc HO.out _) _) (int_one (blk_n2 wr _ (.cells #[.int .i64 (i : Int)] 3 (0, 0)))) (fun _ _ h => h) (fun _ h => h.elim) (fun _ _ => trivial) (bAA (bAA HBr.out _) _) (bAA (bAA HBr.out _) _).size (by have := HLn.out; omega) ?_; intro v1 w7 ho1 hb1 _ _; have HO1 := Azz.mk ho1; have HB1 := Azz.mk hb1; clear ho1 hb1)
     go_roundw
     case rel => exact ⟨i + 1, by omega, by go_num, ⟨by rw [HYes.out]; exact HO1.out⟩, HB1⟩
     case measure => simp [RowKit.intOf]; omega
    ·have b3 : ((i : Int) == en) = false := beq_eq_false_iff_ne.mpr c3
     have H3 := Azz.mk c3
     clear c3
     cases kp with
     | true =>
      have HYes := Azz.mk (rootsL_yes (us := us) (en := en) (.inr HKp.out))
      go_wp2_with (at_builtin; refine Kd.R_append_rows (Kd.int .i64) (w0 := w1) w1.heap.size rfl _ _ 26 3 (.int .i64 0) 8 rfl Tryz.underlying26 P.info_int rfl (by decide) (by decide) _ (rootsL us en i) [(i : Int)] (some ⟨wr.heap.size + 1, 0, none⟩) 1 1 (fun _ => True) (fun _ => False) rfl rfl (Kd.R_alloc (Kd.R_alloc HO.out _) _) (int_one (blk_n2 wr _ (.cells #[.int .i64 (i : Int)] 3 (0, 0)))) (fun _ _ h => h) (fun _ h => h.elim) (fun _ _ => trivial) (bAA (bAA HBr.out _) _) (bAA (bAA HBr.out _) _).size (by have := HLn.out; omega) ?_; intro v1 w7 ho1 hb1 _ _; have HO1 := Azz.mk ho1; have HB1 := Azz.mk hb1; clear ho1 hb1)
      go_roundw
      case rel => exact ⟨i + 1, by omega, by go_num, ⟨by rw [HYes.out]; exact HO1.out⟩, HB1⟩
      case measure => simp [RowKit.intOf]; omega
     | false =>
      have HNn := Azz.mk (rootsL_no (us := us) (en := en) (i := i) (fun h => h.elim H3.out (fun k => by rw [HKp.out] at k; cases k)))
      go_wp2
      go_roundw
      case rel => exact ⟨i + 1, by omega, by go_num, ⟨by rw [HNn.out]; exact Kd.R_alloc HO.out _⟩, ⟨bAA HBr.out _⟩⟩
      case measure => simp [RowKit.intOf]; omega
   ·obtain rfl : i = us.length := by omega
    obtain ⟨Aa, ca, rfl, hla, hC⟩ := Kd.R_reads HO.out
    have HC := Azz.mk hC
    clear hC
    go_wp2
    go_ret2
    exact ⟨Aa, ca, _, 0, rfl, hla, .inr ⟨⟨HOk.out, by have := H12.out; omega, by have := H12.out; omega⟩, rfl, rfl⟩, HC.out, bTT HB.out HBr.out⟩
end Go.Proofs.YtngmipfodjgmmaaGreatDoor.Pure
end
section
namespace Go.Proofs.YtngmipfodjgmmaaGreatDoor.P
open Go.RowKit Go.Proofs.YtngmipfodjgmmaaGreatDoorW.PrintWords Go.Proofs.YtngmipfodjgmmaaGreatDoorW.PrintLast Go.Proofs.YtngmipfodjgmmaaGreatDoorW.PrintMore
attribute [local go_sem] max2_int min2_int max_two min_two max_three min_three max_four min_four   -- for this text's walks alone
set_option linter.unusedVariables false
set_option linter.unusedSimpArgs false
def cleatref04_Same.l0 : Nat → List Int → List Int → Int → Option (Bool)
 | 0, _, _, _ => none
 | k + 1, x0, x1, x5 => if x5 < (x0.length : Int) then (if 0 ≤ x5 then (if x5 < (x1.length : Int) then (if (rd x0 x5) = (rd x1 x5) then (cleatref04_Same.l0 k x0 x1 (wrap64 (x5 + 1))) else (some false)) else (none)) else (none)) else (some true)
def cleatref04_Same.f (k : Nat) (l0 : List Int) (l1 : List Int) : Option (Bool) := if (l0.length : Int) = (l1.length : Int) then (cleatref04_Same.l0 k l0 l1 0) else (some false)
set_option maxHeartbeats 8000000 in
set_option maxRecDepth 100000 in
theorem cleatref04_Same.calls (k : Nat) (A0 : Option Addr) (c0 : Nat) (l0 : List Int) (A1 : Option Addr) (c1 : Nat) (l1 : List Int) (r : Bool) (w : World) (hr0 : Kd.C (Kd.int .i64) w A0 l0.length l0) (hc0 : l0.length ≤ c0) (hr1 : Kd.C (Kd.int .i64) w A1 l1.length l1) (hc1 : l1.length ≤ c1) (h : cleatref04_Same.f k l0 l1 = some r) :
 Calls Tryz.prog 13 #[.slice A0 l0.length c0, .slice A1 l1.length c1] w fun e w' => e = .returned (.bool r) ∧ Drawn0 w w' := by
 have HR0 := Azz.mk hr0
 have HC0 := Azz.mk hc0
 clear hr0 hc0
 have HR1 := Azz.mk hr1
 have HC1 := Azz.mk hc1
 clear hr1 hc1
 have H : (if (l0.length : Int) = (l1.length : Int) then (cleatref04_Same.l0 k l0 l1 0) else (some false)) = some r := h
 clear h
 by_cases c3 : (l0.length : Int) = (l1.length : Int)
 ·rw [if_pos c3] at H
  have c3b0 := beq_iff_eq.mpr c3
  have c3b1 := bne_eq_false_iff_eq.mpr c3
  have c3b2 : (l0.length == l1.length) = true := by first | simpa using c3 | (simp at c3 ⊢; omega)
  clear c3
  have H' := Azz.mk H
  clear H
  go_enter Tryz.func13, Tryz.ntmps13
  go_wp2
  repeat (go_quiet (fail); try go_wp2)
  go_loopg [5] k (fun kq v5 w' => ∃ (x5_1 : Int), v5 = .int .i64 x5_1 ∧ Azz (cleatref04_Same.l0 kq l0 l1 x5_1 = some r) ∧ Azz (kq ≤ k) ∧ Drawn0 w w')
  case atStart => exact ⟨(0), (by first | rfl | (simp; done) | (simp [*]; done)), H', ⟨Nat.le_refl _⟩, by repeat (first | exact Drawn0.refl _ | apply Drawn0.step)⟩
  case round =>
   clear H'
   try clear c1
   try clear p2
   try clear c3
   try clear c3b0
   try clear c3b1
   try clear c3b2
   obtain ⟨x5_1, rfl, HA, HK1, ⟨m1, rfl⟩⟩ := hrel
   cases gk with
   | zero => exact absurd HA.out (by simp [cleatref04_Same.l0])
   | succ k1 =>
    have H := HA.out
    clear HA
    simp only [cleatref04_Same.l0] at H
    by_cases c4 : x5_1 < (l0.length : Int)
    ·rw [if_pos c4] at H
     have c4b0 := decide_eq_true c4
     clear c4
     by_cases c5 : 0 ≤ x5_1
     ·rw [if_pos c5] at H
      have c5b0 := decide_eq_true c5
      clear c5
      by_cases c6 : x5_1 < (l1.length : Int)
      ·rw [if_pos c6] at H
       have c6b0 := decide_eq_true c6
       clear c6
       by_cases c7 : (rd l0 x5_1) = (rd l1 x5_1)
       ·rw [if_pos c7] at H
        have c7b0 := beq_iff_eq.mpr c7
        have c7b1 := bne_eq_false_iff_eq.mpr c7
        clear c7
        have H' := Azz.mk H
        clear H
        have p449 : 0 ≤ (x5_1 : Int) := of_decide_eq_true (by first | (with_reducible assumption) | assumption)
        have q449 : x5_1 < (l0.length : Int) := of_decide_eq_true (by first | (with_reducible assumption) | assumption)
        obtain ⟨ad449, e449, hx449_0⟩ := Kd.at_int HR0.out x5_1 p449 q449
        cases e449
        replace p449 := eq_true p449
        replace q449 := eq_true q449
        have p450 : 0 ≤ (x5_1 : Int) := of_decide_eq_true (by first | (with_reducible assumption) | assumption)
        have q450 : x5_1 < (l1.length : Int) := of_decide_eq_true (by first | (with_reducible assumption) | assumption)
        obtain ⟨ad450, e450, hx450_0⟩ := Kd.at_int HR1.out x5_1 p450 q450
        cases e450
        replace p450 := eq_true p450
        replace q450 := eq_true q450
        go_wp2
        repeat (go_quiet (fail); try go_wp2)
        go_roundg k1
        case measure => have := HK1.out; omega
        case rel => exact ⟨(wrap64 (x5_1 + 1)), (by first | rfl | (simp; done) | (simp [*]; done)), H', ⟨by have := HK1.out; omega⟩, by repeat (first | exact Drawn0.refl _ | apply Drawn0.step)⟩
       ·rw [if_neg c7] at H
        have c7b0 := beq_eq_false_iff_ne.mpr c7
        have c7b1 := bne_iff_ne.mpr c7
        obtain rfl := Option.some.inj H
        have p449 : 0 ≤ (x5_1 : Int) := of_decide_eq_true (by first | (with_reducible assumption) | assumption)
        have q449 : x5_1 < (l0.length : Int) := of_decide_eq_true (by first | (with_reducible assumption) | assumption)
        obtain ⟨ad449, e449, hx449_0⟩ := Kd.at_int HR0.out x5_1 p449 q449
        cases e449
        replace p449 := eq_true p449
        replace q449 := eq_true q449
        have p450 : 0 ≤ (x5_1 : Int) := of_decide_eq_true (by first | (with_reducible assumption) | assumption)
        have q450 : x5_1 < (l1.length : Int) := of_decide_eq_true (by first | (with_reducible assumption) | assumption)
        obtain ⟨ad450, e450, hx450_0⟩ := Kd.at_int HR1.out x5_1 p450 q450
        cases e450
        replace p450 := eq_true p450
        replace q450 := eq_true q450
        go_wp2
        repeat (go_quiet (fail); try go_wp2)
        go_ret
        exact ⟨by first | rfl | (simp; done) | (simp [*]; done), by repeat (first | exact Drawn0.refl _ | apply Drawn0.step)⟩
      ·rw [if_neg c6] at H
       exact absurd H (by simp)
     ·rw [if_neg c5] at H
      exact absurd H (by simp)
    ·rw [if_neg c4] at H
     have c4b0 := decide_eq_false c4
     clear c4
     obtain rfl := Option.some.inj H
     go_wp2
     repeat (go_quiet (fail); try go_wp2)
     go_ret
     exact ⟨by first | rfl | (simp; done) | (simp [*]; done), by repeat (first | exact Drawn0.refl _ | apply Drawn0.step)⟩
 ·rw [if_neg c3] at H
  have c3b0 := beq_eq_false_iff_ne.mpr c3
  have c3b1 := bne_iff_ne.mpr c3
  have c3b2 : (l0.length == l1.length) = false := by first | simpa using c3 | (simp at c3 ⊢; omega)
  obtain rfl := Option.some.inj H
  go_enter Tryz.func13, Tryz.ntmps13
  go_wp2
  repeat (go_quiet (fail); try go_wp2)
  go_ret
  exact ⟨by first | rfl | (simp; done) | (simp [*]; done), by repeat (first | exact Drawn0.refl _ | apply Drawn0.step)⟩
end Go.Proofs.YtngmipfodjgmmaaGreatDoor.P
end
