/- Walks and plain laws of this claim, a part. -/
import Derived.Test.YtngmipfodjgmmaaDoorFr55
import Derived.Maps.OwnOps
import Derived.Maps.OwnSet
import Derived.Deep.QuietTactic
import Derived.BigQuiet
section
namespace Go.Proofs.YtngmipfodjgmmaaDoor.P
open Go.RowKit Go.Proofs.YtngmipfodjgmmaaDoorW.PrintWords Go.Proofs.YtngmipfodjgmmaaDoorW.PrintLast Go.Proofs.YtngmipfodjgmmaaDoorW.PrintMore
attribute [local go_sem] max2_int min2_int max_two min_two max_three min_three max_four min_four   -- for this text's walks alone
set_option linter.unusedVariables false
set_option linter.unusedSimpArgs false
def cleatref04_Same.l0 : Nat → List Int → List Int → Int → Option (Bool)
 | 0, _, _, _ => none
 | k + 1, x0, x1, x5 => if x5 < (x0.length : Int) then (if 0 ≤ x5 then (if x5 < (x1.length : Int) then (if (rd x0 x5) = (rd x1 x5) then (cleatref04_Same.l0 k x0 x1 (wrap64 (x5 + 1))) else (some false)) else (none)) else (none)) else (some true)
def cleatref04_Same.f (k : Nat) (l0 : List Int) (l1 : List Int) : Option (Bool) := if (l0.length : Int) = (l1.length : Int) then (cleatref04_Same.l0 k l0 l1 0) else (some false)
set_option maxHeartbeats 8000000 in
set_option maxRecDepth 100000 in
theorem cleatref04_Same.calls (k : Nat) (A0 : Option Addr) (c0 : Nat) (l0 : List Int) (A1 : Option Addr) (c1 : Nat) (l1 : List Int) (r : Bool) (w : World) (hr0 : Kd.C (Kd.int .i64) w A0 l0.length l0) (hc0 : l0.length ≤ c0) (hr1 : Kd.C (Kd.int .i64) w A1 l1.length l1) (hc1 : l1.length ≤ c1) (h : cleatref04_Same.f k l0 l1 = some r) :
 Calls Tryd.prog 35 #[.slice A0 l0.length c0, .slice A1 l1.length c1] w fun e w' => e = .returned (.bool r) ∧ Drawn0 w w' := by
 have HR0 := Azz.mk hr0
 have HC0 := Azz.mk hc0
 clear hr0 hc0
 have HR1 := Azz.mk hr1
 have HC1 := Azz.mk hc1
 clear hr1 hc1
 have H : (if (l0.length : Int) = (l1.length : Int) then (cleatref04_Same.l0 k l0 l1 0) else (some false)) = some r := h
 clear h
 by_cases c3 : (l0.length : Int) = (l1.length : Int)
 ·rw [if_pos c3] at H
  have c3b0 := beq_iff_eq.mpr c3
  have c3b1 := bne_eq_false_iff_eq.mpr c3
  have c3b2 : (l0.length == l1.length) = true := by first | simpa using c3 | (simp at c3 ⊢; omega)
  clear c3
  have H' := Azz.mk H
  clear H
  go_enter Tryd.func35, Tryd.ntmps35
  go_wp2
  repeat (go_quiet (fail); try go_wp2)
  go_loopg [5] k (fun kq v5 w' => ∃ (x5_1 : Int), v5 = .int .i64 x5_1 ∧ Azz (cleatref04_Same.l0 kq l0 l1 x5_1 = some r) ∧ Azz (kq ≤ k) ∧ Drawn0 w w')
  case atStart => exact ⟨(0), (by first | rfl | (simp; done) | (simp [*]; done)), H', ⟨Nat.le_refl _⟩, by repeat (first | exact Drawn0.refl _ | apply Drawn0.step)⟩
  case round =>
   clear H'
   try clear c1
   try clear p2
   try clear c3
   try clear c3b0
   try clear c3b1
   try clear c3b2
   obtain ⟨x5_1, rfl, HA, HK1, ⟨m1, rfl⟩⟩ := hrel
   cases gk with
   | zero => exact absurd HA.out (by simp [cleatref04_Same.l0])
   | succ k1 =>
    have H := HA.out
    clear HA
    simp only [cleatref04_Same.l0] at H
    by_cases c4 : x5_1 < (l0.length : Int)
    ·rw [if_pos c4] at H
     have c4b0 := decide_eq_true c4
     clear c4
     by_cases c5 : 0 ≤ x5_1
     ·rw [if_pos c5] at H
      have c5b0 := decide_eq_true c5
      clear c5
      by_cases c6 : x5_1 < (l1.length : Int)
      ·rw [if_pos c6] at H
       have c6b0 := decide_eq_true c6
       clear c6
       by_cases c7 : (rd l0 x5_1) = (rd l1 x5_1)
       ·rw [if_pos c7] at H
        have c7b0 := beq_iff_eq.mpr c7
        have c7b1 := bne_eq_false_iff_eq.mpr c7
        clear c7
        have H' := Azz.mk H
        clear H
        have p225 : 0 ≤ (x5_1 : Int) := of_decide_eq_true (by first | (with_reducible assumption) | assumption)
        have q225 : x5_1 < (l0.length : Int) := of_decide_eq_true (by first | (with_reducible assumption) | assumption)
        obtain ⟨ad225, e225, hx225_0⟩ := Kd.at_int HR0.out x5_1 p225 q225
        cases e225
        replace p225 := eq_true p225
        replace q225 := eq_true q225
        have p226 : 0 ≤ (x5_1 : Int) := of_decide_eq_true (by first | (with_reducible assumption) | assumption)
        have q226 : x5_1 < (l1.length : Int) := of_decide_eq_true (by first | (with_reducible assumption) | assumption)
        obtain ⟨ad226, e226, hx226_0⟩ := Kd.at_int HR1.out x5_1 p226 q226
        cases e226
        replace p226 := eq_true p226
        replace q226 := eq_true q226
        go_wp2
        repeat (go_quiet (fail); try go_wp2)
        go_roundg k1
        case measure => have := HK1.out; omega
        case rel => exact ⟨(wrap64 (x5_1 + 1)), (by first | rfl | (simp; done) | (simp [*]; done)), H', ⟨by have := HK1.out; omega⟩, by repeat (first | exact Drawn0.refl _ | apply Drawn0.step)⟩
       ·rw [if_neg c7] at H
        have c7b0 := beq_eq_false_iff_ne.mpr c7
        have c7b1 := bne_iff_ne.mpr c7
        obtain rfl := Option.some.inj H
        have p225 : 0 ≤ (x5_1 : Int) := of_decide_eq_true (by first | (with_reducible assumption) | assumption)
        have q225 : x5_1 < (l0.length : Int) := of_decide_eq_true (by first | (with_reducible assumption) | assumption)
        obtain ⟨ad225, e225, hx225_0⟩ := Kd.at_int HR0.out x5_1 p225 q225
        cases e225
        replace p225 := eq_true p225
        replace q225 := eq_true q225
        have p226 : 0 ≤ (x5_1 : Int) := of_decide_eq_true (by first | (with_reducible assumption) | assumption)
        have q226 : x5_1 < (l1.length : Int) := of_decide_eq_true (by first | (with_reducible assumption) | assumption)
        obtain ⟨ad226, e226, hx226_0⟩ := Kd.at_int HR1.out x5_1 p226 q226
        cases e226
        replace p226 := eq_true p226
        replace q226 := eq_true q226
        go_wp2
        repeat (go_quiet (fail); try go_wp2)
        go_ret
        exact ⟨by first | rfl | (simp; done) | (simp [*]; done), by repeat (first | exact Drawn0.refl _ | apply Drawn0.step)⟩
      ·rw [if_neg c6] at H
       exact absurd H (by simp)
     ·rw [if_neg c5] at H
      exact absurd H (by simp)
    ·rw [if_neg c4] at H
     have c4b0 := decide_eq_false c4
     clear c4
     obtain rfl := Option.some.inj H
     go_wp2
     repeat (go_quiet (fail); try go_wp2)
     go_ret
     exact ⟨by first | rfl | (simp; done) | (simp [*]; done), by repeat (first | exact Drawn0.refl _ | apply Drawn0.step)⟩
 ·rw [if_neg c3] at H
  have c3b0 := beq_eq_false_iff_ne.mpr c3
  have c3b1 := bne_iff_ne.mpr c3
  have c3b2 : (l0.length == l1.length) = false := by first | simpa using c3 | (simp at c3 ⊢; omega)
  obtain rfl := Option.some.inj H
  go_enter Tryd.func35, Tryd.ntmps35
  go_wp2
  repeat (go_quiet (fail); try go_wp2)
  go_ret
  exact ⟨by first | rfl | (simp; done) | (simp [*]; done), by repeat (first | exact Drawn0.refl _ | apply Drawn0.step)⟩
def cleatlaw21_quads.l0 : Nat → List Int → Int → ByteArray → Int → Bool → Int → ByteArray → List (S64) → Option (ByteArray × Int × Bool × Int × ByteArray × (List (S64)))
 | 0, _, _, _, _, _, _, _, _ => none
 | k + 1, x1, x6, x229000, x229001, x229002, x229003, x229004, x229005 => if x6 < (x1.length : Int) then (if x229004.size + 8 ≤ 9223372036854775807 then (if 0 ≤ x6 then (if x229005.length < 4398046511104 then (cleatlaw21_quads.l0 k x1 (wrap64 (x6 + 1)) x229000 x229001 x229002 x229003 (x229004 ++ (⟨#[0, 0, 0, 0, 0, 0, 0, 0]⟩ : ByteArray)) (x229005 ++ [(⟨wrap64 (8 * x6), 1, rd x1 x6, 0⟩ : S64)])) else (none)) else (none)) else (none)) else (some (x229000, x229001, x229002, x229003, x229004, x229005))
def cleatlaw21_quads.f (k : Nat) (a0 : ByteArray) (l1 : List Int) : Option (ByteArray × Int × Bool × Int × ByteArray × (List (S64))) := cleatlaw21_quads.l0 k l1 0 a0 2 false 0 (⟨#[]⟩ : ByteArray) ([] : List (S64))
end Go.Proofs.YtngmipfodjgmmaaDoor.P
end
section
namespace Go.Proofs.YtngmipfodjgmmaaDoor.P
open Go.RowKit Go.Proofs.YtngmipfodjgmmaaDoorW.PrintWords Go.Proofs.YtngmipfodjgmmaaDoorW.PrintLast Go.Proofs.YtngmipfodjgmmaaDoorW.PrintMore
attribute [local go_sem] max2_int min2_int max_two min_two max_three min_three max_four min_four   -- for this text's walks alone
set_option linter.unusedVariables false
set_option linter.unusedSimpArgs false
end Go.Proofs.YtngmipfodjgmmaaDoor.P
end
section
namespace Go.Proofs.YtngmipfodjgmmaaDoor.Pure
open Go Go.RowKit Go.Lib Go.Shelf Go.Proofs.YtngmipfodjgmmaaDoorW.PrintWords Go.Proofs.YtngmipfodjgmmaaDoorW.PrintLast Go.Proofs.YtngmipfodjgmmaaDoorW.PrintMore Go.Proofs.YtngmipfodjgmmaaDoor.Reach
open P (Glob UA nd NdOk Rt SpreadPost)
set_option linter.unusedVariables false
set_option linter.unusedSimpArgs false
theorem C_block {α : Type} {d : Kd α} {W : World} {g : Nat} {t : TypeId} {xs : List α} {inner : List Value} (hb : W.heap[g]? = some (.cells inner.toArray t (0, 0))) (hr : Reps (d.K W) d.sz xs inner) (hm : xs.length ≤ maxLen) : d.C W (some ⟨g, 0, none⟩) xs.length xs := by
 have ho : W.ownsRow 0 t d.sz (.slice (some ⟨g, 0, none⟩) xs.length xs.length) xs.length inner := ⟨hr.1, .inr ⟨g, xs.length, inner.toArray, rfl, Nat.zero_le _, hb, Nat.le_refl _, hm, by simpa using hr.1, by rw [← hr.1]; simp⟩⟩
 obtain ⟨A, c, e, h⟩ := own_reads_row ho hr rfl
 cases e
 exact h
/-- A unit that needs some: its cells at a value of its Refs. -/
def UV (w : World) (u : P.S36) (A : Option Addr) (c : Nat) : Prop := Kd.C P.k64 w A u.f5.length u.f5 ∧ u.f5.length ≤ c
theorem UV.below {w w1 : World} {u A c} (h : UV w u A c) (hb : Below w.heap.size w w1) : UV w1 u A c := ⟨Kd.C_below h.1 hb, h.2⟩
theorem UV.K {w : World} {u A c} (h : UV w u A c) : P.k36.K w u [.string u.f0, .int .i64 u.f1, .bool u.f2, .int .i64 u.f3, .string u.f4, .slice A u.f5.length c] := P.k36_mk w u h.2 h.1
def z8 : ByteArray := ⟨#[0, 0, 0, 0, 0, 0, 0, 0]⟩
def ua : P.S36 := ⟨⟨#[97]⟩, 2, false, 0, z8, [⟨0, 1, 2, 0⟩]⟩
def ub : P.S36 := ⟨⟨#[98]⟩, 2, false, 0, z8, [⟨0, 1, 0, 0⟩]⟩
def uc : P.S36 := ⟨⟨#[99]⟩, 2, false, 0, ⟨#[]⟩, []⟩
theorem qa : P.cleatlaw21_quads.f 20 ⟨#[97]⟩ [2] = some (ua.f0, ua.f1, ua.f2, ua.f3, ua.f4, ua.f5) := by kernel_rfl
theorem qb : P.cleatlaw21_quads.f 20 ⟨#[98]⟩ [0] = some (ub.f0, ub.f1, ub.f2, ub.f3, ub.f4, ub.f5) := by kernel_rfl
def u3 : List P.S36 := [ua, ub, uc]
theorem u3_narrow : Narrow u3 := by
 intro _ i h
 have : i = 0 ∨ i = 1 ∨ i = 2 := by have : u3.length = 3 := rfl; omega
 rcases this with rfl | rfl | rfl <;> simp [u3, ua, ub, uc]
theorem bools_read {W : World} {g t : Nat} {l : List Bool} (h : W.heap[g]? = some (.cells (l.map Value.bool).toArray t (0, 0))) (hl : l.length ≤ maxLen) : Kd.C Kd.bool W (some ⟨g, 0, none⟩) l.length l := by
 refine C_block h ⟨by simp [Kd.bool, Kd.scalar], fun j p hj => ?_⟩ hl
 have hj2 : j < l.length := (List.getElem?_eq_some_iff.1 hj).1
 have hp : l[j] = p := (List.getElem?_eq_some_iff.1 hj).2
 show List.take 1 (List.drop (j * 1) (l.map Value.bool)) = [Value.bool p]
 rw [Nat.mul_one, List.drop_eq_getElem_cons (by simpa using hj2)]
 simp [hp]
theorem ints_read {W : World} {g t : Nat} {l : List Int} (h : W.heap[g]? = some (.cells (l.map (Value.int .i64)).toArray t (0, 0))) (hl : l.length ≤ maxLen) : IA W (some ⟨g, 0, none⟩) l := by
 refine C_block h ⟨by simp [Kd.int, Kd.scalar], fun j p hj => ?_⟩ hl
 have hj2 : j < l.length := (List.getElem?_eq_some_iff.1 hj).1
 have hp : l[j] = p := (List.getElem?_eq_some_iff.1 hj).2
 show List.take 1 (List.drop (j * 1) (l.map (Value.int .i64))) = [Value.int .i64 p]
 rw [Nat.mul_one, List.drop_eq_getElem_cons (by simpa using hj2)]
 simp [hp]
theorem reach1 (w : World) (A : Option Addr) (z : Int) (hG : Glob w) (hu : UA w A u3) :
 Calls Tryd.prog 26 #[.slice A 3 3, .slice (some ⟨w.heap.size, 0, none⟩) 1 1] (w.alloc (.cells #[.int .i64 z] 3)) fun e w' => Below w.heap.size w w' ∧ ReachPost u3 [z] (w.alloc (.cells #[.int .i64 z] 3)) e w' := by
 have hb := bAA (Below.refl w.heap.size w) (.cells #[.int .i64 z] 3)
 refine (reach_any _ A (some ⟨w.heap.size, 0, none⟩) u3 [z] 3 1 (hG.below hb) (Kd.C_below hu hb) (by decide) u3_narrow (by decide) (ints_read (l := [z]) (blk_new w (.cells #[.int .i64 z] 3)) (by simp [maxLen])) (by simp)).mono ?_
 intro e w' h
 exact ⟨bTT hb h.1, h⟩
theorem reachB (w : World) (A : Option Addr) (hG : Glob w) (hu : UA w A u3) :
 Calls Tryd.prog 26 #[.slice A 3 3, .slice (some ⟨w.heap.size, 0, none⟩) 1 1] (w.alloc (.cells #[.int .i64 3] 3)) fun e w' => e = .returned (.tuple #[.slice none 0 0, .int .i64 1]) ∧ Below w.heap.size w w' := by
 refine (reach1 w A 3 hG hu).mono ?_
 rintro e w' ⟨hb, _, ⟨_, h⟩ | ⟨_, h, _⟩⟩
 ·exact ⟨h, hb⟩
 ·have := h 3 (List.mem_singleton.2 rfl)
  exact absurd this.2 (by decide)
end Go.Proofs.YtngmipfodjgmmaaDoor.Pure
end
