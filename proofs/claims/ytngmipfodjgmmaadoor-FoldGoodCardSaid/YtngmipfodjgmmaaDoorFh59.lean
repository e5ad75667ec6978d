/- Walks and plain laws of this claim, a part. -/
import Derived.Test.YtngmipfodjgmmaaDoorFh55
import Derived.Test.YtngmipfodjgmmaaDoorFh57
import Derived.Maps.OwnOps
import Derived.Maps.OwnSet
import Derived.Deep.QuietTactic
import Derived.BigQuiet
section
namespace Go.Proofs.YtngmipfodjgmmaaDoor.P
open Go.RowKit Go.Proofs.YtngmipfodjgmmaaDoorW.PrintWords Go.Proofs.YtngmipfodjgmmaaDoorW.PrintLast Go.Proofs.YtngmipfodjgmmaaDoorW.PrintMore
attribute [local go_sem] max2_int min2_int max_two min_two max_three min_three max_four min_four   -- for this text's walks alone
set_option linter.unusedVariables false
set_option linter.unusedSimpArgs false
end Go.Proofs.YtngmipfodjgmmaaDoor.P
end
section
namespace Go.Proofs.YtngmipfodjgmmaaDoor.Pure
open Go Go.RowKit Go.Lib Go.Shelf Go.Proofs.YtngmipfodjgmmaaDoorW.PrintWords Go.Proofs.YtngmipfodjgmmaaDoorW.PrintLast Go.Proofs.YtngmipfodjgmmaaDoorW.PrintMore Go.Proofs.YtngmipfodjgmmaaDoor.Reach
open P (Glob UA nd NdOk Rt SpreadPost)
set_option linter.unusedVariables false
set_option linter.unusedSimpArgs false
theorem C_block {α : Type} {d : Kd α} {W : World} {g : Nat} {t : TypeId} {xs : List α} {inner : List Value} (hb : W.heap[g]? = some (.cells inner.toArray t (0, 0))) (hr : Reps (d.K W) d.sz xs inner) (hm : xs.length ≤ maxLen) : d.C W (some ⟨g, 0, none⟩) xs.length xs := by
 have ho : W.ownsRow 0 t d.sz (.slice (some ⟨g, 0, none⟩) xs.length xs.length) xs.length inner := ⟨hr.1, .inr ⟨g, xs.length, inner.toArray, rfl, Nat.zero_le _, hb, Nat.le_refl _, hm, by simpa using hr.1, by rw [← hr.1]; simp⟩⟩
 obtain ⟨A, c, e, h⟩ := own_reads_row ho hr rfl
 cases e
 exact h
/-- A unit that needs some: its cells at a value of its Refs. -/
def UV (w : World) (u : P.S36) (A : Option Addr) (c : Nat) : Prop := Kd.C P.k64 w A u.f5.length u.f5 ∧ u.f5.length ≤ c
theorem UV.below {w w1 : World} {u A c} (h : UV w u A c) (hb : Below w.heap.size w w1) : UV w1 u A c := ⟨Kd.C_below h.1 hb, h.2⟩
theorem UV.K {w : World} {u A c} (h : UV w u A c) : P.k36.K w u [.string u.f0, .int .i64 u.f1, .bool u.f2, .int .i64 u.f3, .string u.f4, .slice A u.f5.length c] := P.k36_mk w u h.2 h.1
def z8 : ByteArray := ⟨#[0, 0, 0, 0, 0, 0, 0, 0]⟩
def ua : P.S36 := ⟨⟨#[97]⟩, 2, false, 0, z8, [⟨0, 1, 2, 0⟩]⟩
def ub : P.S36 := ⟨⟨#[98]⟩, 2, false, 0, z8, [⟨0, 1, 0, 0⟩]⟩
def uc : P.S36 := ⟨⟨#[99]⟩, 2, false, 0, ⟨#[]⟩, []⟩
theorem qa : P.cleatlaw21_quads.f 20 ⟨#[97]⟩ [2] = some (ua.f0, ua.f1, ua.f2, ua.f3, ua.f4, ua.f5) := by kernel_rfl
theorem qb : P.cleatlaw21_quads.f 20 ⟨#[98]⟩ [0] = some (ub.f0, ub.f1, ub.f2, ub.f3, ub.f4, ub.f5) := by kernel_rfl
def u3 : List P.S36 := [ua, ub, uc]
theorem u3_narrow : Narrow u3 := by
 intro _ i h
 have : i = 0 ∨ i = 1 ∨ i = 2 := by have : u3.length = 3 := rfl; omega
 rcases this with rfl | rfl | rfl <;> simp [u3, ua, ub, uc]
theorem bools_read {W : World} {g t : Nat} {l : List Bool} (h : W.heap[g]? = some (.cells (l.map Value.bool).toArray t (0, 0))) (hl : l.length ≤ maxLen) : Kd.C Kd.bool W (some ⟨g, 0, none⟩) l.length l := by
 refine C_block h ⟨by simp [Kd.bool, Kd.scalar], fun j p hj => ?_⟩ hl
 have hj2 : j < l.length := (List.getElem?_eq_some_iff.1 hj).1
 have hp : l[j] = p := (List.getElem?_eq_some_iff.1 hj).2
 show List.take 1 (List.drop (j * 1) (l.map Value.bool)) = [Value.bool p]
 rw [Nat.mul_one, List.drop_eq_getElem_cons (by simpa using hj2)]
 simp [hp]
theorem ints_read {W : World} {g t : Nat} {l : List Int} (h : W.heap[g]? = some (.cells (l.map (Value.int .i64)).toArray t (0, 0))) (hl : l.length ≤ maxLen) : IA W (some ⟨g, 0, none⟩) l := by
 refine C_block h ⟨by simp [Kd.int, Kd.scalar], fun j p hj => ?_⟩ hl
 have hj2 : j < l.length := (List.getElem?_eq_some_iff.1 hj).1
 have hp : l[j] = p := (List.getElem?_eq_some_iff.1 hj).2
 show List.take 1 (List.drop (j * 1) (l.map (Value.int .i64))) = [Value.int .i64 p]
 rw [Nat.mul_one, List.drop_eq_getElem_cons (by simpa using hj2)]
 simp [hp]
theorem reach1 (w : World) (A : Option Addr) (z : Int) (hG : Glob w) (hu : UA w A u3) :
 Calls Tryd.prog 26 #[.slice A 3 3, .slice (some ⟨w.heap.size, 0, none⟩) 1 1] (w.alloc (.cells #[.int .i64 z] 3)) fun e w' => Below w.heap.size w w' ∧ ReachPost u3 [z] (w.alloc (.cells #[.int .i64 z] 3)) e w' := by
 have hb := bAA (Below.refl w.heap.size w) (.cells #[.int .i64 z] 3)
 refine (reach_any _ A (some ⟨w.heap.size, 0, none⟩) u3 [z] 3 1 (hG.below hb) (Kd.C_below hu hb) (by decide) u3_narrow (by decide) (ints_read (l := [z]) (blk_new w (.cells #[.int .i64 z] 3)) (by simp [maxLen])) (by simp)).mono ?_
 intro e w' h
 exact ⟨bTT hb h.1, h⟩
theorem reachB (w : World) (A : Option Addr) (hG : Glob w) (hu : UA w A u3) :
 Calls Tryd.prog 26 #[.slice A 3 3, .slice (some ⟨w.heap.size, 0, none⟩) 1 1] (w.alloc (.cells #[.int .i64 3] 3)) fun e w' => e = .returned (.tuple #[.slice none 0 0, .int .i64 1]) ∧ Below w.heap.size w w' := by
 refine (reach1 w A 3 hG hu).mono ?_
 rintro e w' ⟨hb, _, ⟨_, h⟩ | ⟨_, h, _⟩⟩
 ·exact ⟨h, hb⟩
 ·have := h 3 (List.mem_singleton.2 rfl)
  exact absurd this.2 (by decide)
end Go.Proofs.YtngmipfodjgmmaaDoor.Pure
end
