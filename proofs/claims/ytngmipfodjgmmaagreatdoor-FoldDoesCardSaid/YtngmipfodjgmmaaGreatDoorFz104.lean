/- Walks and plain laws of this claim, a part. -/
import Derived.Test.YtngmipfodjgmmaaGreatDoorFz98
import Derived.RangeFuncBox
import Derived.Maps.AppendAt
import Derived.Maps.OwnOps
import Derived.Maps.OwnSet
import Derived.Shelf.Abstract
import Derived.Shelf.RegionOpen
import Derived.WalkKit
import Derived.OwnWalkIn
import Derived.TacticsInMore
import Derived.LoopNIn
import Derived.LoopIn
import Derived.Deep.QuietTactic
import Derived.BigQuiet
set_option maxRecDepth 100000
set_option maxHeartbeats 8000000
set_option linter.unusedVariables false
set_option linter.unusedSimpArgs false
section
namespace Go.Proofs.YtngmipfodjgmmaaGreatDoor.Pure
open Go Go.RowKit Go.Lib Go.Shelf Wa Wb Wc
open P (Glob UA)
open Folds (gt)
def zc : ByteArray := ⟨#[0, 0, 0, 148]⟩
def fa : P.S39 := ⟨⟨#[97]⟩, 1, false, 0, zc, [⟨0, 2, 2, 0⟩]⟩
def fb : P.S39 := ⟨⟨#[98]⟩, 1, false, 0, zc, [⟨0, 2, 3, 0⟩]⟩
def fc : P.S39 := ⟨⟨#[97]⟩, 1, false, 0, zc, [⟨0, 2, 1, 0⟩]⟩
def fd : P.S39 := ⟨⟨#[98]⟩, 1, false, 0, zc, [⟨0, 2, 0, 0⟩]⟩
def fr : P.S39 := ⟨⟨#[114]⟩, 1, false, 0, ⟨#[192, 3, 95, 214]⟩, []⟩
def l4 : List P.S39 := [fa, fb, fr, fr]
def l2 : List P.S39 := [fc, fd]
def lr : List P.S39 := [fr, fr]
theorem caller_calls (u : P.S39) (a0 : ByteArray) (z : Int) (h : P.cleatlaw22_caller.f a0 z = some (u.f0, u.f1, u.f2, u.f3, u.f4, u.f5)) (w : World) :
 Calls Tryz.prog 45 #[.string a0, .int .i64 z] w fun e w' => ∃ A' c', e = .returned (.agg #[.string u.f0, .int .i64 u.f1, .bool u.f2, .int .i64 u.f3, .string u.f4, .slice A' u.f5.length c']) ∧ UV w' u A' c' ∧ Below w.heap.size w w' := by
 refine (P.cleatlaw22_caller.calls a0 z u.f0 u.f1 u.f2 u.f3 u.f4 u.f5 w h).mono ?_
 rintro e w' ⟨v, rfl, hR, hb⟩
 obtain ⟨A', c', rfl, hl, hC⟩ := Kd.R_reads hR
 exact ⟨A', c', rfl, ⟨hC, hl⟩, hb⟩
theorem l4_is : IsU l4 true := Ev.of (fun k => P.graph_Is.mono _ k) (k := 100) (by kernel_rfl)
theorem l2_is : IsU l2 true := Ev.of (fun k => P.graph_Is.mono _ k) (k := 100) (by kernel_rfl)
theorem lr_is : IsU lr true := Ev.of (fun k => P.graph_Is.mono _ k) (k := 100) (by kernel_rfl)
theorem l4_fold : foldL l4 [true, true, true, true] = [0, 0, 2, 2] := by kernel_rfl
theorem l2_fold : foldL l2 [true, true] = [0, 0] := by kernel_rfl
theorem lr_saved : savedF lr [true, true] 2 = 4 := by kernel_rfl
theorem frK (W : World) : P.k39.K W fr [.string ⟨#[114]⟩, .int .i64 1, .bool false, .int .i64 0, .string ⟨#[192, 3, 95, 214]⟩, .slice none 0 0] := (show UV W fr none 0 from ⟨Kd.C_nil _ _, by decide⟩).K
theorem uA {W : World} {g : Nat} {Aa Ab : Option Addr} {ca cb : Nat} (h : W.heap[g]? = some (.cells #[.string fa.f0, .int .i64 fa.f1, .bool fa.f2, .int .i64 fa.f3, .string fa.f4, .slice Aa fa.f5.length ca, .string fb.f0, .int .i64 fb.f1, .bool fb.f2, .int .i64 fb.f3, .string fb.f4, .slice Ab fb.f5.length cb, .string ⟨#[114]⟩, .int .i64 1, .bool false, .int .i64 0, .string ⟨#[192, 3, 95, 214]⟩, .slice none 0 0, .string ⟨#[114]⟩, .int .i64 1, .bool false, .int .i64 0, .string ⟨#[192, 3, 95, 214]⟩, .slice none 0 0] 39 (0, 0))) (hAa : UV W fa Aa ca) (hAb : UV W fb Ab cb) : UA W (some ⟨g, 0, none⟩) l4 :=
 have hr : Reps (P.k39.K W) 6 l4 ((((([] : List Value) ++ [.string fa.f0, .int .i64 fa.f1, .bool fa.f2, .int .i64 fa.f3, .string fa.f4, .slice Aa fa.f5.length ca]) ++ [.string fb.f0, .int .i64 fb.f1, .bool fb.f2, .int .i64 fb.f3, .string fb.f4, .slice Ab fb.f5.length cb]) ++ [.string ⟨#[114]⟩, .int .i64 1, .bool false, .int .i64 0, .string ⟨#[192, 3, 95, 214]⟩, .slice none 0 0]) ++ [.string ⟨#[114]⟩, .int .i64 1, .bool false, .int .i64 0, .string ⟨#[192, 3, 95, 214]⟩, .slice none 0 0]) := (((((Reps.none (P.k39.K W) 6).snoc hAa.K rfl).snoc hAb.K rfl).snoc (frK W) rfl).snoc (frK W) rfl)
 C_block (d := P.k39) (xs := l4) h hr (by decide)
theorem uB {W : World} {g : Nat} {Aa Ab : Option Addr} {ca cb : Nat} (h : W.heap[g]? = some (.cells #[.string fc.f0, .int .i64 fc.f1, .bool fc.f2, .int .i64 fc.f3, .string fc.f4, .slice Aa fc.f5.length ca, .string fd.f0, .int .i64 fd.f1, .bool fd.f2, .int .i64 fd.f3, .string fd.f4, .slice Ab fd.f5.length cb] 39 (0, 0))) (hAa : UV W fc Aa ca) (hAb : UV W fd Ab cb) : UA W (some ⟨g, 0, none⟩) l2 :=
 have hr : Reps (P.k39.K W) 6 l2 ((([] : List Value) ++ [.string fc.f0, .int .i64 fc.f1, .bool fc.f2, .int .i64 fc.f3, .string fc.f4, .slice Aa fc.f5.length ca]) ++ [.string fd.f0, .int .i64 fd.f1, .bool fd.f2, .int .i64 fd.f3, .string fd.f4, .slice Ab fd.f5.length cb]) := (((Reps.none (P.k39.K W) 6).snoc hAa.K rfl).snoc hAb.K rfl)
 C_block (d := P.k39) (xs := l2) h hr (by decide)
theorem uC {W : World} {g : Nat} (h : W.heap[g]? = some (.cells #[.string ⟨#[114]⟩, .int .i64 1, .bool false, .int .i64 0, .string ⟨#[192, 3, 95, 214]⟩, .slice none 0 0, .string ⟨#[114]⟩, .int .i64 1, .bool false, .int .i64 0, .string ⟨#[192, 3, 95, 214]⟩, .slice none 0 0] 39 (0, 0))) : UA W (some ⟨g, 0, none⟩) lr :=
 have hr : Reps (P.k39.K W) 6 lr ((([] : List Value) ++ [.string ⟨#[114]⟩, .int .i64 1, .bool false, .int .i64 0, .string ⟨#[192, 3, 95, 214]⟩, .slice none 0 0]) ++ [.string ⟨#[114]⟩, .int .i64 1, .bool false, .int .i64 0, .string ⟨#[192, 3, 95, 214]⟩, .slice none 0 0]) := (((Reps.none (P.k39.K W) 6).snoc (frK W) rfl).snoc (frK W) rfl)
 C_block (d := P.k39) (xs := lr) h hr (by decide)
theorem ok_of {us : List P.S39} (hn : Narrow us) (h : IsU us true) : UOk us := by
 obtain ⟨b, hb, hi⟩ := isU_ends us hn
 exact hi.1 (isU_one hb h)
theorem narrow_of {us : List P.S39} (h : ∀ u ∈ us, u.f5.length ≤ 1) : Narrow us := fun _ i hi => Nat.le_trans (h _ (List.getElem_mem hi)) (by decide)
theorem l4_n : Narrow l4 := narrow_of (by intro u hu; simp [l4, fa, fb, fr] at hu; rcases hu with rfl | rfl | rfl <;> simp)
theorem l2_n : Narrow l2 := narrow_of (by intro u hu; simp [l2, fc, fd] at hu; rcases hu with rfl | rfl <;> simp)
theorem lr_n : Narrow lr := narrow_of (by intro u hu; simp [lr, fr] at hu; rcases hu with rfl <;> simp)
theorem foldA (W : World) (g b : Nat) (Aa Ab : Option Addr) (ca cb : Nat) (hG : Glob W) (h : W.heap[g]? = some (.cells #[.string fa.f0, .int .i64 fa.f1, .bool fa.f2, .int .i64 fa.f3, .string fa.f4, .slice Aa fa.f5.length ca, .string fb.f0, .int .i64 fb.f1, .bool fb.f2, .int .i64 fb.f3, .string fb.f4, .slice Ab fb.f5.length cb, .string ⟨#[114]⟩, .int .i64 1, .bool false, .int .i64 0, .string ⟨#[192, 3, 95, 214]⟩, .slice none 0 0, .string ⟨#[114]⟩, .int .i64 1, .bool false, .int .i64 0, .string ⟨#[192, 3, 95, 214]⟩, .slice none 0 0] 39 (0, 0))) (ha : UV W fa Aa ca) (hb : UV W fb Ab cb) (h2 : W.heap[b]? = some (.cells #[.bool true, .bool true, .bool true, .bool true] 4 (0, 0))) :
 Calls Tryz.prog 9 #[.slice (some ⟨g, 0, none⟩) 4 4, .slice (some ⟨b, 0, none⟩) 4 4] W fun e w' => ∃ pb, e = .returned (.tuple #[.slice (some ⟨pb, 0, none⟩) 4 4, .int .i64 0]) ∧ IB w' pb [0, 0, 2, 2] ∧ Below W.heap.size W w' := by
 refine (fold_any W (some ⟨g, 0, none⟩) (some ⟨b, 0, none⟩) l4 [true, true, true, true] 4 4 hG (uA h ha hb) (by decide) l4_n (by decide) (bools_read (l := [true, true, true, true]) h2 (by decide)) (by decide) (by decide)).mono ?_
 rintro e w' ⟨hbl, ⟨hno, _⟩ | ⟨_, pb, rfl, hL, _⟩⟩
 ·exact absurd ⟨rfl, ok_of l4_n l4_is⟩ hno
 rw [l4_fold] at hL
 exact ⟨pb, rfl, hL, hbl⟩
theorem foldB (W : World) (g b : Nat) (Aa Ab : Option Addr) (ca cb : Nat) (hG : Glob W) (h : W.heap[g]? = some (.cells #[.string fc.f0, .int .i64 fc.f1, .bool fc.f2, .int .i64 fc.f3, .string fc.f4, .slice Aa fc.f5.length ca, .string fd.f0, .int .i64 fd.f1, .bool fd.f2, .int .i64 fd.f3, .string fd.f4, .slice Ab fd.f5.length cb] 39 (0, 0))) (ha : UV W fc Aa ca) (hb : UV W fd Ab cb) (h2 : W.heap[b]? = some (.cells #[.bool true, .bool true] 4 (0, 0))) :
 Calls Tryz.prog 9 #[.slice (some ⟨g, 0, none⟩) 2 2, .slice (some ⟨b, 0, none⟩) 2 2] W fun e w' => ∃ pb, e = .returned (.tuple #[.slice (some ⟨pb, 0, none⟩) 2 2, .int .i64 0]) ∧ IB w' pb [0, 0] ∧ Below W.heap.size W w' := by
 refine (fold_any W (some ⟨g, 0, none⟩) (some ⟨b, 0, none⟩) l2 [true, true] 2 2 hG (uB h ha hb) (by decide) l2_n (by decide) (bools_read (l := [true, true]) h2 (by decide)) (by decide) (by decide)).mono ?_
 rintro e w' ⟨hbl, ⟨hno, _⟩ | ⟨_, pb, rfl, hL, _⟩⟩
 ·exact absurd ⟨rfl, ok_of l2_n l2_is⟩ hno
 rw [l2_fold] at hL
 exact ⟨pb, rfl, hL, hbl⟩
theorem savedC (W : World) (g b : Nat) (hG : Glob W) (h : W.heap[g]? = some (.cells #[.string ⟨#[114]⟩, .int .i64 1, .bool false, .int .i64 0, .string ⟨#[192, 3, 95, 214]⟩, .slice none 0 0, .string ⟨#[114]⟩, .int .i64 1, .bool false, .int .i64 0, .string ⟨#[192, 3, 95, 214]⟩, .slice none 0 0] 39 (0, 0))) (h2 : W.heap[b]? = some (.cells #[.bool true, .bool true] 4 (0, 0))) :
 Calls Tryz.prog 11 #[.slice (some ⟨g, 0, none⟩) 2 2, .slice (some ⟨b, 0, none⟩) 2 2] W fun e w' => e = .returned (.tuple #[.int .i64 4, .int .i64 0]) ∧ Below W.heap.size W w' := by
 refine (saved_any W (some ⟨g, 0, none⟩) (some ⟨b, 0, none⟩) lr [true, true] 2 2 hG (uC h) (by decide) lr_n (by decide) (bools_read (l := [true, true]) h2 (by decide)) (by decide) (by decide)).mono ?_
 rintro e w' ⟨hbl, ⟨hno, _⟩ | ⟨_, rfl⟩⟩
 ·exact absurd ⟨rfl, ok_of lr_n lr_is⟩ hno
 exact ⟨by rw [show savedF lr [true, true] lr.length = 4 from lr_saved]; rfl, hbl⟩
theorem foldD (W : World) (b : Nat) (hG : Glob W) (h2 : W.heap[b]? = some (.cells #[.bool true] 4 (0, 0))) :
 Calls Tryz.prog 9 #[.slice none 0 0, .slice (some ⟨b, 0, none⟩) 1 1] W fun e w' => e = .returned (.tuple #[.slice none 0 0, .int .i64 1]) ∧ Below W.heap.size W w' := by
 refine (fold_any W none (some ⟨b, 0, none⟩) [] [true] 0 1 hG (Kd.C_nil _ _) (by decide) (narrow_of (by simp)) (by decide) (bools_read (l := [true]) h2 (by decide)) (by decide) (by decide)).mono ?_
 rintro e w' ⟨hbl, ⟨_, h⟩ | ⟨h, _⟩⟩
 ·exact ⟨h, hbl⟩
 exact absurd h.1 (by decide)
theorem same4 (W : World) (a b : Nat) (ha : IB W a [0, 0, 2, 2]) (hb : W.heap[b]? = some (.cells #[.int .i64 0, .int .i64 0, .int .i64 2, .int .i64 2] 3 (0, 0))) :
 Calls Tryz.prog 13 #[.slice (some ⟨a, 0, none⟩) 4 4, .slice (some ⟨b, 0, none⟩) 4 4] W fun e w' => e = .returned (.bool true) ∧ Below W.heap.size W w' := by
 refine (P.cleatref04_Same.calls 10 (some ⟨a, 0, none⟩) 4 [0, 0, 2, 2] (some ⟨b, 0, none⟩) 4 [0, 0, 2, 2] true W (ha.reads (by decide)) (by decide) (ints_read (l := [0, 0, 2, 2]) hb (by decide)) (by decide) (by kernel_rfl)).mono ?_
 intro e w' h
 exact ⟨h.1, h.2.below⟩
theorem same2 (W : World) (a b : Nat) (ha : IB W a [0, 0]) (hb : W.heap[b]? = some (.cells #[.int .i64 0, .int .i64 0] 3 (0, 0))) :
 Calls Tryz.prog 13 #[.slice (some ⟨a, 0, none⟩) 2 2, .slice (some ⟨b, 0, none⟩) 2 2] W fun e w' => e = .returned (.bool true) ∧ Below W.heap.size W w' := by
 refine (P.cleatref04_Same.calls 10 (some ⟨a, 0, none⟩) 2 [0, 0] (some ⟨b, 0, none⟩) 2 [0, 0] true W (ha.reads (by decide)) (by decide) (ints_read (l := [0, 0]) hb (by decide)) (by decide) (by kernel_rfl)).mono ?_
 intro e w' h
 exact ⟨h.1, h.2.below⟩
theorem alikeR (W : World) : Calls Tryz.prog 17 #[.agg #[.string ⟨#[114]⟩, .int .i64 1, .bool false, .int .i64 0, .string ⟨#[192, 3, 95, 214]⟩, .slice none 0 0], .agg #[.string ⟨#[114]⟩, .int .i64 1, .bool false, .int .i64 0, .string ⟨#[192, 3, 95, 214]⟩, .slice none 0 0]] W fun e w' => e = .returned (.bool true) ∧ Below W.heap.size W w' := by
 have h := alike_calls W fr fr none none 0 0 (Kd.C_nil _ _) (by decide) (Kd.C_nil _ _) (by decide) (by decide)
 rw [show alikeU fr fr = true from dT_ ⟨rfl, rfl, rfl, rfl⟩] at h
 exact h
theorem blk_newd (w : World) (o : Obj) : (w.alloc o).drew.heap[w.heap.size]? = some o := blk_new w o
theorem blk_new1 (w : World) (o o2 : Obj) : ((w.alloc o).alloc o2).heap[w.heap.size + 1]? = some o2 := by
 have h := blk_new (w.alloc o) o2
 rw [show (w.alloc o).heap.size = w.heap.size + 1 by simp] at h
 exact h
theorem keep6 {w w1 : World} {p0 p1 p2 p3 p4 p5 : Addr} {v0 v1 v2 v3 v4 v5 : Value} (h : w.cell? p0 = some v0 ∧ w.cell? p1 = some v1 ∧ w.cell? p2 = some v2 ∧ w.cell? p3 = some v3 ∧ w.cell? p4 = some v4 ∧ w.cell? p5 = some v5) (hb : Below w.heap.size w w1) : w1.cell? p0 = some v0 ∧ w1.cell? p1 = some v1 ∧ w1.cell? p2 = some v2 ∧ w1.cell? p3 = some v3 ∧ w1.cell? p4 = some v4 ∧ w1.cell? p5 = some v5 := by
 obtain ⟨a0, a1, a2, a3, a4, a5⟩ := h
 exact ⟨keepc a0 hb, keepc a1 hb, keepc a2 hb, keepc a3 hb, keepc a4 hb, keepc a5 hb⟩
theorem folded_any (w : World) (hG : Glob w) : Calls Tryz.prog 16 #[] w fun e w' => e = .returned (.bool true) ∧ Below w.heap.size w w' := by
 have HG := Azz.mk hG
 clear hG
 go_enter Tryz.func16, Tryz.ntmps16
 go_wp2
 have hBV : Below w.heap.size w (w.alloc (.cells #[.string ⟨#[114]⟩, .int .i64 1, .bool false, .int .i64 0, .string ⟨#[192, 3, 95, 214]⟩, .slice none 0 0] 39)) := bAA (Below.refl _ _) _
 have rb : (w.alloc (.cells #[.string ⟨#[114]⟩, .int .i64 1, .bool false, .int .i64 0, .string ⟨#[192, 3, 95, 214]⟩, .slice none 0 0] 39)).heap[w.heap.size]? = some (.cells #[.string ⟨#[114]⟩, .int .i64 1, .bool false, .int .i64 0, .string ⟨#[192, 3, 95, 214]⟩, .slice none 0 0] 39 (0, 0)) := blk_new _ _
 generalize hV : w.alloc (.cells #[.string ⟨#[114]⟩, .int .i64 1, .bool false, .int .i64 0, .string ⟨#[192, 3, 95, 214]⟩, .slice none 0 0] 39) = V at hBV rb ⊢
 clear hV
 have HBV := Azz.mk hBV
 have HRB := Azz.mk rb
 have c0 : V.cell? ⟨w.heap.size, 0, none⟩ = some (.string ⟨#[114]⟩) := (kCC rb 0).trans rfl
 have c1 : V.cell? ⟨w.heap.size, 1, none⟩ = some (.int .i64 1) := (kCC rb 1).trans rfl
 have c2 : V.cell? ⟨w.heap.size, 2, none⟩ = some (.bool false) := (kCC rb 2).trans rfl
 have c3 : V.cell? ⟨w.heap.size, 3, none⟩ = some (.int .i64 0) := (kCC rb 3).trans rfl
 have c4 : V.cell? ⟨w.heap.size, 4, none⟩ = some (.string ⟨#[192, 3, 95, 214]⟩) := (kCC rb 4).trans rfl
 have c5 : V.cell? ⟨w.heap.size, 5, none⟩ = some (.slice none 0 0) := (kCC rb 5).trans rfl
 clear hBV rb
 go_region_held3 (fun w' => w'.cell? ⟨w.heap.size, 0, none⟩ = some (.string ⟨#[114]⟩) ∧ w'.cell? ⟨w.heap.size, 1, none⟩ = some (.int .i64 1) ∧ w'.cell? ⟨w.heap.size, 2, none⟩ = some (.bool false) ∧ w'.cell? ⟨w.heap.size, 3, none⟩ = some (.int .i64 0) ∧ w'.cell? ⟨w.heap.size, 4, none⟩ = some (.string ⟨#[192, 3, 95, 214]⟩) ∧ w'.cell? ⟨w.heap.size, 5, none⟩ = some (.slice none 0 0)) (first | go_keep | exact keep6 (by assumption) hb) (first
  | (go_at_call 45; (with_reducible refine (caller_calls fa ⟨#[97]⟩ 2 rfl _).mono ?_); rintro e w2 ⟨Aa, ca, rfl, ha, hb⟩; have hbA := hb)
  | (go_at_call 45; (with_reducible refine (caller_calls fb ⟨#[98]⟩ 3 rfl _).mono ?_); rintro e w3 ⟨Ab, cb, rfl, hbb, hb⟩; have hbB := hb)
  | (go_at_call 9; (with_reducible refine (foldA _ _ _ Aa Ab ca cb ?g1 ?g2 ?g3 ?g4 ?g5).mono ?_); (case g1 => exact HG.out.below (by repeat (first | exact Below.refl _ _ | exact HBV.out | apply bAA | apply bDD | apply bNN | (refine bTT ?_ (by assumption))))); (case g2 => first | exact blk_new _ _ | exact kAA (blk_new _ _) _ | exact blk_new1 _ _ _); (case g3 => exact ha.below (by repeat (first | exact Below.refl _ _ | exact HBV.out | apply bAA | apply bDD | apply bNN | (refine bTT ?_ (by assumption))))); (case g4 => exact hbb.below (by repeat (first | exact Below.refl _ _ | exact HBV.out | apply bAA | apply bDD | apply bNN | (refine bTT ?_ (by assumption))))); (case g5 => first | exact blk_new _ _ | exact kAA (blk_new _ _) _ | exact blk_new1 _ _ _ | exact kAA (kBB (blk_new _ _) hbB) _ | exact kAA (kBB (blk_newd _ _) hbB) _ | exact kAA (kBB (kBB (blk_newd _ _) hbA) hbB) _ | exact kAA (kBB (kBB (blk_new _ _) hbA) hbB) _); rintro e w4 ⟨pb, rfl, hL, hb⟩))
 all_goals
  have HW := Azz.mk (show Below w.heap.size w w4 by repeat (first | exact Below.refl _ _ | exact HBV.out | apply bAA | apply bDD | apply bNN | (refine bTT ?_ (by assumption))))
  have HVW := Azz.mk (show Below V.heap.size V w4 by repeat (first | exact Below.refl _ _ | apply bAA | apply bDD | apply bNN | (refine bTT ?_ (by assumption))))
  have HL := Azz.mk hL
  clear hbA hbB ha hbb hL c0 c1 c2 c3 c4 c5
  clear hb
  go_wp2_with fail
  (with_reducible refine (caller_calls fc ⟨#[97]⟩ 1 rfl _).mono ?_)
  rintro e w5 ⟨Ac, cc, rfl, hc, hb⟩
  replace HW := Azz.mk (bTT HW.out hb)
  replace HVW := Azz.mk (bTT HVW.out hb)
  replace HL := Azz.mk (HL.out.below hb)
  have HC := Azz.mk hc
  clear hc hb
  go_wp2_with fail
  (with_reducible refine (caller_calls fd ⟨#[98]⟩ 0 rfl _).mono ?_)
  rintro e w6 ⟨Ad, cd, rfl, hd, hb⟩
  replace HW := Azz.mk (bTT HW.out hb)
  replace HVW := Azz.mk (bTT HVW.out hb)
  replace HL := Azz.mk (HL.out.below hb)
  replace HC := Azz.mk (HC.out.below hb)
  have HD := Azz.mk hd
  clear hd hb
  go_wp2_with fail
  (with_reducible refine (foldB _ _ _ Ac Ad cc cd ?g1 ?g2 ?g3 ?g4 ?g5).mono ?_)
  case g1 => exact HG.out.below (bAA (bAA HW.out _) _)
  case g2 => first | exact blk_new _ _ | exact kAA (blk_new _ _) _ | exact blk_new1 _ _ _
  case g3 => exact HC.out.below (bAA (bAA (Below.refl _ _) _) _)
  case g4 => exact HD.out.below (bAA (bAA (Below.refl _ _) _) _)
  case g5 => first | exact blk_new _ _ | exact kAA (blk_new _ _) _ | exact blk_new1 _ _ _
  rintro e w7 ⟨pc, rfl, hL2, hb⟩
  replace HL := Azz.mk (HL.out.below (bTT (bAA (bAA (Below.refl _ _) _) _) hb))
  replace HVW := Azz.mk (bTT (bAA (bAA HVW.out _) _) hb)
  replace HW := Azz.mk (bTT (bAA (bAA HW.out _) _) hb)
  have HL2 := Azz.mk hL2
  clear hL2 hb HC HD
  have rb7 := kBB HRB.out HVW.out
  have c0 : w7.cell? ⟨w.heap.size, 0, none⟩ = some (.string ⟨#[114]⟩) := (kCC rb7 0).trans rfl
  have c1 : w7.cell? ⟨w.heap.size, 1, none⟩ = some (.int .i64 1) := (kCC rb7 1).trans rfl
  have c2 : w7.cell? ⟨w.heap.size, 2, none⟩ = some (.bool false) := (kCC rb7 2).trans rfl
  have c3 : w7.cell? ⟨w.heap.size, 3, none⟩ = some (.int .i64 0) := (kCC rb7 3).trans rfl
  have c4 : w7.cell? ⟨w.heap.size, 4, none⟩ = some (.string ⟨#[192, 3, 95, 214]⟩) := (kCC rb7 4).trans rfl
  have c5 : w7.cell? ⟨w.heap.size, 5, none⟩ = some (.slice none 0 0) := (kCC rb7 5).trans rfl
  clear rb7
  go_wp2_with fail
  clear c0 c1 c2 c3 c4 c5
  (with_reducible refine (savedC _ _ _ ?g1 ?g2 ?g5).mono ?_)
  case g1 => exact HG.out.below (bAA (bAA HW.out _) _)
  case g2 => first | exact blk_new _ _ | exact kAA (blk_new _ _) _ | exact blk_new1 _ _ _
  case g5 => first | exact blk_new _ _ | exact kAA (blk_new _ _) _ | exact blk_new1 _ _ _
  rintro e w8 ⟨rfl, hb⟩
  replace HL := Azz.mk (HL.out.below (bTT (bAA (bAA (Below.refl _ _) _) _) hb))
  replace HL2 := Azz.mk (HL2.out.below (bTT (bAA (bAA (Below.refl _ _) _) _) hb))
  replace HVW := Azz.mk (bTT (bAA (bAA HVW.out _) _) hb)
  replace HW := Azz.mk (bTT (bAA (bAA HW.out _) _) hb)
  clear hb
  go_wp2_with fail
  (with_reducible refine (foldD _ _ ?g1 ?g5).mono ?_)
  case g1 => exact HG.out.below (bAA HW.out _)
  case g5 => exact blk_new _ _
  rintro e w9 ⟨rfl, hb⟩
  replace HL := Azz.mk (HL.out.below (bTT (bAA (Below.refl _ _) _) hb))
  replace HL2 := Azz.mk (HL2.out.below (bTT (bAA (Below.refl _ _) _) hb))
  replace HVW := Azz.mk (bTT (bAA HVW.out _) hb)
  replace HW := Azz.mk (bTT (bAA HW.out _) hb)
  clear hb
  go_wp2_with fail
  (with_reducible refine (same4 _ _ _ ?g2 ?g5).mono ?_)
  case g2 => exact HL.out.below (bAA (Below.refl _ _) _)
  case g5 => exact blk_new _ _
  rintro e w10 ⟨rfl, hb⟩
  replace HL2 := Azz.mk (HL2.out.below (bTT (bAA (Below.refl _ _) _) hb))
  replace HVW := Azz.mk (bTT (bAA HVW.out _) hb)
  replace HW := Azz.mk (bTT (bAA HW.out _) hb)
  clear hb HL
  go_wp2_with fail
  (with_reducible refine (same2 _ _ _ ?g2 ?g5).mono ?_)
  case g2 => exact HL2.out.below (bAA (Below.refl _ _) _)
  case g5 => exact blk_new _ _
  rintro e w11 ⟨rfl, hb⟩
  replace HVW := Azz.mk (bTT (bAA HVW.out _) hb)
  replace HW := Azz.mk (bTT (bAA HW.out _) hb)
  clear hb HL2
  have rb8 := kBB HRB.out HVW.out
  have c0 : w11.cell? ⟨w.heap.size, 0, none⟩ = some (.string ⟨#[114]⟩) := (kCC rb8 0).trans rfl
  have c1 : w11.cell? ⟨w.heap.size, 1, none⟩ = some (.int .i64 1) := (kCC rb8 1).trans rfl
  have c2 : w11.cell? ⟨w.heap.size, 2, none⟩ = some (.bool false) := (kCC rb8 2).trans rfl
  have c3 : w11.cell? ⟨w.heap.size, 3, none⟩ = some (.int .i64 0) := (kCC rb8 3).trans rfl
  have c4 : w11.cell? ⟨w.heap.size, 4, none⟩ = some (.string ⟨#[192, 3, 95, 214]⟩) := (kCC rb8 4).trans rfl
  have c5 : w11.cell? ⟨w.heap.size, 5, none⟩ = some (.slice none 0 0) := (kCC rb8 5).trans rfl
  clear rb8
  go_wp2_with fail
  clear c0 c1 c2 c3 c4 c5
  (with_reducible refine (alikeR _).mono ?_)
  rintro e w12 ⟨rfl, hb⟩
  replace HW := Azz.mk (bTT HW.out hb)
  clear hb HVW
  go_wp2
  go_ret
  exact ⟨rfl, HW.out⟩
end Go.Proofs.YtngmipfodjgmmaaGreatDoor.Pure
end
section
namespace Go.Proofs.YtngmipfodjgmmaaGreatDoor.Folds
variable {n : Nat} {inn : Nat → Bool} {al : Nat → Nat → Bool} {rf : Nat → List Nat}
def OneP (inn : Nat → Bool) (p : List Nat) (i k : Nat) : Prop := i = k ∨ (inn i = true ∧ inn k = true ∧ gt p i = gt p k)
theorem map_at {l m : List Nat} {f : Nat → Nat} (h : l.map f = m.map f) {j : Nat} (hj : j < l.length) : j < m.length ∧ f (l.getD j 0) = f (m.getD j 0) := by
 have hl : l.length = m.length := by have := congrArg List.length h; simpa using this
 have hm : j < m.length := by omega
 refine ⟨hm, ?_⟩
 have e := congrArg (fun l => l[j]?) h
 simp only [List.getElem?_map, List.getElem?_eq_getElem hj, List.getElem?_eq_getElem hm, Option.map_some, Option.some.injEq] at e
 rw [List.getD_eq_getElem?_getD, List.getD_eq_getElem?_getD, List.getElem?_eq_getElem hj, List.getElem?_eq_getElem hm]
 exact e
theorem getD_mem' {l : List Nat} {j : Nat} (h : j < l.length) : l.getD j 0 ∈ l := by
 rw [List.getD_eq_getElem?_getD, List.getElem?_eq_getElem h]
 exact List.getElem_mem h
theorem one_needs {p : List Nat} (hp : Part n inn al p) (hs : refineF n rf p = p) (hrf : ∀ i, i < n → ∀ j ∈ rf i, j < n) {i k : Nat} (hi : i < n) (hk : k < n) (h : OneP inn p i k) {j : Nat} (hj : j < (rf i).length) : j < (rf k).length ∧ OneP inn p ((rf i).getD j 0) ((rf k).getD j 0) := by
 rcases h with rfl | ⟨ii, ik, e⟩
 ·exact ⟨hj, .inl rfl⟩
 obtain ⟨hjk, e2⟩ := map_at (stays_sig hs i k hi hk e) hj
 refine ⟨hjk, ?_⟩
 by_cases c : (rf i).getD j 0 = (rf k).getD j 0
 ·exact .inl c
 obtain ⟨a, b, _⟩ := hp.same _ _ (hrf i hi _ (getD_mem' hj)) (hrf k hk _ (getD_mem' hjk)) c e2
 exact .inr ⟨a, b, e2⟩
theorem begin_one (hs : ∀ i k, al i k = true → al k i = true) (ht : ∀ i j k, al i j = true → al j k = true → al i k = true) {i k : Nat} (hi : i < n) (hk : k < n) (ii : inn i = true) (ik : inn k = true) (ha : al i k = true) : gt (beginF inn al n) i = gt (beginF inn al n) k := by
 have main : ∀ i k, i < n → k < i → inn i = true → inn k = true → al i k = true → gt (beginF inn al n) i = gt (beginF inn al n) k := by
  intro i k hi hk ii ik ha
  have hq : GoodQ n inn al (fun _ => []) (fun x => if x = i ∨ x = k then 0 else (x : Int) + 1) := by
   intro a b h1 h2 _ _ e
   refine ⟨?_, rfl, fun j hj => absurd hj (Nat.not_lt_zero _)⟩
   dsimp only at e
   by_cases c : a = i ∨ a = k <;> by_cases d : b = i ∨ b = k
   ·have h3 : a = i ∧ b = k := by omega
    rw [h3.1, h3.2]
    exact ha
   ·rw [if_pos c, if_neg d] at e; omega
   ·rw [if_neg c, if_pos d] at e; omega
   rw [if_neg c, if_neg d] at e; omega
  exact begin_coarse (rf := fun _ => []) hs ht hq i k hi hk ii ik (by rw [if_pos (.inl rfl), if_pos (.inr rfl)])
 rcases Nat.lt_trichotomy k i with c | c | c
 ·exact main i k hi c ii ik ha
 ·rw [c]
 exact (main k i hk c ik ii (hs _ _ ha)).symm
structure Sim (n : Nat) (inn : Nat → Bool) (al : Nat → Nat → Bool) (rf : Nat → List Nat) (E : Nat → Nat → Prop) : Prop where
 al : ∀ i k, i < n → k < n → E i k → i = k ∨ (inn i = true ∧ inn k = true ∧ al i k = true)
 nd : ∀ i k, i < n → k < n → E i k → ∀ j, j < (rf i).length → E ((rf i).getD j 0) ((rf k).getD j 0)
theorem sim_refine {E : Nat → Nat → Prop} (hE : Sim n inn al rf E) (hal : ∀ i k, al i k = true → (rf i).length = (rf k).length) (hrf : ∀ i, i < n → ∀ j ∈ rf i, j < n) {p : List Nat} (h : ∀ i k, i < n → k < n → E i k → gt p i = gt p k) : ∀ i k, i < n → k < n → E i k → gt (refineF n rf p) i = gt (refineF n rf p) k := by
 intro i k hi hk e
 rw [refine_get p i hi, refine_get p k hk]
 have hl : (rf i).length = (rf k).length := by
  rcases hE.al i k hi hk e with rfl | ⟨_, _, a⟩
  ·rfl
  exact hal i k a
 have hm : (rf i).map (gt p) = (rf k).map (gt p) := by
  refine List.ext_getElem (by simp [hl]) fun j h1 h2 => ?_
  have hj1 : j < (rf i).length := by simpa using h1
  have hj2 : j < (rf k).length := by simpa using h2
  rw [List.getElem_map, List.getElem_map]
  have e1 : (rf i).getD j 0 = (rf i)[j] := by rw [List.getD_eq_getElem?_getD, List.getElem?_eq_getElem hj1]; rfl
  have e2 : (rf k).getD j 0 = (rf k)[j] := by rw [List.getD_eq_getElem?_getD, List.getElem?_eq_getElem hj2]; rfl
  have := hE.nd i k hi hk e j hj1
  rw [e1, e2] at this
  exact h _ _ (hrf i hi _ (List.getElem_mem hj1)) (hrf k hk _ (List.getElem_mem hj2)) this
 have hs : sig rf p i = sig rf p k := by
  unfold sig
  rw [hm, h i k hi hk e]
 obtain ⟨a, b, c⟩ := nx_spec (rf := rf) p i hi
 obtain ⟨a', b', c'⟩ := nx_spec (n := n) (rf := rf) p k hk
 have l1 := c (nx n rf p k) (by omega) (b'.trans hs.symm)
 have l2 := c' (nx n rf p i) (by omega) (b.trans hs)
 omega
theorem sim_fold {E : Nat → Nat → Prop} (hE : Sim n inn al rf E) (hal : ∀ i k, al i k = true → (rf i).length = (rf k).length) (hrf : ∀ i, i < n → ∀ j ∈ rf i, j < n) : ∀ (m : Nat) (p : List Nat), (∀ i k, i < n → k < n → E i k → gt p i = gt p k) → ∀ i k, i < n → k < n → E i k → gt (foldN n rf m p) i = gt (foldN n rf m p) k
 | 0, _, h => h
 | m + 1, p, h => by
  unfold foldN
  split
  ·exact h
  exact sim_fold hE hal hrf m _ (sim_refine hE hal hrf h)
theorem sim_one {E : Nat → Nat → Prop} (hs : ∀ i k, al i k = true → al k i = true) (ht : ∀ i j k, al i j = true → al j k = true → al i k = true) (hE : Sim n inn al rf E) (hal : ∀ i k, al i k = true → (rf i).length = (rf k).length) (hrf : ∀ i, i < n → ∀ j ∈ rf i, j < n) (m : Nat) {i k : Nat} (hi : i < n) (hk : k < n) (e : E i k) : OneP inn (foldN n rf m (beginF inn al n)) i k := by
 rcases hE.al i k hi hk e with c | ⟨a, b, _⟩
 ·exact .inl c
 refine .inr ⟨a, b, sim_fold hE hal hrf m _ (fun i k hi hk e => ?_) i k hi hk e⟩
 rcases hE.al i k hi hk e with rfl | ⟨a, b, c⟩
 ·rfl
 exact begin_one hs ht hi hk a b c
def cnt (n : Nat) (m : Nat → Nat → Bool) : Nat := ((List.range n).map fun i => ((List.range n).map (m i)).count false).sum
def put (m : Nat → Nat → Bool) (i k : Nat) : Nat → Nat → Bool := fun a b => if a = i ∧ b = k then true else m a b
theorem put_self (m : Nat → Nat → Bool) (i k : Nat) : put m i k i k = true := if_pos ⟨rfl, rfl⟩
theorem put_true {m : Nat → Nat → Bool} {i k a b : Nat} : put m i k a b = true ↔ (a = i ∧ b = k) ∨ m a b = true := by
 unfold put
 split
 ·rename_i h; exact ⟨fun _ => .inl h, fun _ => rfl⟩
 rename_i h; exact ⟨fun e => .inr e, fun e => e.resolve_left h⟩
theorem count_map_le (f g : Nat → Bool) (h : ∀ q, f q = true → g q = true) : ∀ l : List Nat, (l.map g).count false ≤ (l.map f).count false
 | [] => Nat.le_refl _
 | a :: l => by
  have := count_map_le f g h l
  rw [List.map_cons, List.map_cons, List.count_cons, List.count_cons]
  cases hf : f a with
  | true => rw [h a hf]; simpa using this
  | false => cases hg : g a <;> simp <;> omega
theorem count_map_lt (f g : Nat → Bool) (h : ∀ q, f q = true → g q = true) {k : Nat} (h1 : f k = false) (h2 : g k = true) : ∀ l : List Nat, k ∈ l → (l.map g).count false < (l.map f).count false
 | a :: l, hm => by
  have hle := count_map_le f g h l
  rw [List.map_cons, List.map_cons, List.count_cons, List.count_cons]
  rcases List.mem_cons.1 hm with rfl | hm
  ·rw [h1, h2]; simp; omega
  have := count_map_lt f g h h1 h2 l hm
  cases hf : f a with
  | true => rw [h a hf]; simpa using this
  | false => cases hg : g a <;> simp <;> omega
theorem cnt_put {n : Nat} {m : Nat → Nat → Bool} {i k : Nat} (hi : i < n) (hk : k < n) (h : m i k = false) : cnt n (put m i k) < cnt n m := by
 unfold cnt
 have up : ∀ a q, m a q = true → put m i k a q = true := fun a q e => put_true.2 (.inr e)
 refine (sum_lt (fun a => ((List.range n).map (put m i k a)).count false) (fun a => ((List.range n).map (m a)).count false) n (fun a _ => count_map_le _ _ (up a) _)).2 ⟨i, hi, ?_⟩
 exact count_map_lt (m i) (put m i k i) (up i) h (put_self m i k) _ (List.mem_range.2 hk)
structure Apt (n : Nat) (inn : Nat → Bool) (al : Nat → Nat → Bool) (p : List Nat) (m : Nat → Nat → Bool) : Prop where
 no : ∀ i k, i < n → k < n → m i k = true → ¬ OneP inn p i k
 al : ∀ i k, i < n → k < n → m i k = false → i = k ∨ (inn i = true ∧ inn k = true ∧ al i k = true)
def apart0 (inn : Nat → Bool) (al : Nat → Nat → Bool) (i k : Nat) : Bool := decide (i ≠ k) && (!(inn i) || !(inn k) || !(al i k))
theorem apt_start {p : List Nat} (hp : Part n inn al p) : Apt n inn al p (apart0 inn al) := by
 refine ⟨fun i k hi hk h o => ?_, fun i k hi hk h => ?_⟩
 ·unfold apart0 at h
  simp only [Bool.and_eq_true, decide_eq_true_eq, Bool.or_eq_true, Bool.not_eq_true'] at h
  rcases o with e | ⟨a, b, e⟩
  ·exact h.1 e
  obtain ⟨x, y, z⟩ := hp.same i k hi hk h.1 e
  rcases h.2 with (c | c) | c
  ·rw [x] at c; cases c
  ·rw [y] at c; cases c
  rw [z] at c; cases c
 unfold apart0 at h
 by_cases c : i = k
 ·exact .inl c
 right
 cases h1 : inn i <;> cases h2 : inn k <;> cases h3 : al i k <;> simp_all
theorem Apt.put {p : List Nat} (hp : Part n inn al p) (hs : refineF n rf p = p) (hrf : ∀ i, i < n → ∀ j ∈ rf i, j < n) {m : Nat → Nat → Bool} (h : Apt n inn al p m) {i k j : Nat} (hi : i < n) (hk : k < n) (hj : j < (rf i).length) (hjk : j < (rf k).length) (ht : m ((rf i).getD j 0) ((rf k).getD j 0) = true) : Apt n inn al p (put m i k) := by
 refine ⟨fun a b ha hb e o => ?_, fun a b ha hb e => ?_⟩
 ·rcases put_true.1 e with ⟨rfl, rfl⟩ | e
  ·exact h.no _ _ (hrf _ hi _ (getD_mem' hj)) (hrf _ hk _ (getD_mem' hjk)) ht (one_needs hp hs hrf hi hk o hj).2
  exact h.no a b ha hb e o
 refine h.al a b ha hb ?_
 cases c : m a b with
 | false => rfl
 | true => rw [put_true.2 (.inr c)] at e; cases e
theorem Apt.done {m : Nat → Nat → Bool} {M : Nat} (hs : ∀ i k, al i k = true → al k i = true) (ht : ∀ i j k, al i j = true → al j k = true → al i k = true) (hal : ∀ i k, al i k = true → (rf i).length = (rf k).length) (hrf : ∀ i, i < n → ∀ j ∈ rf i, j < n) (h : Apt n inn al (foldN n rf M (beginF inn al n)) m)
 (hd : ∀ i k, i < n → k < n → m i k = false → ∀ j, j < (rf i).length → m ((rf i).getD j 0) ((rf k).getD j 0) = false) {i k : Nat} (hi : i < n) (hk : k < n) : m i k = false ↔ OneP inn (foldN n rf M (beginF inn al n)) i k := by
 constructor
 ·intro e
  exact sim_one (E := fun a b => m a b = false) hs ht ⟨h.al, hd⟩ hal hrf M hi hk e
 intro o
 cases e : m i k with
 | false => rfl
 | true => exact absurd o (h.no i k hi hk e)
def Least (m : Nat → Nat → Bool) (i : Nat) (k : Nat) (at_ : Int) : Prop := (at_ = -1 ∧ ∀ q, k ≤ q → q ≤ i → m i q = true) ∨ ∃ a : Nat, at_ = a ∧ k ≤ a ∧ a ≤ i ∧ m i a = false ∧ ∀ q, k ≤ q → q < a → m i q = true
theorem least_start (m : Nat → Nat → Bool) (i : Nat) : Least m i (i + 1) (-1) := .inl ⟨rfl, fun q h1 h2 => by omega⟩
theorem Least.yes {m : Nat → Nat → Bool} {i k : Nat} {a : Int} (h : m i k = false) (hk : k ≤ i) : Least m i k k := .inr ⟨k, rfl, Nat.le_refl _, hk, h, fun q h1 h2 => by omega⟩
theorem Least.no {m : Nat → Nat → Bool} {i k : Nat} {a : Int} (h : Least m i (k + 1) a) (hm : m i k = true) : Least m i k a := by
 have up : ∀ {P : Nat → Prop} (q : Nat), k ≤ q → P k → (k + 1 ≤ q → P q) → P q := fun q h1 h2 h3 => by
  rcases Nat.eq_or_lt_of_le h1 with e | e
  ·exact e ▸ h2
  exact h3 e
 rcases h with ⟨e, h⟩ | ⟨b, e, h1, h2, h3, h4⟩
 ·exact .inl ⟨e, fun q h1 h2 => up (P := fun q => m i q = true) q h1 hm (fun h3 => h q h3 h2)⟩
 exact .inr ⟨b, e, by omega, h2, h3, fun q g1 g2 => up (P := fun q => m i q = true) q g1 hm (fun g3 => h4 q g3 g2)⟩
theorem least_end {p : List Nat} (hp : Part n inn al p) {m : Nat → Nat → Bool} (hm : ∀ i k, i < n → k < n → (m i k = false ↔ OneP inn p i k)) {i : Nat} (hi : i < n) (ii : inn i = true) {a : Int} (h : Least m i 0 a) : a = (gt p i : Int) := by
 have le := hp.le i hi
 have one : OneP inn p i (gt p i) := by
  by_cases c : gt p i = i
  ·exact .inl c.symm
  obtain ⟨x, y, z⟩ := hp.same i (gt p i) hi (by omega) (fun e => c e.symm) (hp.idem i hi).symm
  exact .inr ⟨x, y, (hp.idem i hi).symm⟩
 have hg := (hm i (gt p i) hi (by omega)).2 one
 rcases h with ⟨e, h⟩ | ⟨b, e, h1, h2, h3, h4⟩
 ·have := h (gt p i) (Nat.zero_le _) le
  rw [hg] at this
  cases this
 rcases Nat.lt_trichotomy b (gt p i) with c | c | c
 ·exfalso
  rcases (hm i b hi (by omega)).1 h3 with o | ⟨_, _, o⟩
  ·omega
  have := hp.le b (by omega)
  omega
 ·rw [e, c]
 have := h4 _ (Nat.zero_le _) c
 rw [hg] at this
 cases this
end Go.Proofs.YtngmipfodjgmmaaGreatDoor.Folds
end
section
namespace Go.Proofs.YtngmipfodjgmmaaGreatDoor.Pure
open Go Go.RowKit Go.Lib Go.Shelf Wa Wb Wc
theorem R_app {P : Program} {ops : Array Oper} {rest : List Oper} {o : Oper} {a : Act} {Q : Exit → Act → World → Prop} {α : Type} (d : Kd α) {w0 W' : World} (W : World) (base : Nat) (hgd : o.guard = none) (s x : Operand) (t e : TypeId) (z : Value) (bytes : Nat)
 (ho : o.op = .call { callee := .builtin .append, args := #[s, x], argTypes := #[t, t] })
 (ht : P.underlying t = some (.slice e)) (hinfo : (P.info? e).map (fun i => (i.zero, i.size, i.bytes)) = some (some z, d.sz, bytes)) (hz : z.cells.size = d.sz) (hs0 : 0 < d.sz) (hb0 : 0 < bytes)
 (v : Value) (xs : List α) (p : α) (cs : List Value) (ok okp : Nat → Prop) (hs : a.eval s = v) (hx : a.eval x = .slice (some ⟨W.heap.size, 0, none⟩) 1 1) (hW : W' = W.alloc (.cells cs.toArray e)) (hp : d.M W base okp p cs) (hokp : ∀ k, okp k → ok k ∧ some k ≠ v.ownBlock) (hfresh : ∀ k, W.heap.size ≤ k → ok k)
 (HO : d.R e W base ok v xs) (HB : Below base w0 W) (hbase : base ≤ W.heap.size) (hl : (xs.length + 1) * bytes ≤ 140737488355328)
 (h : ∀ v1 w1, d.R e w1 base ok v1 (xs ++ [p]) → Below base w0 w1 → W.grownBy w1 v.ownBlock → wpList P ops Q rest (a.put o.dst v1) w1) :
 wpList P ops Q (o :: rest) a W' := by
 subst hW
 exact Kd.R_append d base hgd s x t e z bytes ho ht hinfo hz hs0 hb0 v xs p cs ok okp hs hx hp hokp hfresh HO HB hbase hl (fun v1 w1 h1 h2 h3 _ => h v1 w1 h1 h2 h3)
end Go.Proofs.YtngmipfodjgmmaaGreatDoor.Pure
end
section
namespace Go.Proofs.YtngmipfodjgmmaaGreatDoor.Pure
open Go Go.RowKit Go.Lib Go.Shelf Wa Wb Wc
open Folds (put)
abbrev kHd (n : Nat) : Kd Nat := Kd.scalar (fun b => Value.slice (some ⟨b, 0, none⟩) n n) (fun _ => rfl)
theorem info_rowB : (Tryz.prog.info? 23).map (fun i => (i.zero, i.size, i.bytes)) = some (some (.slice none 0 0), 1, 24) := by kernel_rfl
structure Mx (w : World) (B n : Nat) (v : Value) (bs : List Nat) (m : Nat → Nat → Bool) : Prop where
 row : Kd.R (kHd n) 23 w B (fun _ => True) v bs
 blk : ∀ i, i < bs.length → BB w (bs.getD i 0) ((List.range n).map (m i))
 one : ∀ i k, i < bs.length → k < bs.length → bs.getD i 0 = bs.getD k 0 → i = k
 lo : ∀ i, i < bs.length → B ≤ bs.getD i 0
theorem Mx.below {w w1 B n v bs m} (h : Mx w B n v bs m) (hb : Below w.heap.size w w1) : Mx w1 B n v bs m :=
 ⟨Kd.R_below h.row hb, fun i hi => (h.blk i hi).below hb, h.one, h.lo⟩
theorem Mx.start (w : World) (B n : Nat) (m : Nat → Nat → Bool) : Mx w B n (.slice none 0 0) [] m :=
 ⟨Kd.R_nil _ _ _ _ _, fun i h => absurd h (Nat.not_lt_zero _), fun i k h => absurd h (Nat.not_lt_zero _), fun i h => absurd h (Nat.not_lt_zero _)⟩
theorem Mx.far {w B n v bs m} (h : Mx w B n v bs m) {b : Nat} {l : List Bool} (hb : BB w b l) : some b ≠ v.ownBlock := by
 intro e
 obtain ⟨cells, hc⟩ := Kd.R_typed h.row b e.symm
 rw [hb] at hc
 injection hc with hc
 injection hc with _ hc
 exact absurd hc (by decide)
theorem getD_snocN (l : List Nat) (b i : Nat) : (l ++ [b]).getD i 0 = if i < l.length then l.getD i 0 else if i = l.length then b else 0 := by
 rw [List.getD_eq_getElem?_getD, List.getD_eq_getElem?_getD, List.getElem?_append]
 split
 ·rfl
 rename_i h
 split
 ·rename_i e; subst e; simp
 rw [List.getElem?_eq_none (by simp; omega)]; rfl
theorem Mx.snoc {W w1 B n v v1 bs m b} (h : Mx W B n v bs m) (hb : BB W b ((List.range n).map (m bs.length))) (hB : B ≤ b) (hn : ∀ i, i < bs.length → bs.getD i 0 ≠ b) (hR : Kd.R (kHd n) 23 w1 B (fun _ => True) v1 (bs ++ [b])) (hg : W.grownBy w1 v.ownBlock) : Mx w1 B n v1 (bs ++ [b]) m := by
 have keep : ∀ {q : Nat} {l : List Bool}, BB W q l → BB w1 q l := fun hq => (hg.block _ (Array.getElem?_eq_some_iff.1 hq).1 (h.far hq)).trans hq
 refine ⟨hR, fun i hi => ?_, fun i k hi hk e => ?_, fun i hi => ?_⟩
 ·rw [getD_snocN]
  split
  ·exact keep (h.blk i (by assumption))
  rw [List.length_append] at hi
  have hi : i < bs.length + 1 := hi
  have e : i = bs.length := by omega
  rw [if_pos e, e]
  exact keep hb
 ·rw [List.length_append] at hi hk
  have hi : i < bs.length + 1 := hi
  have hk : k < bs.length + 1 := hk
  rw [getD_snocN, getD_snocN] at e
  by_cases c : i < bs.length <;> by_cases d : k < bs.length
  ·rw [if_pos c, if_pos d] at e; exact h.one i k c d e
  ·rw [if_pos c, if_neg d, if_pos (by omega)] at e; exact absurd e (hn i c)
  ·rw [if_neg c, if_pos (by omega), if_pos d] at e; exact absurd e.symm (hn k d)
  omega
 rw [getD_snocN]
 split
 ·exact h.lo i (by assumption)
 rw [List.length_append] at hi
 have hi : i < bs.length + 1 := hi
 rw [if_pos (by omega)]
 exact hB
theorem put_rowF (m : Nat → Nat → Bool) (i k n : Nat) : ((List.range n).map (m i)).set k true = (List.range n).map (put m i k i) := by
 refine List.ext_getElem (by simp) fun q h1 h2 => ?_
 rw [List.getElem_set]
 simp only [List.getElem_map, List.getElem_range]
 unfold put
 by_cases c : k = q
 ·rw [if_pos c, if_pos ⟨rfl, c.symm⟩]
 rw [if_neg c, if_neg (fun h => c h.2.symm)]
theorem put_other (m : Nat → Nat → Bool) {i k a : Nat} (h : a ≠ i) (n : Nat) : (List.range n).map (put m i k a) = (List.range n).map (m a) := by
 refine List.map_congr_left fun q _ => ?_
 unfold put
 rw [if_neg (fun e => h e.1)]
theorem Mx.set {w B n v bs m} (h : Mx w B n v bs m) {i : Nat} (hi : i < bs.length) (k : Nat) : Mx (w.setCell ⟨bs.getD i 0, k, none⟩ (.bool true)) B n v bs (put m i k) := by
 refine ⟨Kd.R_set h.row (h.blk i hi) (fun q hq => ?_) k _, fun a ha => ?_, h.one, h.lo⟩
 ·have : q = 23 := by
   rcases List.mem_cons.1 hq with h | h
   ·exact h
   exact absurd h (List.not_mem_nil (a := q))
  rw [this]
  decide
 by_cases c : a = i
 ·rw [c]
  have := (h.blk i hi).set k true
  rw [put_rowF] at this
  exact this
 rw [put_other m c]
 exact (Below.heap_setCell _ _ _ (bs.getD a 0) (fun e => c (h.one a i ha hi e))).trans (h.blk a ha)
theorem Mx.setN {w B n v bs m} (h : Mx w B n v bs m) (q : Nat) {i b : Nat} (hi : i < bs.length) (k : Nat) (hb : bs.getD i 0 = b) : Mx ((w.drewN q).setCell ⟨b, k, none⟩ (.bool true)) B n v bs (put m i k) := by
 rw [← hb]
 exact (h.below (bNN (Below.refl _ _) q)).set hi k
theorem Mx.head {w B n v bs m} (h : Mx w B n v bs m) {i : Nat} (hi : i < bs.length) : ∃ ad c, v = .slice (some ad) bs.length c ∧ w.cell? (ad.add i) = some (.slice (some ⟨bs.getD i 0, 0, none⟩) n n) := by
 obtain ⟨A, c, hv, hc, hC⟩ := Kd.R_reads h.row
 obtain ⟨ad, cc, ha, hl, hK, hcell⟩ := Kd.C_get hC 0 (i : Int) (by omega) (by omega)
 refine ⟨ad, c, by rw [hv, ha], ?_⟩
 have hK' : cc = [Value.slice (some ⟨bs.getD i 0, 0, none⟩) n n] := by
  have : cc = [Value.slice (some ⟨bs.getD (i : Int).toNat 0, 0, none⟩) n n] := hK
  rwa [Int.toNat_natCast] at this
 have h0 := hcell 0 (Value.slice (some ⟨bs.getD i 0, 0, none⟩) n n) (by rw [hK']; rfl)
 rw [Int.toNat_natCast] at h0
 have e : i * (kHd n).sz + 0 = i := by show i * 1 + 0 = i; omega
 rw [e] at h0
 exact h0
theorem Mx.cell {w B n v bs m} (h : Mx w B n v bs m) {i k : Nat} (hi : i < bs.length) (hk : k < n) : w.cell? ⟨bs.getD i 0, k, none⟩ = some (.bool (m i k)) := by
 have := (h.blk i hi).cell k (by simpa using hk)
 rw [this]
 simp [List.getD_eq_getElem?_getD, List.getElem?_map, List.getElem?_range hk]
def rowK (f : Nat → Bool) (n k : Nat) : List Bool := (List.range n).map fun q => if q < k then f q else false
theorem rowK_zero (f : Nat → Bool) (n : Nat) : List.replicate n false = rowK f n 0 := by
 refine List.ext_getElem (by simp [rowK]) fun q h1 h2 => by simp [rowK]
theorem rowK_set (f : Nat → Bool) (n k : Nat) : (rowK f n k).set k (f k) = rowK f n (k + 1) := by
 refine List.ext_getElem (by simp [rowK]) fun q h1 h2 => ?_
 rw [List.getElem_set]
 simp only [rowK, List.getElem_map, List.getElem_range]
 by_cases c : k = q
 ·rw [if_pos c, if_pos (by omega), c]
 rw [if_neg c]
 by_cases d : q < k
 ·rw [if_pos d, if_pos (by omega)]
 rw [if_neg d, if_neg (by omega)]
theorem rowK_all (f : Nat → Bool) (n : Nat) : rowK f n n = (List.range n).map f := List.map_congr_left fun q hq => if_pos (List.mem_range.1 hq)
theorem rowK_length (f : Nat → Bool) (n k : Nat) : (rowK f n k).length = n := by simp [rowK]
end Go.Proofs.YtngmipfodjgmmaaGreatDoor.Pure
end
