/- Walks and plain laws of this claim, a part. -/
import Derived.Test.YtngmipfodjgmmaaDoorFr66
namespace Go.Proofs.YtngmipfodjgmmaaDoor.Pure
open Go Go.RowKit Go.Lib Go.Shelf Go.Proofs.YtngmipfodjgmmaaDoorW.PrintWords Go.Proofs.YtngmipfodjgmmaaDoorW.PrintLast Go.Proofs.YtngmipfodjgmmaaDoorW.PrintMore
open P (Glob UA)
open Folds (gt)
set_option linter.unusedVariables false
set_option linter.unusedSimpArgs false
def zc : ByteArray := ⟨#[0, 0, 0, 148]⟩
def fa : P.S36 := ⟨⟨#[97]⟩, 1, false, 0, zc, [⟨0, 2, 2, 0⟩]⟩
def fb : P.S36 := ⟨⟨#[98]⟩, 1, false, 0, zc, [⟨0, 2, 3, 0⟩]⟩
def fc : P.S36 := ⟨⟨#[97]⟩, 1, false, 0, zc, [⟨0, 2, 1, 0⟩]⟩
def fd : P.S36 := ⟨⟨#[98]⟩, 1, false, 0, zc, [⟨0, 2, 0, 0⟩]⟩
def fr : P.S36 := ⟨⟨#[114]⟩, 1, false, 0, ⟨#[192, 3, 95, 214]⟩, []⟩
def l4 : List P.S36 := [fa, fb, fr, fr]
def l2 : List P.S36 := [fc, fd]
def lr : List P.S36 := [fr, fr]
theorem caller_calls (u : P.S36) (a0 : ByteArray) (z : Int) (h : P.cleatlaw22_caller.f a0 z = some (u.f0, u.f1, u.f2, u.f3, u.f4, u.f5)) (w : World) :
 Calls Tryd.prog 34 #[.string a0, .int .i64 z] w fun e w' => ∃ A' c', e = .returned (.agg #[.string u.f0, .int .i64 u.f1, .bool u.f2, .int .i64 u.f3, .string u.f4, .slice A' u.f5.length c']) ∧ UV w' u A' c' ∧ Below w.heap.size w w' := by
 refine (P.cleatlaw22_caller.calls a0 z u.f0 u.f1 u.f2 u.f3 u.f4 u.f5 w h).mono ?_
 rintro e w' ⟨v, rfl, hR, hb⟩
 obtain ⟨A', c', rfl, hl, hC⟩ := Kd.R_reads hR
 exact ⟨A', c', rfl, ⟨hC, hl⟩, hb⟩
theorem l4_is : IsU l4 true := Ev.of (fun k => P.graph_Is.mono _ k) (k := 100) (by kernel_rfl)
theorem l2_is : IsU l2 true := Ev.of (fun k => P.graph_Is.mono _ k) (k := 100) (by kernel_rfl)
theorem lr_is : IsU lr true := Ev.of (fun k => P.graph_Is.mono _ k) (k := 100) (by kernel_rfl)
theorem l4_fold : foldL l4 [true, true, true, true] = [0, 0, 2, 2] := by kernel_rfl
theorem l2_fold : foldL l2 [true, true] = [0, 0] := by kernel_rfl
theorem lr_saved : savedF lr [true, true] 2 = 4 := by kernel_rfl
theorem frK (W : World) : P.k36.K W fr [.string ⟨#[114]⟩, .int .i64 1, .bool false, .int .i64 0, .string ⟨#[192, 3, 95, 214]⟩, .slice none 0 0] := (show UV W fr none 0 from ⟨Kd.C_nil _ _, by decide⟩).K
theorem uA {W : World} {g : Nat} {Aa Ab : Option Addr} {ca cb : Nat} (h : W.heap[g]? = some (.cells #[.string fa.f0, .int .i64 fa.f1, .bool fa.f2, .int .i64 fa.f3, .string fa.f4, .slice Aa fa.f5.length ca, .string fb.f0, .int .i64 fb.f1, .bool fb.f2, .int .i64 fb.f3, .string fb.f4, .slice Ab fb.f5.length cb, .string ⟨#[114]⟩, .int .i64 1, .bool false, .int .i64 0, .string ⟨#[192, 3, 95, 214]⟩, .slice none 0 0, .string ⟨#[114]⟩, .int .i64 1, .bool false, .int .i64 0, .string ⟨#[192, 3, 95, 214]⟩, .slice none 0 0] 36 (0, 0))) (hAa : UV W fa Aa ca) (hAb : UV W fb Ab cb) : UA W (some ⟨g, 0, none⟩) l4 :=
 have hr : Reps (P.k36.K W) 6 l4 ((((([] : List Value) ++ [.string fa.f0, .int .i64 fa.f1, .bool fa.f2, .int .i64 fa.f3, .string fa.f4, .slice Aa fa.f5.length ca]) ++ [.string fb.f0, .int .i64 fb.f1, .bool fb.f2, .int .i64 fb.f3, .string fb.f4, .slice Ab fb.f5.length cb]) ++ [.string ⟨#[114]⟩, .int .i64 1, .bool false, .int .i64 0, .string ⟨#[192, 3, 95, 214]⟩, .slice none 0 0]) ++ [.string ⟨#[114]⟩, .int .i64 1, .bool false, .int .i64 0, .string ⟨#[192, 3, 95, 214]⟩, .slice none 0 0]) := (((((Reps.none (P.k36.K W) 6).snoc hAa.K rfl).snoc hAb.K rfl).snoc (frK W) rfl).snoc (frK W) rfl)
 C_block (d := P.k36) (xs := l4) h hr (by decide)
theorem uB {W : World} {g : Nat} {Aa Ab : Option Addr} {ca cb : Nat} (h : W.heap[g]? = some (.cells #[.string fc.f0, .int .i64 fc.f1, .bool fc.f2, .int .i64 fc.f3, .string fc.f4, .slice Aa fc.f5.length ca, .string fd.f0, .int .i64 fd.f1, .bool fd.f2, .int .i64 fd.f3, .string fd.f4, .slice Ab fd.f5.length cb] 36 (0, 0))) (hAa : UV W fc Aa ca) (hAb : UV W fd Ab cb) : UA W (some ⟨g, 0, none⟩) l2 :=
 have hr : Reps (P.k36.K W) 6 l2 ((([] : List Value) ++ [.string fc.f0, .int .i64 fc.f1, .bool fc.f2, .int .i64 fc.f3, .string fc.f4, .slice Aa fc.f5.length ca]) ++ [.string fd.f0, .int .i64 fd.f1, .bool fd.f2, .int .i64 fd.f3, .string fd.f4, .slice Ab fd.f5.length cb]) := (((Reps.none (P.k36.K W) 6).snoc hAa.K rfl).snoc hAb.K rfl)
 C_block (d := P.k36) (xs := l2) h hr (by decide)
theorem uC {W : World} {g : Nat} (h : W.heap[g]? = some (.cells #[.string ⟨#[114]⟩, .int .i64 1, .bool false, .int .i64 0, .string ⟨#[192, 3, 95, 214]⟩, .slice none 0 0, .string ⟨#[114]⟩, .int .i64 1, .bool false, .int .i64 0, .string ⟨#[192, 3, 95, 214]⟩, .slice none 0 0] 36 (0, 0))) : UA W (some ⟨g, 0, none⟩) lr :=
 have hr : Reps (P.k36.K W) 6 lr ((([] : List Value) ++ [.string ⟨#[114]⟩, .int .i64 1, .bool false, .int .i64 0, .string ⟨#[192, 3, 95, 214]⟩, .slice none 0 0]) ++ [.string ⟨#[114]⟩, .int .i64 1, .bool false, .int .i64 0, .string ⟨#[192, 3, 95, 214]⟩, .slice none 0 0]) := (((Reps.none (P.k36.K W) 6).snoc (frK W) rfl).snoc (frK W) rfl)
 C_block (d := P.k36) (xs := lr) h hr (by decide)
theorem ok_of {us : List P.S36} (hn : Narrow us) (h : IsU us true) : UOk us := by
 obtain ⟨b, hb, hi⟩ := isU_ends us hn
 exact hi.1 (isU_one hb h)
theorem narrow_of {us : List P.S36} (h : ∀ u ∈ us, u.f5.length ≤ 1) : Narrow us := fun _ i hi => Nat.le_trans (h _ (List.getElem_mem hi)) (by decide)
theorem l4_n : Narrow l4 := narrow_of (by intro u hu; simp [l4, fa, fb, fr] at hu; rcases hu with rfl | rfl | rfl <;> simp)
theorem l2_n : Narrow l2 := narrow_of (by intro u hu; simp [l2, fc, fd] at hu; rcases hu with rfl | rfl <;> simp)
theorem lr_n : Narrow lr := narrow_of (by intro u hu; simp [lr, fr] at hu; rcases hu with rfl <;> simp)
theorem foldA (W : World) (g b : Nat) (Aa Ab : Option Addr) (ca cb : Nat) (hG : Glob W) (h : W.heap[g]? = some (.cells #[.string fa.f0, .int .i64 fa.f1, .bool fa.f2, .int .i64 fa.f3, .string fa.f4, .slice Aa fa.f5.length ca, .string fb.f0, .int .i64 fb.f1, .bool fb.f2, .int .i64 fb.f3, .string fb.f4, .slice Ab fb.f5.length cb, .string ⟨#[114]⟩, .int .i64 1, .bool false, .int .i64 0, .string ⟨#[192, 3, 95, 214]⟩, .slice none 0 0, .string ⟨#[114]⟩, .int .i64 1, .bool false, .int .i64 0, .string ⟨#[192, 3, 95, 214]⟩, .slice none 0 0] 36 (0, 0))) (ha : UV W fa Aa ca) (hb : UV W fb Ab cb) (h2 : W.heap[b]? = some (.cells #[.bool true, .bool true, .bool true, .bool true] 4 (0, 0))) :
 Calls Tryd.prog 13 #[.slice (some ⟨g, 0, none⟩) 4 4, .slice (some ⟨b, 0, none⟩) 4 4] W fun e w' => ∃ pb, e = .returned (.tuple #[.slice (some ⟨pb, 0, none⟩) 4 4, .int .i64 0]) ∧ IB w' pb [0, 0, 2, 2] ∧ Below W.heap.size W w' := by
 refine (fold_any W (some ⟨g, 0, none⟩) (some ⟨b, 0, none⟩) l4 [true, true, true, true] 4 4 hG (uA h ha hb) (by decide) l4_n (by decide) (bools_read (l := [true, true, true, true]) h2 (by decide)) (by decide) (by decide)).mono ?_
 rintro e w' ⟨hbl, ⟨hno, _⟩ | ⟨_, pb, rfl, hL, _⟩⟩
 ·exact absurd ⟨rfl, ok_of l4_n l4_is⟩ hno
 ·rw [l4_fold] at hL
  exact ⟨pb, rfl, hL, hbl⟩
theorem foldB (W : World) (g b : Nat) (Aa Ab : Option Addr) (ca cb : Nat) (hG : Glob W) (h : W.heap[g]? = some (.cells #[.string fc.f0, .int .i64 fc.f1, .bool fc.f2, .int .i64 fc.f3, .string fc.f4, .slice Aa fc.f5.length ca, .string fd.f0, .int .i64 fd.f1, .bool fd.f2, .int .i64 fd.f3, .string fd.f4, .slice Ab fd.f5.length cb] 36 (0, 0))) (ha : UV W fc Aa ca) (hb : UV W fd Ab cb) (h2 : W.heap[b]? = some (.cells #[.bool true, .bool true] 4 (0, 0))) :
 Calls Tryd.prog 13 #[.slice (some ⟨g, 0, none⟩) 2 2, .slice (some ⟨b, 0, none⟩) 2 2] W fun e w' => ∃ pb, e = .returned (.tuple #[.slice (some ⟨pb, 0, none⟩) 2 2, .int .i64 0]) ∧ IB w' pb [0, 0] ∧ Below W.heap.size W w' := by
 refine (fold_any W (some ⟨g, 0, none⟩) (some ⟨b, 0, none⟩) l2 [true, true] 2 2 hG (uB h ha hb) (by decide) l2_n (by decide) (bools_read (l := [true, true]) h2 (by decide)) (by decide) (by decide)).mono ?_
 rintro e w' ⟨hbl, ⟨hno, _⟩ | ⟨_, pb, rfl, hL, _⟩⟩
 ·exact absurd ⟨rfl, ok_of l2_n l2_is⟩ hno
 ·rw [l2_fold] at hL
  exact ⟨pb, rfl, hL, hbl⟩
theorem savedC (W : World) (g b : Nat) (hG : Glob W) (h : W.heap[g]? = some (.cells #[.string ⟨#[114]⟩, .int .i64 1, .bool false, .int .i64 0, .string ⟨#[192, 3, 95, 214]⟩, .slice none 0 0, .string ⟨#[114]⟩, .int .i64 1, .bool false, .int .i64 0, .string ⟨#[192, 3, 95, 214]⟩, .slice none 0 0] 36 (0, 0))) (h2 : W.heap[b]? = some (.cells #[.bool true, .bool true] 4 (0, 0))) :
 Calls Tryd.prog 17 #[.slice (some ⟨g, 0, none⟩) 2 2, .slice (some ⟨b, 0, none⟩) 2 2] W fun e w' => e = .returned (.tuple #[.int .i64 4, .int .i64 0]) ∧ Below W.heap.size W w' := by
 refine (saved_any W (some ⟨g, 0, none⟩) (some ⟨b, 0, none⟩) lr [true, true] 2 2 hG (uC h) (by decide) lr_n (by decide) (bools_read (l := [true, true]) h2 (by decide)) (by decide) (by decide)).mono ?_
 rintro e w' ⟨hbl, ⟨hno, _⟩ | ⟨_, rfl⟩⟩
 ·exact absurd ⟨rfl, ok_of lr_n lr_is⟩ hno
 ·exact ⟨by rw [show savedF lr [true, true] lr.length = 4 from lr_saved]; rfl, hbl⟩
theorem foldD (W : World) (b : Nat) (hG : Glob W) (h2 : W.heap[b]? = some (.cells #[.bool true] 4 (0, 0))) :
 Calls Tryd.prog 13 #[.slice none 0 0, .slice (some ⟨b, 0, none⟩) 1 1] W fun e w' => e = .returned (.tuple #[.slice none 0 0, .int .i64 1]) ∧ Below W.heap.size W w' := by
 refine (fold_any W none (some ⟨b, 0, none⟩) [] [true] 0 1 hG (Kd.C_nil _ _) (by decide) (narrow_of (by simp)) (by decide) (bools_read (l := [true]) h2 (by decide)) (by decide) (by decide)).mono ?_
 rintro e w' ⟨hbl, ⟨_, h⟩ | ⟨h, _⟩⟩
 ·exact ⟨h, hbl⟩
 ·exact absurd h.1 (by decide)
theorem same4 (W : World) (a b : Nat) (ha : IB W a [0, 0, 2, 2]) (hb : W.heap[b]? = some (.cells #[.int .i64 0, .int .i64 0, .int .i64 2, .int .i64 2] 3 (0, 0))) :
 Calls Tryd.prog 35 #[.slice (some ⟨a, 0, none⟩) 4 4, .slice (some ⟨b, 0, none⟩) 4 4] W fun e w' => e = .returned (.bool true) ∧ Below W.heap.size W w' := by
 refine (P.cleatref04_Same.calls 10 (some ⟨a, 0, none⟩) 4 [0, 0, 2, 2] (some ⟨b, 0, none⟩) 4 [0, 0, 2, 2] true W (ha.reads (by decide)) (by decide) (ints_read (l := [0, 0, 2, 2]) hb (by decide)) (by decide) (by kernel_rfl)).mono ?_
 intro e w' h
 exact ⟨h.1, h.2.below⟩
theorem same2 (W : World) (a b : Nat) (ha : IB W a [0, 0]) (hb : W.heap[b]? = some (.cells #[.int .i64 0, .int .i64 0] 3 (0, 0))) :
 Calls Tryd.prog 35 #[.slice (some ⟨a, 0, none⟩) 2 2, .slice (some ⟨b, 0, none⟩) 2 2] W fun e w' => e = .returned (.bool true) ∧ Below W.heap.size W w' := by
 refine (P.cleatref04_Same.calls 10 (some ⟨a, 0, none⟩) 2 [0, 0] (some ⟨b, 0, none⟩) 2 [0, 0] true W (ha.reads (by decide)) (by decide) (ints_read (l := [0, 0]) hb (by decide)) (by decide) (by kernel_rfl)).mono ?_
 intro e w' h
 exact ⟨h.1, h.2.below⟩
theorem alikeR (W : World) : Calls Tryd.prog 36 #[.agg #[.string ⟨#[114]⟩, .int .i64 1, .bool false, .int .i64 0, .string ⟨#[192, 3, 95, 214]⟩, .slice none 0 0], .agg #[.string ⟨#[114]⟩, .int .i64 1, .bool false, .int .i64 0, .string ⟨#[192, 3, 95, 214]⟩, .slice none 0 0]] W fun e w' => e = .returned (.bool true) ∧ Below W.heap.size W w' := by
 have h := alike_calls W fr fr none none 0 0 (Kd.C_nil _ _) (by decide) (Kd.C_nil _ _) (by decide) (by decide)
 rw [show alikeU fr fr = true from decide_eq_true ⟨rfl, rfl, rfl, rfl⟩] at h
 exact h
end Go.Proofs.YtngmipfodjgmmaaDoor.Pure
