/- Walks and plain laws of this claim, a part. -/
import Derived.Test.YtngmipfodjgmmaaDoorSm48
import Derived.Test.YtngmipfodjgmmaaDoorSm47
import Derived.Test.YtngmipfodjgmmaaDoorSm0
import Derived.Test.YtngmipfodjgmmaaDoorSm1
import Derived.Test.YtngmipfodjgmmaaDoorSm11
import Derived.Test.YtngmipfodjgmmaaDoorSm13
import Derived.RangeFuncBox
import Derived.Maps.AppendAt
import Derived.Maps.OwnOps
import Derived.Maps.OwnSet
import Derived.Shelf.Abstract
import Derived.Shelf.RegionOpen
import Derived.WalkKit
import Derived.OwnWalkIn
import Derived.TacticsInMore
import Derived.LoopNIn
import Derived.LoopIn
import Derived.Deep.QuietTactic
import Derived.BigQuiet
import Derived.Test.YtngmipfodjgmmaaDoorSm29
section
namespace Go.Proofs.YtngmipfodjgmmaaDoor.Pure
open Go Go.RowKit Go.Proofs.YtngmipfodjgmmaaDoorW.PrintWords Go.Proofs.YtngmipfodjgmmaaDoorW.PrintLast Go.Proofs.YtngmipfodjgmmaaDoorW.PrintMore
set_option linter.unusedVariables false
set_option linter.unusedSimpArgs false
theorem Ev.plain {α : Type} {c : Option α} {r : α} (h : c = some r) : Ev (fun _ => c) r := ⟨0, fun _ _ => h⟩
theorem is_loop_ends (n : ByteArray) (kd : Int) (keep : Bool) (al : Int) (data : ByteArray) (rels0 rels : List P.S85) (hd : data.size ≤ 4096) (hr : rels.length ≤ 100000) :
    ∀ (j : Nat) (e i : Int), 0 ≤ e → 0 ≤ i → i + j = rels.length → Ends (fun k => P.part_Is.l0 k e rels (rels.length : Int) i n kd keep al data rels0) := by
  intro j
  induction j with
  | zero =>
    intro e i he hi hj
    exact Ends.step (fun k => P.part_Is.l0.eq_2 _ _ _ _ _ _ _ _ _ _ _) (Ends.ite (fun h => absurd h (by omega)) fun _ => Ends.now _)
  | succ j ih =>
    intro e i he hi hj
    have e2 : wrap64 (i + 1) = i + 1 := wrap64_small _ (by omega) (by omega)
    have h4 : ∀ (x6 : Int) (b : Bool) (at_ rk sym add : Int), (x6 = 8 ∧ rk = 1 ∨ x6 = 4) → (b = false → e ≤ at_ ∧ at_ ≤ (data.size : Int) - x6) → Ends (fun k => P.part_Is.j4 k x6 rels (rels.length : Int) i b n kd keep al data rels0 at_ rk sym add) := by
      intro x6 b at_ rk sym add hx hb
      refine Ends.step (fun k => P.part_Is.j4.eq_2 _ _ _ _ _ _ _ _ _ _ _ _ _ _ _ _) (Ends.ite (fun _ => Ends.now _) fun hn => ?_)
      obtain ⟨b1, b2⟩ := hb (by simpa using hn)
      have e3 : wrap64 (at_ + x6) = at_ + x6 := wrap64_small _ (by omega) (by omega)
      refine Ends.ite (fun _ => Ends.ite (fun _ => Ends.ite (fun _ => ?_) fun h => absurd (by omega) h) fun h => absurd (by omega) h) fun h => absurd (by omega) h
      refine Ends.bind (over_ends kd at_ rk sym add _ ?_) fun _ _ => Ends.ite (fun _ => ?_) fun _ => Ends.now _
      · rcases hx with ⟨_, h⟩ | h
        · exact .inl h
        · refine .inr ?_
          rw [ByteArray.size_extract, e3]
          omega
      · rw [e2, e3]
        exact ih (at_ + x6) (i + 1) (by omega) (by omega) (by omega)
    have h3 : ∀ (x6 : Int) (at_ rk sym add : Int), (x6 = 8 ∧ rk = 1 ∨ x6 = 4) → Ends (fun k => P.part_Is.j3 k e x6 rels (rels.length : Int) i n kd keep al data rels0 at_ rk sym add) := by
      intro x6 at_ rk sym add hx
      have e4 : wrap64 ((data.size : Int) - x6) = (data.size : Int) - x6 := wrap64_small _ (by omega) (by omega)
      exact Ends.step (fun k => P.part_Is.j3.eq_2 _ _ _ _ _ _ _ _ _ _ _ _ _ _ _ _) (Ends.ite (fun _ => h4 _ _ _ _ _ _ hx (fun h => by cases h)) fun c1 => Ends.ite (fun _ => h4 _ _ _ _ _ _ hx (fun h => by cases h)) fun c2 => h4 _ _ _ _ _ _ hx (fun _ => by rw [e4] at c2; omega))
    exact Ends.step (fun k => P.part_Is.l0.eq_2 _ _ _ _ _ _ _ _ _ _ _) (Ends.ite (fun _ => Ends.ite (fun _ => Ends.ite (fun _ => Ends.ite (fun c => h3 _ _ _ _ _ (.inl ⟨rfl, c⟩)) fun _ => h3 _ _ _ _ _ (.inr rfl)) fun h => absurd (by omega) h) fun h => absurd hi h) fun h => absurd (by omega) h)
theorem is_section_ends (n : ByteArray) (kd : Int) (keep : Bool) (al : Int) (data : ByteArray) (rels : List P.S85) : Ends (fun k => P.part_Is.f k n kd keep al data rels) := by
  have h1 : ∀ b : Bool, (b = false → data.size ≤ 4096 ∧ rels.length ≤ 64) → Ends (fun k => P.part_Is.j1 k b n kd keep al data rels) := fun b hb =>
    Ends.step (fun k => P.part_Is.j1.eq_2 _ _ _ _ _ _ _ _) (Ends.ite (fun _ => Ends.now _) fun h => by
      obtain ⟨p, q⟩ := hb (by simpa using h)
      exact is_loop_ends n kd keep al data rels rels p (by omega) rels.length 0 0 (by decide) (by decide) (by omega))
  have h0 : ∀ b : Bool, Ends (fun k => P.part_Is.j0 k b n kd keep al data rels) := fun b =>
    Ends.step (fun k => P.part_Is.j0.eq_2 _ _ _ _ _ _ _ _) (Ends.ite (fun _ => Ends.now _) fun _ => Ends.ite (fun _ => h1 _ (fun h => by cases h)) fun c => h1 _ (fun h => ⟨by omega, by have := of_decide_eq_false h; omega⟩))
  exact Ends.bind (name_ends n) fun _ _ => Ends.ite (fun _ => Ends.ite (fun _ => h0 _) fun _ => Ends.ite (fun _ => h0 _) fun _ => Ends.ite (fun _ => h0 _) fun _ => h0 _) fun _ => h0 _
/-- A section's fields. -/
structure Sc where
  n : ByteArray
  kd : Int
  keep : Bool
  al : Int
  data : ByteArray
  rels : List P.S85
def Sc.zero : Sc := ⟨⟨#[]⟩, 0, false, 0, ⟨#[]⟩, []⟩
def IsB (s : Sc) (b : Bool) : Prop := Ev (fun k => P.part_Is.f k s.n s.kd s.keep s.al s.data s.rels) b
theorem isB_one {s : Sc} {a b : Bool} (h : IsB s a) (k : IsB s b) : a = b := Ev.one h k
theorem isB_ends (s : Sc) : ∃ b, IsB s b := is_section_ends s.n s.kd s.keep s.al s.data s.rels
def OverB (kd : Int) (r : P.S85) (d : ByteArray) (b : Bool) : Prop := Ev (fun k => P.part_over.f k kd r.f0 r.f1 r.f2 r.f3 d) b
def szR (r : P.S85) : Int := if r.f1 = 1 then 8 else 4
def RelsOk (kd : Int) (data : ByteArray) : Int → List P.S85 → Prop
  | _, [] => True
  | e, r :: l => e ≤ r.f0 ∧ r.f0 + szR r ≤ data.size ∧ 0 ≤ r.f2 ∧ OverB kd r (data.extract r.f0.toNat (r.f0 + szR r).toNat) true ∧ RelsOk kd data (r.f0 + szR r) l
structure Right (s : Sc) : Prop where
  name : Ev (fun k => P.local_IsName.f k s.n) true
  kind : 1 ≤ s.kd ∧ s.kd ≤ 3
  al : 0 ≤ s.al ∧ s.al ≤ 12
  data : s.data.size ≤ 4096
  rels : s.rels.length ≤ 64
  each : RelsOk s.kd s.data 0 s.rels
end Go.Proofs.YtngmipfodjgmmaaDoor.Pure
end
section
namespace Go.Proofs.YtngmipfodjgmmaaDoor.Pure
open Go Go.RowKit Go.Lib Go.Shelf Go.Proofs.YtngmipfodjgmmaaDoorW.PrintWords Go.Proofs.YtngmipfodjgmmaaDoorW.PrintLast Go.Proofs.YtngmipfodjgmmaaDoorW.PrintMore
set_option linter.unusedVariables false
set_option linter.unusedSimpArgs false
theorem heap_nq {w : World} {a b : Nat} {o p : Obj} (ha : w.heap[a]? = some o) (hb : w.heap[b]? = some p) (h : o ≠ p) : a ≠ b := by
  rintro rfl
  exact h (Option.some.inj (ha.symm.trans hb))
theorem zero_pl (W : World) : (zeroValue 56).run Tryd.prog W = .ok (.agg #[.int .i64 0, .int .i64 0, .int .i64 0]) W := by kernel_rfl
theorem cq3 {w : World} {g t : Nat} {v0 v1 v2 : Value} (h : w.heap[g]? = some (.cells #[v0, v1, v2] t (0, 0))) : w.cell? ⟨g, 0, none⟩ = some v0 ∧ w.cell? ⟨g, 1, none⟩ = some v1 ∧ w.cell? ⟨g, 2, none⟩ = some v2 :=
  ⟨(blk_cell h 0).trans rfl, (blk_cell h 1).trans rfl, (blk_cell h 2).trans rfl⟩
theorem frzq {w : World} {g t : Nat} {vs : Array Value} (h : w.heap[g]? = some (.cells vs t (0, 0))) (i : Nat) : w.frozen? ⟨g, i, none⟩ = false := by simp [World.frozen?, h]
theorem C_blk {α : Type} {d : Kd α} {W : World} {g : Nat} {t : TypeId} {xs : List α} {inner : List Value} (hb : W.heap[g]? = some (.cells inner.toArray t (0, 0))) (hr : Reps (d.K W) d.sz xs inner) (hm : xs.length ≤ maxLen) : d.C W (some ⟨g, 0, none⟩) xs.length xs := by
  have ho : W.ownsRow 0 t d.sz (.slice (some ⟨g, 0, none⟩) xs.length xs.length) xs.length inner := ⟨hr.1, .inr ⟨g, xs.length, inner.toArray, rfl, Nat.zero_le _, hb, Nat.le_refl _, hm, by simpa using hr.1, by rw [← hr.1]; simp⟩⟩
  obtain ⟨A, c, e, h⟩ := own_reads_row ho hr rfl
  cases e
  exact h
end Go.Proofs.YtngmipfodjgmmaaDoor.Pure
end
section
namespace Go.Proofs.YtngmipfodjgmmaaDoor.Pure
open Go Go.RowKit Go.Proofs.YtngmipfodjgmmaaDoorW.PrintWords Go.Proofs.YtngmipfodjgmmaaDoorW.PrintLast Go.Proofs.YtngmipfodjgmmaaDoorW.PrintMore
set_option linter.unusedVariables false
set_option linter.unusedSimpArgs false
abbrev Se := P.S71
abbrev scOf (s : Se) : Sc := ⟨s.f0, s.f1, s.f2, s.f3, s.f4, s.f5⟩
def seN (o : Ob) (i : Nat) : Se := P.rd_T71 o.f0 i
def smN (o : Ob) (k : Nat) : Sy := P.rd_T50 o.f1 k
def Named (s : ByteArray) : Prop := Ev (fun k => P.local_IsName.f k s) true
theorem named_pos {s : ByteArray} (h : Named s) : 0 < s.size := by
  rcases Nat.eq_zero_or_pos s.size with e | e
  · obtain rfl : s = ⟨#[]⟩ := by
      obtain ⟨a⟩ := s
      have : a.size = 0 := e
      rw [Array.size_eq_zero_iff.1 this]
    have h0 : Ev (fun k => P.local_IsName.f k ⟨#[]⟩) false := Ev.of (fun k => P.local_IsName.mono _ k) (k := 60) (by kernel_rfl)
    exact absurd (Ev.one h h0) (by decide)
  · exact e
/-- A symbol of no name that is local: no name is looked at. -/
def skipQ (s : Sy) : Prop := s.f0.size = 0 ∧ s.f1 = 1
def Stands (o : Ob) (s : Sy) : Prop := (s.f2 = -1 ∧ s.f1 ≠ 1 ∧ s.f3 = 0) ∨ (s.f2 ≠ -1 ∧ 0 ≤ s.f2 ∧ s.f2 < o.f0.length ∧ 0 ≤ s.f3 ∧ s.f3 ≤ ((P.rd_T71 o.f0 s.f2).f4.size : Int))
def SecGood (o : Ob) (i : Nat) : Prop := (∀ k, k < i → (seN o k).f0 ≠ (seN o i).f0) ∧ IsB (scOf (seN o i)) true ∧ ∀ j, j < (seN o i).f5.length → (P.rd_T85 (seN o i).f5 j).f2 < o.f1.length
def SymGood (o : Ob) (i : Nat) : Prop := (1 ≤ (smN o i).f1 ∧ (smN o i).f1 ≤ 3) ∧ Stands o (smN o i) ∧ (skipQ (smN o i) ∨ (Named (smN o i).f0 ∧ ∀ k, k < i → ¬ skipQ (smN o k) → (smN o k).f0 ≠ (smN o i).f0))
structure ObOk (o : Ob) : Prop where
  secs : o.f0.length ≤ 32
  syms : o.f1.length ≤ 128
  sec : ∀ i, i < o.f0.length → SecGood o i
  sym : ∀ i, i < o.f1.length → SymGood o i
theorem ObOk.apart {o : Ob} (h : ObOk o) {i k : Nat} (hik : i < k) (hk : k < o.f1.length) (e : (smN o i).f0 = (smN o k).f0) : (smN o k).f0.size = 0 := by
  rcases (h.sym k hk).2.2 with a | ⟨a, b⟩
  · exact a.1
  · refine absurd e (b i hik fun c => ?_)
    have := named_pos a
    rw [← e] at this
    have := c.1
    omega
theorem ObOk.pos {o : Ob} (h : ObOk o) {i : Nat} (hi : i < o.f1.length) (hb : (smN o i).f1 ≠ 1) : 0 < (smN o i).f0.size := by
  rcases (h.sym i hi).2.2 with a | ⟨a, b⟩
  · exact absurd a.2 hb
  · exact named_pos a
theorem ObOk.bind {o : Ob} (h : ObOk o) {i : Nat} (hi : i < o.f1.length) : (smN o i).f1 = 1 ∨ (smN o i).f1 = 2 ∨ (smN o i).f1 = 3 := by
  have := (h.sym i hi).1
  omega
/-- What objects that are looked at are at most. -/
structure FewO (o : Ob) : Prop where
  secs : o.f0.length ≤ 40
  syms : o.f1.length ≤ 140
  sec : ∀ i, i < o.f0.length → (seN o i).f4.size ≤ 5000 ∧ (seN o i).f5.length ≤ 80 ∧ (seN o i).f0.size ≤ 100
  sym : ∀ i, i < o.f1.length → (smN o i).f0.size ≤ 100
def FewL (os : List Ob) : Prop := os.length ≤ 12 ∧ ∀ i, i < os.length → FewO (obN os i)
/-- What 'Check' tells. -/
def AllOkO (os : List Ob) : Prop := os.length ≤ 8 ∧ ∀ i, i < os.length → ObOk (obN os i)
def ChkCode (os : List Ob) (e : Int) : Prop := (8 < os.length ∧ e = 2) ∨ (os.length ≤ 8 ∧ e = 1 ∧ ¬ ∀ i, i < os.length → ObOk (obN os i)) ∨ (AllOkO os ∧ e = 0)
theorem ChkCode.one {os : List Ob} {a b : Int} (h : ChkCode os a) (k : ChkCode os b) : a = b := by
  rcases h with ⟨h1, rfl⟩ | ⟨h1, rfl, h2⟩ | ⟨h1, rfl⟩ <;> rcases k with ⟨k1, rfl⟩ | ⟨k1, rfl, k2⟩ | ⟨k1, rfl⟩ <;> first | rfl | omega | exact absurd k1.2 h2 | exact absurd h1.2 k2 | exact absurd h1.1 (by omega) | exact absurd k1.1 (by omega)
theorem ChkCode.ok {os : List Ob} {a : Int} (h : ChkCode os a) : a = 0 ↔ AllOkO os := by
  rcases h with ⟨h1, rfl⟩ | ⟨h1, rfl, h2⟩ | ⟨h1, rfl⟩
  · exact ⟨fun h => absurd h (by decide), fun h => absurd h.1 (by omega)⟩
  · exact ⟨fun h => absurd h (by decide), fun h => absurd h.2 h2⟩
  · exact ⟨fun _ => h1, fun _ => rfl⟩
end Go.Proofs.YtngmipfodjgmmaaDoor.Pure
end
