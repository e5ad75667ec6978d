/- Walks and plain laws of this claim, a part. -/
import Derived.Test.YtngmipfodjgmmaaGreatDoorSw67
import Derived.Test.YtngmipfodjgmmaaGreatDoorSw68
import Derived.RangeFuncBox
import Derived.Maps.AppendAt
import Derived.Maps.OwnOps
import Derived.Maps.OwnSet
import Derived.Shelf.Abstract
import Derived.Shelf.RegionOpen
import Derived.WalkKit
import Derived.OwnWalkIn
import Derived.TacticsInMore
import Derived.LoopNIn
import Derived.LoopIn
import Derived.Deep.QuietTactic
import Derived.BigQuiet
set_option maxRecDepth 100000
set_option maxHeartbeats 8000000
set_option linter.unusedVariables false
set_option linter.unusedSimpArgs false
section
namespace Go.Proofs.YtngmipfodjgmmaaGreatDoor.Pure
open Go Go.RowKit Go.Lib Go.Shelf YtngmipfodjgmmaaGreatDoorW.PrintWords YtngmipfodjgmmaaGreatDoorW.PrintLast YtngmipfodjgmmaaGreatDoorW.PrintMore
theorem ris_sec (s : Sc) (A : Option Addr) (c : Nat) (w : World) (hc : s.rels.length ≤ c) (hr : Kd.C P.k98 w A s.rels.length s.rels) :
 Calls Tryz.prog 60 #[.agg #[.string s.n, .int .i64 s.kd, .bool s.keep, .int .i64 s.al, .string s.data, .slice A s.rels.length c]] w (RIsPost s w) := by
 have HR := Azz.mk hr
 obtain ⟨nb, ⟨K, hK⟩, hn2⟩ := names_one s.n
 have HNm := Azz.mk (fun W => P.cleatref14_IsName.calls K _ nb W (hK K (Nat.le_refl _)))
 have HN2 := Azz.mk hn2
 have no : ¬ Right s → ∀ w', Below w.heap.size w w' → RIsPost s w (.returned (.bool false)) w' := fun h w' hb => ⟨false, rfl, isB_no h, hb⟩
 have HNo := Azz.mk no
 clear hr hK hn2 no
 go_enter Tryz.func60, Tryz.ntmps60
 go_wp2_with fail
 (with_reducible refine (HNm.out _).mono ?_)
 rintro en w1 ⟨rfl, hb⟩
 have HX := Azz.mk (kBB (blk_new w (.cells #[.string s.n, .int .i64 s.kd, .bool s.keep, .int .i64 s.al, .string s.data, .slice A s.rels.length c] 64)) hb)
 have HB := Azz.mk (bTT ((Below.refl _ w).alloc (Nat.le_refl _) _) hb)
 obtain ⟨z0, z1, z2, z3, z4, z5⟩ := cl6 HX.out
 clear hb HNm
 cases nb with
 | false =>
  go_wp2
  go_ret
  exact HNo.out (fun h => absurd (Ev.one h.name HN2.out) (by decide)) _ HB.out
 | true =>
  by_cases c0 : s.kd < 1
  ·have b0 : decide (s.kd < 1) = true := decide_eq_true c0
   have HC := Azz.mk c0
   clear c0
   go_wp2
   go_ret
   exact HNo.out (fun h => by have := h.kind.1; have := HC.out; omega) _ HB.out
  have b0 : decide (s.kd < 1) = false := decide_eq_false c0
  have HC0 := Azz.mk c0
  clear c0
  by_cases c1 : 3 < s.kd
  ·have b1 : decide (3 < s.kd) = true := decide_eq_true c1
   have HC := Azz.mk c1
   clear c1
   go_wp2
   go_ret
   exact HNo.out (fun h => by have := h.kind.2; have := HC.out; omega) _ HB.out
  have b1 : decide (3 < s.kd) = false := decide_eq_false c1
  have HC1 := Azz.mk c1
  clear c1
  by_cases c2 : s.al < 0
  ·have b2 : decide (s.al < 0) = true := decide_eq_true c2
   have HC := Azz.mk c2
   clear c2
   go_wp2
   go_ret
   exact HNo.out (fun h => by have := h.al.1; have := HC.out; omega) _ HB.out
  have b2 : decide (s.al < 0) = false := decide_eq_false c2
  have HC2 := Azz.mk c2
  clear c2
  by_cases c3 : 12 < s.al
  ·have b3 : decide (12 < s.al) = true := decide_eq_true c3
   have HC := Azz.mk c3
   clear c3
   go_wp2
   go_ret
   exact HNo.out (fun h => by have := h.al.2; have := HC.out; omega) _ HB.out
  have b3 : decide (12 < s.al) = false := decide_eq_false c3
  have HC3 := Azz.mk c3
  clear c3
  by_cases c4 : (4096 : Int) < (s.data.size : Int)
  ·have b4 : decide ((4096 : Int) < (s.data.size : Int)) = true := decide_eq_true c4
   have HC := Azz.mk c4
   clear c4
   go_wp2
   go_ret
   exact HNo.out (fun h => by have := h.data; have := HC.out; omega) _ HB.out
  have b4 : decide ((4096 : Int) < (s.data.size : Int)) = false := decide_eq_false c4
  have HC4 := Azz.mk c4
  clear c4
  by_cases c5 : (64 : Int) < (s.rels.length : Int)
  ·have b5 : decide ((64 : Int) < (s.rels.length : Int)) = true := decide_eq_true c5
   have HC := Azz.mk c5
   clear c5
   go_wp2
   go_ret
   exact HNo.out (fun h => by have := h.rels; have := HC.out; omega) _ HB.out
  have b5 : decide ((64 : Int) < (s.rels.length : Int)) = false := decide_eq_false c5
  have HC5 := Azz.mk c5
  clear c5
  go_wp2
  clear z0 z1 z2 z3 z4 z5
  go_loopw [3, 4] (fun v3 v4 wr => ∃ (i : Nat) (e : Int), i ≤ s.rels.length ∧ v4 = .int .i64 i ∧ v3 = .int .i64 e ∧ Azz ((0 ≤ e ∧ e ≤ 4096) ∧ (RelsOk s.kd s.data 0 s.rels ↔ RelsOk s.kd s.data e (s.rels.drop i))) ∧ Azz (wr.heap[w.heap.size]? = some (.cells #[.string s.n, .int .i64 s.kd, .bool s.keep, .int .i64 s.al, .string s.data, .slice A s.rels.length c] 64 (0, 0))) ∧ Azz (Below w.heap.size w wr)) (fun _ v _ => s.rels.length - (RowKit.intOf v).toNat)
  case atStart => exact ⟨0, 0, Nat.zero_le _, rfl, rfl, ⟨⟨by decide, by decide⟩, by rw [List.drop_zero]⟩, HX, HB⟩
  case round =>
   clear HX HB
   obtain ⟨i, e, hi, rfl, rfl, HE, HX, HB⟩ := hrel
   obtain ⟨z0, z1, z2, z3, z4, z5⟩ := cl6 HX.out
   have HL := Azz.mk (show s.rels.length ≤ 64 by have := HC5.out; omega)
   by_cases hlt : i < s.rels.length
   ·obtain ⟨ad, ea, y0, y1, y2, y3⟩ := P.at_T98 (Kd.C_below HR.out HB.out) i (by omega) (by omega)
    subst ea
    rw [Int.toNat_natCast] at y0 y1 y2 y3
    have hdr := rd_drop s.rels i hlt
    obtain ⟨r, hr⟩ : ∃ r, P.rd_T98 s.rels i = r := ⟨_, rfl⟩
    rw [hr] at y0 y1 y2 y3 hdr
    have HDr := Azz.mk hdr
    have HRl := Azz.mk (rrel_any s r e HE.out.1.1 (by have := HC4.out; omega) (some ad) c)
    have HSz := Azz.mk (rsize_calls r.f1)
    have i0 : (0 : Int) ≤ (i : Int) := by omega
    have i1 : (i : Int) < s.rels.length := by omega
    clear hr hdr
    go_wp2
    go_region_held3 (fun w' => w'.cell? ⟨w.heap.size, 0, none⟩ = some (.string s.n) ∧ w'.cell? ⟨w.heap.size, 1, none⟩ = some (.int .i64 s.kd) ∧ w'.cell? ⟨w.heap.size, 2, none⟩ = some (.bool s.keep) ∧ w'.cell? ⟨w.heap.size, 3, none⟩ = some (.int .i64 s.al) ∧ w'.cell? ⟨w.heap.size, 4, none⟩ = some (.string s.data) ∧ w'.cell? ⟨w.heap.size, 5, none⟩ = some (.slice (some ad) s.rels.length c) ∧ w'.cell? (ad.add (i * 4)) = some (.int .i64 r.f0) ∧ w'.cell? ⟨(ad.add (i * 4)).block, (ad.add (i * 4)).off + 1, none⟩ = some (.int .i64 r.f1) ∧ w'.cell? ⟨(ad.add (i * 4)).block, (ad.add (i * 4)).off + 2, none⟩ = some (.int .i64 r.f2) ∧ w'.cell? ⟨(ad.add (i * 4)).block, (ad.add (i * 4)).off + 3, none⟩ = some (.int .i64 r.f3)) (first | go_keep | exact kp10 (by assumption) hb) (first | (go_at_call 72; (with_reducible refine (HRl.out _).mono ?_); rintro en w2 ⟨b, rfl, hgood, hb⟩; (have HGd := Azz.mk hgood)))
    have hb1 := (show Below wr.heap.size wr w2 from bTT (by repeat (first | exact Below.refl _ _ | apply bDD | apply bNN)) hb)
    have HX2 := Azz.mk (kBB HX.out hb1)
    have HB2 := Azz.mk (bTT HB.out hb1)
    replace y0 := kp1 y0 hb1
    replace y1 := kp1 y1 hb1
    clear hb hb1 HX HB z0 z1 z2 z3 z4 z5 y2 y3 HRl hgood
    cases b with
    | false =>
     go_wp2
     go_ret
     refine HNo.out (fun h => ?_) _ HB2.out
     have h2 := HE.out.2.1 h.each
     rw [HDr.out] at h2
     obtain ⟨a1, a2, a3, a4, _⟩ := h2
     exact absurd (HGd.out.2 ⟨a1, a2, a3, a4⟩) (by decide)
    | true =>
     obtain ⟨z0, z1, z2, z3, z4, z5⟩ := cl6 HX2.out
     clear z0 z1 z2 z3 z4
     have hL64 := HL.out
     go_wp2
     repeat (go_quiet (first | (go_at_call 73; (with_reducible refine (HSz.out _).mono ?_); rintro e w' ⟨rfl, ⟨nd, rfl⟩⟩; (try first | exact ⟨rfl, _, World.drewN_drewN _ _ _⟩ | exact ⟨rfl, _, Eq.trans (World.drewN_drewN _ _ _) (congrArg (World.drewN _) (Nat.add_assoc _ _ _))⟩))); try go_wp2)
     obtain ⟨g1, g2, g3, g4⟩ : RelGood s r e := by simpa using HGd.out
     have hsz := sz_pos r
     have he0 := HE.out.1.1
     have ew : wrap64 (r.f0 + (if r.f1 = 1 then 8 else 4)) = r.f0 + szR r := by
      show wrap64 (r.f0 + szR r) = r.f0 + szR r
      have := HC4.out
      exact wrap64_small _ (by omega) (by omega)
     have HEw := Azz.mk ew
     have HG := Azz.mk (And.intro g1 (And.intro g2 (And.intro g3 g4)))
     clear g1 g2 g3 g4 hsz he0 ew
     go_roundw
     case rel =>
      obtain ⟨g1, g2, g3, g4⟩ := HG.out
      refine ⟨i + 1, r.f0 + szR r, by omega, by go_num, congrArg _ HEw.out, ⟨⟨?_, ?_⟩, ?_⟩, ⟨HX2.out⟩, ⟨bNN HB2.out _⟩⟩
      ·have := sz_pos r
       have := HE.out.1.1
       omega
      ·have := HC4.out
       omega
      ·rw [HE.out.2, HDr.out]
       exact ⟨fun h => h.2.2.2.2, fun h => ⟨g1, g2, g3, g4, h⟩⟩
     case measure => simp [RowKit.intOf]; omega
   ·obtain rfl : i = s.rels.length := by omega
    go_wp2
    go_ret
    refine ⟨true, rfl, (is_iff s).2 ⟨HN2.out, ⟨by have := HC0.out; omega, by have := HC1.out; omega⟩, ⟨by have := HC2.out; omega, by have := HC3.out; omega⟩, by have := HC4.out; omega, HL.out, HE.out.2.2 ?_⟩, HB.out⟩
    rw [List.drop_length]
    trivial
end Go.Proofs.YtngmipfodjgmmaaGreatDoor.Pure
end
section
namespace Go.Proofs.YtngmipfodjgmmaaGreatDoor.Pure
open Go Go.RowKit YtngmipfodjgmmaaGreatDoorW.PrintWords YtngmipfodjgmmaaGreatDoorW.PrintLast YtngmipfodjgmmaaGreatDoorW.PrintMore
abbrev Sy := P.S85
abbrev Ob := P.S68
abbrev Tg := Nat × Nat × Sy
abbrev Pl := P.S49
def obN (os : List Ob) (o : Nat) : Ob := P.rd_T68 os o
def syN (os : List Ob) (o k : Nat) : Sy := P.rd_T85 (obN os o).f1 k
def nsy (os : List Ob) (o : Nat) : Nat := (obN os o).f1.length
def rowS (os : List Ob) (o k : Nat) : List Tg := (List.range k).map fun j => (o, j, syN os o j)
def flatS (os : List Ob) : Nat → List Tg
 | 0 => []
 | o + 1 => flatS os o ++ rowS os o (nsy os o)
/-- The symbols ahead of symbol k of object o. -/
def preS (os : List Ob) (o k : Nat) : List Tg := flatS os o ++ rowS os o k
theorem preS_succ (os : List Ob) (o k : Nat) : preS os o (k + 1) = preS os o k ++ [(o, k, syN os o k)] := by
 unfold preS rowS
 rw [List.range_succ, List.map_append, List.append_assoc]
 rfl
theorem preS_next (os : List Ob) (o : Nat) : preS os (o + 1) 0 = preS os o (nsy os o) := by
 unfold preS
 simp [rowS, flatS]
def strongQ (s : Sy) : Bool := decide (s.f1 = 2 ∧ 0 ≤ s.f2)
def weakQ (s : Sy) : Bool := decide (s.f1 = 3 ∧ 0 ≤ s.f2)
def plOf (t : Tg) : Pl := ⟨t.1, t.2.2.f2, t.2.2.f3⟩
def hit (q : Sy → Bool) (n : ByteArray) (t : Tg) : Bool := q t.2.2 && decide (t.2.2.f0 = n)
/-- The first symbol of a name and a kind. -/
def firstS (q : Sy → Bool) (L : List Tg) (n : ByteArray) : Option Tg := L.find? (hit q n)
theorem firstS_snoc (q : Sy → Bool) (L : List Tg) (t : Tg) (n : ByteArray) : firstS q (L ++ [t]) n = (firstS q L n).or (if hit q n t then some t else none) := by
 unfold firstS
 rw [List.find?_append]
 congr 1
 cases h : hit q n t <;> simp [List.find?, h]
theorem firstS_snoc_no {q : Sy → Bool} {L : List Tg} {t : Tg} (h : q t.2.2 = false) (n : ByteArray) : firstS q (L ++ [t]) n = firstS q L n := by
 rw [firstS_snoc]
 simp [hit, h]
theorem firstS_snoc_old {q : Sy → Bool} {L : List Tg} {t u : Tg} {n : ByteArray} (h : firstS q L n = some u) : firstS q (L ++ [t]) n = some u := by
 rw [firstS_snoc, h]
 rfl
theorem firstS_snoc_other {q : Sy → Bool} {L : List Tg} {t : Tg} {n : ByteArray} (h : t.2.2.f0 ≠ n) : firstS q (L ++ [t]) n = firstS q L n := by
 rw [firstS_snoc]
 simp [hit, h]
theorem firstS_snoc_new {q : Sy → Bool} {L : List Tg} {t : Tg} (h : firstS q L t.2.2.f0 = none) (hq : q t.2.2 = true) : firstS q (L ++ [t]) t.2.2.f0 = some t := by
 rw [firstS_snoc, h]
 simp [hit, hq]
theorem firstS_some {q : Sy → Bool} {L : List Tg} {n : ByteArray} {t : Tg} (h : firstS q L n = some t) : t ∈ L ∧ q t.2.2 = true ∧ t.2.2.f0 = n := by
 have h1 := List.mem_of_find?_eq_some h
 have h2 := List.find?_some h
 unfold hit at h2
 rw [Bool.and_eq_true, decide_eq_true_iff] at h2
 exact ⟨h1, h2⟩
theorem firstS_none {q : Sy → Bool} {L : List Tg} {n : ByteArray} (h : firstS q L n = none) : ∀ t ∈ L, q t.2.2 = true → t.2.2.f0 ≠ n := by
 intro t ht hq e
 have := List.find?_eq_none.1 h t ht
 simp [hit, hq, e] at this
theorem firstS_is {q : Sy → Bool} {L : List Tg} {n : ByteArray} {t : Tg} (ht : t ∈ L) (hq : q t.2.2 = true) (he : t.2.2.f0 = n) : ∃ u, firstS q L n = some u := by
 cases h : firstS q L n with
 | none => exact absurd he (firstS_none h t ht hq)
 | some u => exact ⟨u, rfl⟩
/-- All symbols. -/
def allS (os : List Ob) : List Tg := flatS os os.length
theorem allS_pre (os : List Ob) : allS os = preS os os.length 0 := by simp [allS, preS, rowS]
theorem mem_row {os : List Ob} {o k : Nat} {t : Tg} : t ∈ rowS os o k ↔ ∃ j, j < k ∧ t = (o, j, syN os o j) := by
 unfold rowS
 rw [List.mem_map]
 constructor
 ·rintro ⟨j, hj, rfl⟩
  exact ⟨j, List.mem_range.1 hj, rfl⟩
 ·rintro ⟨j, hj, rfl⟩
  exact ⟨j, List.mem_range.2 hj, rfl⟩
theorem mem_flat {os : List Ob} {o : Nat} {t : Tg} : t ∈ flatS os o ↔ ∃ i j, i < o ∧ j < nsy os i ∧ t = (i, j, syN os i j) := by
 induction o with
 | zero => exact ⟨fun h => (by cases h), fun ⟨i, j, h, _⟩ => absurd h (Nat.not_lt_zero _)⟩
 | succ o ih =>
  show t ∈ flatS os o ++ rowS os o (nsy os o) ↔ _
  rw [List.mem_append, ih, mem_row]
  constructor
  ·rintro (⟨i, j, h1, h2, h3⟩ | ⟨j, h1, h2⟩)
   ·exact ⟨i, j, by omega, h2, h3⟩
   ·exact ⟨o, j, by omega, h1, h2⟩
  ·rintro ⟨i, j, h1, h2, h3⟩
   by_cases c : i < o
   ·exact .inl ⟨i, j, c, h2, h3⟩
   ·obtain rfl : i = o := by omega
    exact .inr ⟨j, h2, h3⟩
theorem mem_pre {os : List Ob} {o k : Nat} {t : Tg} : t ∈ preS os o k ↔ (∃ i j, i < o ∧ j < nsy os i ∧ t = (i, j, syN os i j)) ∨ ∃ j, j < k ∧ t = (o, j, syN os o j) := by
 unfold preS
 rw [List.mem_append, mem_flat, mem_row]
theorem mem_all {os : List Ob} {t : Tg} : t ∈ allS os ↔ ∃ i j, i < os.length ∧ j < nsy os i ∧ t = (i, j, syN os i j) := mem_flat
theorem preS_len {os : List Ob} {m : Nat} (h : ∀ i, i < os.length → nsy os i ≤ m) : ∀ i, i ≤ os.length → (flatS os i).length ≤ i * m
 | 0, _ => by simp [flatS]
 | i + 1, hi => by
  have := preS_len h i (by omega)
  show (flatS os i ++ rowS os i (nsy os i)).length ≤ _
  rw [List.length_append, Nat.succ_mul]
  have h2 : (rowS os i (nsy os i)).length = nsy os i := by simp [rowS]
  have := h i (by omega)
  omega
/-- The place of a name: of the first strong one, or else of the first weak one. -/
def placeT (os : List Ob) (n : ByteArray) : Option Tg := (firstS strongQ (allS os) n).or (firstS weakQ (allS os) n)
def placeS (os : List Ob) (n : ByteArray) : Option Pl := (placeT os n).map plOf
/-- A strong name that is there already. -/
def Tw (A : List Tg) (s : Sy) : Prop := strongQ s = true ∧ ∃ u, firstS strongQ A s.f0 = some u
/-- A name that is nowhere. -/
def Lost (os : List Ob) (s : Sy) : Prop := s.f1 ≠ 1 ∧ placeT os s.f0 = none
def LexLt (i j o k : Nat) : Prop := i < o ∨ (i = o ∧ j < k)
theorem LexLt.tri (i j o k : Nat) : LexLt i j o k ∨ (i = o ∧ j = k) ∨ LexLt o k i j := by unfold LexLt; omega
def NoTw (os : List Ob) (o k : Nat) : Prop := ∀ i j, LexLt i j o k → j < nsy os i → ¬ Tw (preS os i j) (syN os i j)
def NoLost (os : List Ob) (o k : Nat) : Prop := ∀ i j, LexLt i j o k → j < nsy os i → ¬ Lost os (syN os i j)
theorem lex_succ {p : Nat → Nat → Prop} {n : Nat → Nat} {o k : Nat} (h : ∀ i j, LexLt i j o k → j < n i → p i j) (hk : p o k) : ∀ i j, LexLt i j o (k + 1) → j < n i → p i j := by
 intro i j hl hj
 rcases hl with hl | ⟨rfl, hl⟩
 ·exact h i j (.inl hl) hj
 ·rcases Nat.lt_or_ge j k with c | c
  ·exact h i j (.inr ⟨rfl, c⟩) hj
  ·obtain rfl : j = k := by omega
   exact hk
theorem lex_next {p : Nat → Nat → Prop} {n : Nat → Nat} {o : Nat} (h : ∀ i j, LexLt i j o (n o) → j < n i → p i j) : ∀ i j, LexLt i j (o + 1) 0 → j < n i → p i j := by
 intro i j hl hj
 rcases hl with hl | ⟨rfl, hl⟩
 ·by_cases c : i < o
  ·exact h i j (.inl c) hj
  ·obtain rfl : i = o := by omega
   exact h i j (.inr ⟨rfl, hj⟩) hj
 ·omega
theorem lex_zero {p : Nat → Nat → Prop} {n : Nat → Nat} : ∀ i j, LexLt i j 0 0 → j < n i → p i j := fun i j h => absurd h (by unfold LexLt; omega)
/-- The first fault of a kind. -/
def AtTw (os : List Ob) (o k : Nat) : Prop := o < os.length ∧ k < nsy os o ∧ Tw (preS os o k) (syN os o k) ∧ NoTw os o k
def AtLost (os : List Ob) (o k : Nat) : Prop := o < os.length ∧ k < nsy os o ∧ Lost os (syN os o k) ∧ NoLost os o k
theorem AtTw.one {os : List Ob} {o k i j : Nat} (h : AtTw os o k) (g : AtTw os i j) : o = i ∧ k = j := by
 rcases LexLt.tri o k i j with c | ⟨a, b⟩ | c
 ·exact absurd h.2.2.1 (g.2.2.2 o k c h.2.1)
 ·exact ⟨a, b⟩
 ·exact absurd g.2.2.1 (h.2.2.2 i j c g.2.1)
theorem AtLost.one {os : List Ob} {o k i j : Nat} (h : AtLost os o k) (g : AtLost os i j) : o = i ∧ k = j := by
 rcases LexLt.tri o k i j with c | ⟨a, b⟩ | c
 ·exact absurd h.2.2.1 (g.2.2.2 o k c h.2.1)
 ·exact ⟨a, b⟩
 ·exact absurd g.2.2.1 (h.2.2.2 i j c g.2.1)
/-- The place of a symbol. -/
def plS (os : List Ob) (o k : Nat) : Pl := if (syN os o k).f1 = 1 then ⟨o, (syN os o k).f2, (syN os o k).f3⟩ else (placeS os (syN os o k).f0).getD ⟨0, 0, 0⟩
def plRow (os : List Ob) (o k : Nat) : List Pl := (List.range k).map (plS os o)
theorem plRow_succ (os : List Ob) (o k : Nat) : plRow os o (k + 1) = plRow os o k ++ [plS os o k] := by
 unfold plRow
 rw [List.range_succ, List.map_append]
 rfl
theorem plRow_length (os : List Ob) (o k : Nat) : (plRow os o k).length = k := by simp [plRow]
end Go.Proofs.YtngmipfodjgmmaaGreatDoor.Pure
end
section
namespace Go.Proofs.YtngmipfodjgmmaaGreatDoor.Pure
open Go Go.RowKit Go.Lib Go.Shelf YtngmipfodjgmmaaGreatDoorW.PrintWords YtngmipfodjgmmaaGreatDoorW.PrintLast YtngmipfodjgmmaaGreatDoorW.PrintMore
theorem heap_nq {w : World} {a b : Nat} {o p : Obj} (ha : w.heap[a]? = some o) (hb : w.heap[b]? = some p) (h : o ≠ p) : a ≠ b := by
 rintro rfl
 exact h (Option.some.inj (ha.symm.trans hb))
theorem zero_pl (W : World) : (zeroValue 49).run Tryz.prog W = .ok (.agg #[.int .i64 0, .int .i64 0, .int .i64 0]) W := by kernel_rfl
theorem cq3 {w : World} {g t : Nat} {v0 v1 v2 : Value} (h : w.heap[g]? = some (.cells #[v0, v1, v2] t (0, 0))) : w.cell? ⟨g, 0, none⟩ = some v0 ∧ w.cell? ⟨g, 1, none⟩ = some v1 ∧ w.cell? ⟨g, 2, none⟩ = some v2 :=
 ⟨(kCC h 0).trans rfl, (kCC h 1).trans rfl, (kCC h 2).trans rfl⟩
theorem frzq {w : World} {g t : Nat} {vs : Array Value} (h : w.heap[g]? = some (.cells vs t (0, 0))) (i : Nat) : w.frozen? ⟨g, i, none⟩ = false := by simp [World.frozen?, h]
theorem C_blk {α : Type} {d : Kd α} {W : World} {g : Nat} {t : TypeId} {xs : List α} {inner : List Value} (hb : W.heap[g]? = some (.cells inner.toArray t (0, 0))) (hr : Reps (d.K W) d.sz xs inner) (hm : xs.length ≤ maxLen) : d.C W (some ⟨g, 0, none⟩) xs.length xs := by
 have ho : W.ownsRow 0 t d.sz (.slice (some ⟨g, 0, none⟩) xs.length xs.length) xs.length inner := ⟨hr.1, .inr ⟨g, xs.length, inner.toArray, rfl, Nat.zero_le _, hb, Nat.le_refl _, hm, by simpa using hr.1, by rw [← hr.1]; simp⟩⟩
 obtain ⟨A, c, e, h⟩ := own_reads_row ho hr rfl
 cases e
 exact h
end Go.Proofs.YtngmipfodjgmmaaGreatDoor.Pure
end
section
namespace Go.Proofs.YtngmipfodjgmmaaGreatDoor.Pure
open Go Go.RowKit YtngmipfodjgmmaaGreatDoorW.PrintWords YtngmipfodjgmmaaGreatDoorW.PrintLast YtngmipfodjgmmaaGreatDoorW.PrintMore
abbrev Se := P.S64
abbrev scOf (s : Se) : Sc := ⟨s.f0, s.f1, s.f2, s.f3, s.f4, s.f5⟩
def seN (o : Ob) (i : Nat) : Se := P.rd_T64 o.f0 i
def smN (o : Ob) (k : Nat) : Sy := P.rd_T85 o.f1 k
def Named (s : ByteArray) : Prop := Ev (fun k => P.local_IsName.f k s) true
theorem named_pos {s : ByteArray} (h : Named s) : 0 < s.size := by
 rcases Nat.eq_zero_or_pos s.size with e | e
 ·obtain rfl : s = ⟨#[]⟩ := by
   obtain ⟨a⟩ := s
   have : a.size = 0 := e
   rw [Array.size_eq_zero_iff.1 this]
  have h0 : Ev (fun k => P.local_IsName.f k ⟨#[]⟩) false := Ev.of (fun k => P.local_IsName.mono _ k) (k := 60) (by kernel_rfl)
  exact absurd (Ev.one h h0) (by decide)
 ·exact e
/-- A symbol of no name that is local: no name is looked at. -/
def skipQ (s : Sy) : Prop := s.f0.size = 0 ∧ s.f1 = 1
def Stands (o : Ob) (s : Sy) : Prop := (s.f2 = -1 ∧ s.f1 ≠ 1 ∧ s.f3 = 0) ∨ (s.f2 ≠ -1 ∧ 0 ≤ s.f2 ∧ s.f2 < o.f0.length ∧ 0 ≤ s.f3 ∧ s.f3 ≤ ((P.rd_T64 o.f0 s.f2).f4.size : Int))
def SecGood (o : Ob) (i : Nat) : Prop := (∀ k, k < i → (seN o k).f0 ≠ (seN o i).f0) ∧ IsB (scOf (seN o i)) true ∧ ∀ j, j < (seN o i).f5.length → (P.rd_T98 (seN o i).f5 j).f2 < o.f1.length
def SymGood (o : Ob) (i : Nat) : Prop := (1 ≤ (smN o i).f1 ∧ (smN o i).f1 ≤ 3) ∧ Stands o (smN o i) ∧ (skipQ (smN o i) ∨ (Named (smN o i).f0 ∧ ∀ k, k < i → ¬ skipQ (smN o k) → (smN o k).f0 ≠ (smN o i).f0))
structure ObOk (o : Ob) : Prop where
 secs : o.f0.length ≤ 32
 syms : o.f1.length ≤ 128
 sec : ∀ i, i < o.f0.length → SecGood o i
 sym : ∀ i, i < o.f1.length → SymGood o i
theorem ObOk.apart {o : Ob} (h : ObOk o) {i k : Nat} (hik : i < k) (hk : k < o.f1.length) (e : (smN o i).f0 = (smN o k).f0) : (smN o k).f0.size = 0 := by
 rcases (h.sym k hk).2.2 with a | ⟨a, b⟩
 ·exact a.1
 ·refine absurd e (b i hik fun c => ?_)
  have := named_pos a
  rw [← e] at this
  have := c.1
  omega
theorem ObOk.unique {o : Ob} (h : ObOk o) {i k : Nat} (hi : i < o.f1.length) (hk : k < o.f1.length) (e : (smN o i).f0 = (smN o k).f0) (hp : 0 < (smN o i).f0.size) : i = k := by
 rcases Nat.lt_trichotomy i k with c | c | c
 ·have := h.apart c hk e
  rw [← e] at this
  omega
 ·exact c
 ·have := h.apart c hi e.symm
  omega
theorem ObOk.pos {o : Ob} (h : ObOk o) {i : Nat} (hi : i < o.f1.length) (hb : (smN o i).f1 ≠ 1) : 0 < (smN o i).f0.size := by
 rcases (h.sym i hi).2.2 with a | ⟨a, b⟩
 ·exact absurd a.2 hb
 ·exact named_pos a
theorem ObOk.bind {o : Ob} (h : ObOk o) {i : Nat} (hi : i < o.f1.length) : (smN o i).f1 = 1 ∨ (smN o i).f1 = 2 ∨ (smN o i).f1 = 3 := by
 have := (h.sym i hi).1
 omega
/-- What objects that are looked at are at most. -/
structure FewO (o : Ob) : Prop where
 secs : o.f0.length ≤ 40
 syms : o.f1.length ≤ 140
 sec : ∀ i, i < o.f0.length → (seN o i).f4.size ≤ 5000 ∧ (seN o i).f5.length ≤ 80 ∧ (seN o i).f0.size ≤ 100
 sym : ∀ i, i < o.f1.length → (smN o i).f0.size ≤ 100
def FewL (os : List Ob) : Prop := os.length ≤ 12 ∧ ∀ i, i < os.length → FewO (obN os i)
/-- What 'Check' tells. -/
def AllOkO (os : List Ob) : Prop := os.length ≤ 8 ∧ ∀ i, i < os.length → ObOk (obN os i)
def ChkCode (os : List Ob) (e : Int) : Prop := (8 < os.length ∧ e = 2) ∨ (os.length ≤ 8 ∧ e = 1 ∧ ¬ ∀ i, i < os.length → ObOk (obN os i)) ∨ (AllOkO os ∧ e = 0)
theorem ChkCode.one {os : List Ob} {a b : Int} (h : ChkCode os a) (k : ChkCode os b) : a = b := by
 rcases h with ⟨h1, rfl⟩ | ⟨h1, rfl, h2⟩ | ⟨h1, rfl⟩ <;> rcases k with ⟨k1, rfl⟩ | ⟨k1, rfl, k2⟩ | ⟨k1, rfl⟩ <;> first | rfl | omega | exact absurd k1.2 h2 | exact absurd h1.2 k2 | exact absurd h1.1 (by omega) | exact absurd k1.1 (by omega)
theorem ChkCode.ok {os : List Ob} {a : Int} (h : ChkCode os a) : a = 0 ↔ AllOkO os := by
 rcases h with ⟨h1, rfl⟩ | ⟨h1, rfl, h2⟩ | ⟨h1, rfl⟩
 ·exact ⟨fun h => absurd h (by decide), fun h => absurd h.1 (by omega)⟩
 ·exact ⟨fun h => absurd h (by decide), fun h => absurd h.2 h2⟩
 ·exact ⟨fun _ => h1, fun _ => rfl⟩
end Go.Proofs.YtngmipfodjgmmaaGreatDoor.Pure
end
