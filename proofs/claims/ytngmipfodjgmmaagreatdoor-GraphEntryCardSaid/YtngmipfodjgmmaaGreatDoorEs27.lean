/- Walks and plain laws of this claim, a part. -/
import Derived.Test.YtngmipfodjgmmaaGreatDoorEs25
section
namespace Go.Proofs.YtngmipfodjgmmaaGreatDoor.Opens
open Go Go.RowKit Go.Joins Go.ChangeShapes Go.WideShapes Go.Deep Go.Proofs.YtngmipfodjgmmaaGreatDoorW.PrintWords Go.Proofs.YtngmipfodjgmmaaGreatDoorW.PrintLast Go.Proofs.YtngmipfodjgmmaaGreatDoorW.PrintMore
set_option linter.unusedVariables false
theorem c_rel : Tryz.prog.cellsOf 98 = 4 := by kernel_rfl
theorem c_sec : Tryz.prog.cellsOf 64 = 6 := by kernel_rfl
theorem c_sym : Tryz.prog.cellsOf 85 = 4 := by kernel_rfl
theorem c_obj : Tryz.prog.cellsOf 68 = 2 := by kernel_rfl
theorem c_rels : Tryz.prog.cellsOf 62 = 1 := by kernel_rfl
theorem c_secs : Tryz.prog.cellsOf 65 = 1 := by kernel_rfl
theorem c_syms : Tryz.prog.cellsOf 66 = 1 := by kernel_rfl
section
variable {H : Type} {enc : TypeId × Value → H} {W : World} {b0 : Nat}
set_option maxRecDepth 100000 in
theorem open_rel (fuel : Nat) (cs : List Value) (x : DataW H × List MemPlace) (hl : cs.length = 4) (h : DataW.trod enc Tryz.prog W 0 (fun _ => true) true fuel 98 cs = some x) : ∃ z : P.S98, P.k98.K W z cs ∧ (Light Tryz.prog 98 x.1 → True) := by
 obtain ⟨ys, m, _, _, _, hyl, hg⟩ := DataW.trod_struct Tryz.underlying98 h
 match cs, hl with
 | [u0, u1, u2, u3], _ =>
  match ys, hyl with
  | [y0, y1, y2, y3], _ =>
   have g0 : DataW.trod enc Tryz.prog W 0 (fun _ => true) true m 3 [u0] = some y0 := by simpa [c_int] using hg 0 _ rfl
   have g1 : DataW.trod enc Tryz.prog W 0 (fun _ => true) true m 3 [u1] = some y1 := by simpa [c_int] using hg 1 _ rfl
   have g2 : DataW.trod enc Tryz.prog W 0 (fun _ => true) true m 3 [u2] = some y2 := by simpa [c_int] using hg 2 _ rfl
   have g3 : DataW.trod enc Tryz.prog W 0 (fun _ => true) true m 3 [u3] = some y3 := by simpa [c_int] using hg 3 _ rfl
   obtain ⟨z0, e0, _⟩ := DataW.trod_int Tryz.underlying3 g0
   obtain ⟨z1, e1, _⟩ := DataW.trod_int Tryz.underlying3 g1
   obtain ⟨z2, e2, _⟩ := DataW.trod_int Tryz.underlying3 g2
   obtain ⟨z3, e3, _⟩ := DataW.trod_int Tryz.underlying3 g3
   obtain rfl := (List.cons.inj e0).1
   obtain rfl := (List.cons.inj e1).1
   obtain rfl := (List.cons.inj e2).1
   obtain rfl := (List.cons.inj e3).1
   exact ⟨⟨z0, z1, z2, z3⟩, P.k98_mk W ⟨z0, z1, z2, z3⟩, fun _ => trivial⟩
set_option maxRecDepth 100000 in
theorem open_sec2 (fuel : Nat) (cs : List Value) (x : DataW H × List MemPlace) (hl : cs.length = 6) (h : DataW.trod enc Tryz.prog W 0 (fun _ => true) true fuel 64 cs = some x) : ∃ z : P.S64, P.k64.K W z cs ∧ (Light Tryz.prog 64 x.1 → True) := by
 obtain ⟨ys, m, _, _, _, hyl, hg⟩ := DataW.trod_struct Tryz.underlying64 h
 match cs, hl with
 | [u0, u1, u2, u3, u4, u5], _ =>
  match ys, hyl with
  | [y0, y1, y2, y3, y4, y5], _ =>
   have g0 : DataW.trod enc Tryz.prog W 0 (fun _ => true) true m 9 [u0] = some y0 := by simpa [c_str] using hg 0 _ rfl
   have g1 : DataW.trod enc Tryz.prog W 0 (fun _ => true) true m 3 [u1] = some y1 := by simpa [c_int] using hg 1 _ rfl
   have g2 : DataW.trod enc Tryz.prog W 0 (fun _ => true) true m 4 [u2] = some y2 := by simpa [c_bool] using hg 2 _ rfl
   have g3 : DataW.trod enc Tryz.prog W 0 (fun _ => true) true m 3 [u3] = some y3 := by simpa [c_int] using hg 3 _ rfl
   have g4 : DataW.trod enc Tryz.prog W 0 (fun _ => true) true m 9 [u4] = some y4 := by simpa [c_str] using hg 4 _ rfl
   have g5 : DataW.trod enc Tryz.prog W 0 (fun _ => true) true m 62 [u5] = some y5 := by simpa [c_rels] using hg 5 _ rfl
   obtain ⟨z0, e0, _⟩ := DataW.trod_string Tryz.underlying9 g0
   obtain ⟨z1, e1, _⟩ := DataW.trod_int Tryz.underlying3 g1
   obtain ⟨z2, e2, _⟩ := DataW.trod_bool Tryz.underlying4 g2
   obtain ⟨z3, e3, _⟩ := DataW.trod_int Tryz.underlying3 g3
   obtain ⟨z4, e4, _⟩ := DataW.trod_string Tryz.underlying9 g4
   obtain ⟨A5, q5, xs5, e5, hC5, hc5, _⟩ := open_rows2 (d := P.k98) (WF := fun _ => True) P.z98 Tryz.underlying62 c_rel open_rel g5
   obtain rfl := (List.cons.inj e0).1
   obtain rfl := (List.cons.inj e1).1
   obtain rfl := (List.cons.inj e2).1
   obtain rfl := (List.cons.inj e3).1
   obtain rfl := (List.cons.inj e4).1
   subst e5
   exact ⟨⟨z0, z1, z2, z3, z4, xs5⟩, P.k64_mk W ⟨z0, z1, z2, z3, z4, xs5⟩ hc5 hC5, fun _ => trivial⟩
set_option maxRecDepth 100000 in
theorem open_sym (fuel : Nat) (cs : List Value) (x : DataW H × List MemPlace) (hl : cs.length = 4) (h : DataW.trod enc Tryz.prog W 0 (fun _ => true) true fuel 85 cs = some x) : ∃ z : P.S85, P.k85.K W z cs ∧ (Light Tryz.prog 85 x.1 → True) := by
 obtain ⟨ys, m, _, _, _, hyl, hg⟩ := DataW.trod_struct Tryz.underlying85 h
 match cs, hl with
 | [u0, u1, u2, u3], _ =>
  match ys, hyl with
  | [y0, y1, y2, y3], _ =>
   have g0 : DataW.trod enc Tryz.prog W 0 (fun _ => true) true m 9 [u0] = some y0 := by simpa [c_str] using hg 0 _ rfl
   have g1 : DataW.trod enc Tryz.prog W 0 (fun _ => true) true m 3 [u1] = some y1 := by simpa [c_int] using hg 1 _ rfl
   have g2 : DataW.trod enc Tryz.prog W 0 (fun _ => true) true m 3 [u2] = some y2 := by simpa [c_int] using hg 2 _ rfl
   have g3 : DataW.trod enc Tryz.prog W 0 (fun _ => true) true m 3 [u3] = some y3 := by simpa [c_int] using hg 3 _ rfl
   obtain ⟨z0, e0, _⟩ := DataW.trod_string Tryz.underlying9 g0
   obtain ⟨z1, e1, _⟩ := DataW.trod_int Tryz.underlying3 g1
   obtain ⟨z2, e2, _⟩ := DataW.trod_int Tryz.underlying3 g2
   obtain ⟨z3, e3, _⟩ := DataW.trod_int Tryz.underlying3 g3
   obtain rfl := (List.cons.inj e0).1
   obtain rfl := (List.cons.inj e1).1
   obtain rfl := (List.cons.inj e2).1
   obtain rfl := (List.cons.inj e3).1
   exact ⟨⟨z0, z1, z2, z3⟩, P.k85_mk W ⟨z0, z1, z2, z3⟩, fun _ => trivial⟩
set_option maxRecDepth 100000 in
theorem open_obj2 (fuel : Nat) (cs : List Value) (x : DataW H × List MemPlace) (hl : cs.length = 2) (h : DataW.trod enc Tryz.prog W 0 (fun _ => true) true fuel 68 cs = some x) : ∃ z : P.S68, P.k68.K W z cs ∧ (Light Tryz.prog 68 x.1 → True) := by
 obtain ⟨ys, m, _, _, _, hyl, hg⟩ := DataW.trod_struct Tryz.underlying68 h
 match cs, hl with
 | [u0, u1], _ =>
  match ys, hyl with
  | [y0, y1], _ =>
   have g0 : DataW.trod enc Tryz.prog W 0 (fun _ => true) true m 65 [u0] = some y0 := by simpa [c_secs] using hg 0 _ rfl
   have g1 : DataW.trod enc Tryz.prog W 0 (fun _ => true) true m 66 [u1] = some y1 := by simpa [c_syms] using hg 1 _ rfl
   obtain ⟨A0, q0, xs0, e0, hC0, hc0, _⟩ := open_rows2 (d := P.k64) (WF := fun _ => True) P.z64 Tryz.underlying65 c_sec open_sec2 g0
   obtain ⟨A1, q1, xs1, e1, hC1, hc1, _⟩ := open_rows2 (d := P.k85) (WF := fun _ => True) P.z85 Tryz.underlying66 c_sym open_sym g1
   subst e0
   subst e1
   exact ⟨⟨xs0, xs1⟩, P.k68_mk W ⟨xs0, xs1⟩ hc0 hC0 hc1 hC1, fun _ => trivial⟩
set_option maxRecDepth 100000 in
theorem open_objs {v : Value} {d : DataW H} {p : List MemPlace} (hv : Value.okWide Tryz.prog W .any b0 41 v) (h : DataW.Trod enc Tryz.prog W 0 (fun _ => true) true 41 v d p) :
 ∃ (A : Option Addr) (c : Nat) (xs : List P.S68), v = .slice A xs.length c ∧ Kd.C P.k68 W A xs.length xs ∧ xs.length ≤ c ∧ (Light Tryz.prog 41 d → True) := by
 obtain ⟨a, len, cap, rfl⟩ := okWide_slice Tryz.underlying41 hv
 obtain ⟨fuel, hf⟩ := h
 obtain ⟨A, c, xs, h1, h2, h3, h4⟩ := open_rows2 (d := P.k68) (WF := fun z => True) P.z68 Tryz.underlying41 c_obj open_obj2 hf
 exact ⟨A, c, xs, h1, h2, h3, fun _ => trivial⟩
end
end Go.Proofs.YtngmipfodjgmmaaGreatDoor.Opens
end
section
namespace Go.Proofs.YtngmipfodjgmmaaGreatDoor.Pure
open Go Go.RowKit Go.Proofs.YtngmipfodjgmmaaGreatDoorW.PrintWords Go.Proofs.YtngmipfodjgmmaaGreatDoorW.PrintLast Go.Proofs.YtngmipfodjgmmaaGreatDoorW.PrintMore
set_option linter.unusedVariables false
set_option linter.unusedSimpArgs false
abbrev Sy := P.S85
abbrev Ob := P.S68
abbrev Tg := Nat × Nat × Sy
abbrev Pl := P.S49
def obN (os : List Ob) (o : Nat) : Ob := P.rd_T68 os o
def syN (os : List Ob) (o k : Nat) : Sy := P.rd_T85 (obN os o).f1 k
def nsy (os : List Ob) (o : Nat) : Nat := (obN os o).f1.length
def rowS (os : List Ob) (o k : Nat) : List Tg := (List.range k).map fun j => (o, j, syN os o j)
def flatS (os : List Ob) : Nat → List Tg
 | 0 => []
 | o + 1 => flatS os o ++ rowS os o (nsy os o)
/-- The symbols ahead of symbol k of object o. -/
def preS (os : List Ob) (o k : Nat) : List Tg := flatS os o ++ rowS os o k
theorem preS_succ (os : List Ob) (o k : Nat) : preS os o (k + 1) = preS os o k ++ [(o, k, syN os o k)] := by
 unfold preS rowS
 rw [List.range_succ, List.map_append, List.append_assoc]
 rfl
theorem preS_next (os : List Ob) (o : Nat) : preS os (o + 1) 0 = preS os o (nsy os o) := by
 unfold preS
 simp [rowS, flatS]
def strongQ (s : Sy) : Bool := decide (s.f1 = 2 ∧ 0 ≤ s.f2)
def weakQ (s : Sy) : Bool := decide (s.f1 = 3 ∧ 0 ≤ s.f2)
def plOf (t : Tg) : Pl := ⟨t.1, t.2.2.f2, t.2.2.f3⟩
def hit (q : Sy → Bool) (n : ByteArray) (t : Tg) : Bool := q t.2.2 && decide (t.2.2.f0 = n)
/-- The first symbol of a name and a kind. -/
def firstS (q : Sy → Bool) (L : List Tg) (n : ByteArray) : Option Tg := L.find? (hit q n)
theorem firstS_snoc (q : Sy → Bool) (L : List Tg) (t : Tg) (n : ByteArray) : firstS q (L ++ [t]) n = (firstS q L n).or (if hit q n t then some t else none) := by
 unfold firstS
 rw [List.find?_append]
 congr 1
 cases h : hit q n t <;> simp [List.find?, h]
theorem firstS_snoc_no {q : Sy → Bool} {L : List Tg} {t : Tg} (h : q t.2.2 = false) (n : ByteArray) : firstS q (L ++ [t]) n = firstS q L n := by
 rw [firstS_snoc]
 simp [hit, h]
theorem firstS_snoc_old {q : Sy → Bool} {L : List Tg} {t u : Tg} {n : ByteArray} (h : firstS q L n = some u) : firstS q (L ++ [t]) n = some u := by
 rw [firstS_snoc, h]
 rfl
theorem firstS_snoc_other {q : Sy → Bool} {L : List Tg} {t : Tg} {n : ByteArray} (h : t.2.2.f0 ≠ n) : firstS q (L ++ [t]) n = firstS q L n := by
 rw [firstS_snoc]
 simp [hit, h]
theorem firstS_snoc_new {q : Sy → Bool} {L : List Tg} {t : Tg} (h : firstS q L t.2.2.f0 = none) (hq : q t.2.2 = true) : firstS q (L ++ [t]) t.2.2.f0 = some t := by
 rw [firstS_snoc, h]
 simp [hit, hq]
theorem firstS_some {q : Sy → Bool} {L : List Tg} {n : ByteArray} {t : Tg} (h : firstS q L n = some t) : t ∈ L ∧ q t.2.2 = true ∧ t.2.2.f0 = n := by
 have h1 := List.mem_of_find?_eq_some h
 have h2 := List.find?_some h
 unfold hit at h2
 rw [Bool.and_eq_true, decide_eq_true_iff] at h2
 exact ⟨h1, h2⟩
/-- All symbols. -/
def allS (os : List Ob) : List Tg := flatS os os.length
theorem allS_pre (os : List Ob) : allS os = preS os os.length 0 := by simp [allS, preS, rowS]
theorem mem_row {os : List Ob} {o k : Nat} {t : Tg} : t ∈ rowS os o k ↔ ∃ j, j < k ∧ t = (o, j, syN os o j) := by
 unfold rowS
 rw [List.mem_map]
 constructor
 ·rintro ⟨j, hj, rfl⟩
  exact ⟨j, List.mem_range.1 hj, rfl⟩
 ·rintro ⟨j, hj, rfl⟩
  exact ⟨j, List.mem_range.2 hj, rfl⟩
theorem mem_flat {os : List Ob} {o : Nat} {t : Tg} : t ∈ flatS os o ↔ ∃ i j, i < o ∧ j < nsy os i ∧ t = (i, j, syN os i j) := by
 induction o with
 | zero => exact ⟨fun h => (by cases h), fun ⟨i, j, h, _⟩ => absurd h (Nat.not_lt_zero _)⟩
 | succ o ih =>
  show t ∈ flatS os o ++ rowS os o (nsy os o) ↔ _
  rw [List.mem_append, ih, mem_row]
  constructor
  ·rintro (⟨i, j, h1, h2, h3⟩ | ⟨j, h1, h2⟩)
   ·exact ⟨i, j, by omega, h2, h3⟩
   ·exact ⟨o, j, by omega, h1, h2⟩
  ·rintro ⟨i, j, h1, h2, h3⟩
   by_cases c : i < o
   ·exact .inl ⟨i, j, c, h2, h3⟩
   ·obtain rfl : i = o := by omega
    exact .inr ⟨j, h2, h3⟩
theorem mem_all {os : List Ob} {t : Tg} : t ∈ allS os ↔ ∃ i j, i < os.length ∧ j < nsy os i ∧ t = (i, j, syN os i j) := mem_flat
theorem preS_len {os : List Ob} {m : Nat} (h : ∀ i, i < os.length → nsy os i ≤ m) : ∀ i, i ≤ os.length → (flatS os i).length ≤ i * m
 | 0, _ => by simp [flatS]
 | i + 1, hi => by
  have := preS_len h i (by omega)
  show (flatS os i ++ rowS os i (nsy os i)).length ≤ _
  rw [List.length_append, Nat.succ_mul]
  have h2 : (rowS os i (nsy os i)).length = nsy os i := by simp [rowS]
  have := h i (by omega)
  omega
/-- The place of a name: of the first strong one, or else of the first weak one. -/
def placeT (os : List Ob) (n : ByteArray) : Option Tg := (firstS strongQ (allS os) n).or (firstS weakQ (allS os) n)
def placeS (os : List Ob) (n : ByteArray) : Option Pl := (placeT os n).map plOf
/-- A strong name that is there already. -/
def Tw (A : List Tg) (s : Sy) : Prop := strongQ s = true ∧ ∃ u, firstS strongQ A s.f0 = some u
/-- A name that is nowhere. -/
def Lost (os : List Ob) (s : Sy) : Prop := s.f1 ≠ 1 ∧ placeT os s.f0 = none
def LexLt (i j o k : Nat) : Prop := i < o ∨ (i = o ∧ j < k)
theorem LexLt.tri (i j o k : Nat) : LexLt i j o k ∨ (i = o ∧ j = k) ∨ LexLt o k i j := by unfold LexLt; omega
def NoTw (os : List Ob) (o k : Nat) : Prop := ∀ i j, LexLt i j o k → j < nsy os i → ¬ Tw (preS os i j) (syN os i j)
def NoLost (os : List Ob) (o k : Nat) : Prop := ∀ i j, LexLt i j o k → j < nsy os i → ¬ Lost os (syN os i j)
theorem lex_succ {p : Nat → Nat → Prop} {n : Nat → Nat} {o k : Nat} (h : ∀ i j, LexLt i j o k → j < n i → p i j) (hk : p o k) : ∀ i j, LexLt i j o (k + 1) → j < n i → p i j := by
 intro i j hl hj
 rcases hl with hl | ⟨rfl, hl⟩
 ·exact h i j (.inl hl) hj
 ·rcases Nat.lt_or_ge j k with c | c
  ·exact h i j (.inr ⟨rfl, c⟩) hj
  ·obtain rfl : j = k := by omega
   exact hk
theorem lex_next {p : Nat → Nat → Prop} {n : Nat → Nat} {o : Nat} (h : ∀ i j, LexLt i j o (n o) → j < n i → p i j) : ∀ i j, LexLt i j (o + 1) 0 → j < n i → p i j := by
 intro i j hl hj
 rcases hl with hl | ⟨rfl, hl⟩
 ·by_cases c : i < o
  ·exact h i j (.inl c) hj
  ·obtain rfl : i = o := by omega
   exact h i j (.inr ⟨rfl, hj⟩) hj
 ·omega
theorem lex_all {p : Nat → Nat → Prop} {n : Nat → Nat} {m : Nat} (h : ∀ i j, LexLt i j m 0 → j < n i → p i j) : ∀ i j, i < m → j < n i → p i j := fun i j hi hj => h i j (.inl hi) hj
theorem lex_zero {p : Nat → Nat → Prop} {n : Nat → Nat} : ∀ i j, LexLt i j 0 0 → j < n i → p i j := fun i j h => absurd h (by unfold LexLt; omega)
/-- The first fault of a kind. -/
def AtTw (os : List Ob) (o k : Nat) : Prop := o < os.length ∧ k < nsy os o ∧ Tw (preS os o k) (syN os o k) ∧ NoTw os o k
def AtLost (os : List Ob) (o k : Nat) : Prop := o < os.length ∧ k < nsy os o ∧ Lost os (syN os o k) ∧ NoLost os o k
theorem AtTw.one {os : List Ob} {o k i j : Nat} (h : AtTw os o k) (g : AtTw os i j) : o = i ∧ k = j := by
 rcases LexLt.tri o k i j with c | ⟨a, b⟩ | c
 ·exact absurd h.2.2.1 (g.2.2.2 o k c h.2.1)
 ·exact ⟨a, b⟩
 ·exact absurd g.2.2.1 (h.2.2.2 i j c g.2.1)
theorem AtLost.one {os : List Ob} {o k i j : Nat} (h : AtLost os o k) (g : AtLost os i j) : o = i ∧ k = j := by
 rcases LexLt.tri o k i j with c | ⟨a, b⟩ | c
 ·exact absurd h.2.2.1 (g.2.2.2 o k c h.2.1)
 ·exact ⟨a, b⟩
 ·exact absurd g.2.2.1 (h.2.2.2 i j c g.2.1)
/-- The place of a symbol. -/
def plS (os : List Ob) (o k : Nat) : Pl := if (syN os o k).f1 = 1 then ⟨o, (syN os o k).f2, (syN os o k).f3⟩ else (placeS os (syN os o k).f0).getD ⟨0, 0, 0⟩
def plRow (os : List Ob) (o k : Nat) : List Pl := (List.range k).map (plS os o)
theorem plRow_succ (os : List Ob) (o k : Nat) : plRow os o (k + 1) = plRow os o k ++ [plS os o k] := by
 unfold plRow
 rw [List.range_succ, List.map_append]
 rfl
theorem plRow_length (os : List Ob) (o k : Nat) : (plRow os o k).length = k := by simp [plRow]
end Go.Proofs.YtngmipfodjgmmaaGreatDoor.Pure
end
