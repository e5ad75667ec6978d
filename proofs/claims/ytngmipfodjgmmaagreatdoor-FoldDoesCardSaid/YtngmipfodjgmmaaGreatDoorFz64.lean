/- Walks and plain laws of this claim, a part. -/
import Derived.Test.YtngmipfodjgmmaaGreatDoorFz62
import Derived.Test.YtngmipfodjgmmaaGreatDoorFz59
set_option linter.unusedVariables false
set_option linter.unusedSimpArgs false
section
namespace Go.Proofs.YtngmipfodjgmmaaGreatDoor.Pure
open Go Go.RowKit Wa Wb Wc
theorem Ev.plain {α : Type} {c : Option α} {r : α} (h : c = some r) : Ev (fun _ => c) r := ⟨0, fun _ _ => h⟩
theorem is_loop_ends (n : ByteArray) (kd : Int) (keep : Bool) (al : Int) (data : ByteArray) (rels0 rels : List P.S98) (hd : data.size ≤ 4096) (hr : rels.length ≤ 100000) :
 ∀ (j : Nat) (e i : Int), 0 ≤ e → 0 ≤ i → i + j = rels.length → Ends (fun k => P.part_Is.l0 k e rels (rels.length : Int) i n kd keep al data rels0) := by
 intro j
 induction j with
 | zero =>
  intro e i he hi hj
  exact Ends.step (fun k => P.part_Is.l0.eq_2 _ _ _ _ _ _ _ _ _ _ _) (Ends.ite (fun h => absurd h (by omega)) fun _ => Ends.now _)
 | succ j ih =>
  intro e i he hi hj
  have e2 : wrap64 (i + 1) = i + 1 := wrap64_small _ (by omega) (by omega)
  have h4 : ∀ (x6 : Int) (b : Bool) (at_ rk sym add : Int), (x6 = 8 ∧ rk = 1 ∨ x6 = 4) → (b = false → e ≤ at_ ∧ at_ ≤ (data.size : Int) - x6) → Ends (fun k => P.part_Is.j4 k x6 rels (rels.length : Int) i b n kd keep al data rels0 at_ rk sym add) := by
   intro x6 b at_ rk sym add hx hb
   refine Ends.step (fun k => P.part_Is.j4.eq_2 _ _ _ _ _ _ _ _ _ _ _ _ _ _ _ _) (Ends.ite (fun _ => Ends.now _) fun hn => ?_)
   obtain ⟨b1, b2⟩ := hb (by simpa using hn)
   have e3 : wrap64 (at_ + x6) = at_ + x6 := wrap64_small _ (by omega) (by omega)
   refine Ends.ite (fun _ => Ends.ite (fun _ => Ends.ite (fun _ => ?_) fun h => absurd (by omega) h) fun h => absurd (by omega) h) fun h => absurd (by omega) h
   refine Ends.bind (over_ends kd at_ rk sym add _ ?_) fun _ _ => Ends.ite (fun _ => ?_) fun _ => Ends.now _
   ·rcases hx with ⟨_, h⟩ | h
    ·exact .inl h
    refine .inr ?_
    rw [ByteArray.size_extract, e3]
    omega
   rw [e2, e3]
   exact ih (at_ + x6) (i + 1) (by omega) (by omega) (by omega)
  have h3 : ∀ (x6 : Int) (at_ rk sym add : Int), (x6 = 8 ∧ rk = 1 ∨ x6 = 4) → Ends (fun k => P.part_Is.j3 k e x6 rels (rels.length : Int) i n kd keep al data rels0 at_ rk sym add) := by
   intro x6 at_ rk sym add hx
   have e4 : wrap64 ((data.size : Int) - x6) = (data.size : Int) - x6 := wrap64_small _ (by omega) (by omega)
   exact Ends.step (fun k => P.part_Is.j3.eq_2 _ _ _ _ _ _ _ _ _ _ _ _ _ _ _ _) (Ends.ite (fun _ => h4 _ _ _ _ _ _ hx (fun h => by cases h)) fun c1 => Ends.ite (fun _ => h4 _ _ _ _ _ _ hx (fun h => by cases h)) fun c2 => h4 _ _ _ _ _ _ hx (fun _ => by rw [e4] at c2; omega))
  exact Ends.step (fun k => P.part_Is.l0.eq_2 _ _ _ _ _ _ _ _ _ _ _) (Ends.ite (fun _ => Ends.ite (fun _ => Ends.ite (fun _ => Ends.ite (fun c => h3 _ _ _ _ _ (.inl ⟨rfl, c⟩)) fun _ => h3 _ _ _ _ _ (.inr rfl)) fun h => absurd (by omega) h) fun h => absurd hi h) fun h => absurd (by omega) h)
theorem is_section_ends (n : ByteArray) (kd : Int) (keep : Bool) (al : Int) (data : ByteArray) (rels : List P.S98) : Ends (fun k => P.part_Is.f k n kd keep al data rels) := by
 have h1 : ∀ b : Bool, (b = false → data.size ≤ 4096 ∧ rels.length ≤ 64) → Ends (fun k => P.part_Is.j1 k b n kd keep al data rels) := fun b hb =>
  Ends.step (fun k => P.part_Is.j1.eq_2 _ _ _ _ _ _ _ _) (Ends.ite (fun _ => Ends.now _) fun h => by
   obtain ⟨p, q⟩ := hb (by simpa using h)
   exact is_loop_ends n kd keep al data rels rels p (by omega) rels.length 0 0 (by decide) (by decide) (by omega))
 have h0 : ∀ b : Bool, Ends (fun k => P.part_Is.j0 k b n kd keep al data rels) := fun b =>
  Ends.step (fun k => P.part_Is.j0.eq_2 _ _ _ _ _ _ _ _) (Ends.ite (fun _ => Ends.now _) fun _ => Ends.ite (fun _ => h1 _ (fun h => by cases h)) fun c => h1 _ (fun h => ⟨by omega, by have := of_decide_eq_false h; omega⟩))
 exact Ends.bind (name_ends n) fun _ _ => Ends.ite (fun _ => Ends.ite (fun _ => h0 _) fun _ => Ends.ite (fun _ => h0 _) fun _ => Ends.ite (fun _ => h0 _) fun _ => h0 _) fun _ => h0 _
structure Sc where
 n : ByteArray
 kd : Int
 keep : Bool
 al : Int
 data : ByteArray
 rels : List P.S98
def Sc.zero : Sc := ⟨⟨#[]⟩, 0, false, 0, ⟨#[]⟩, []⟩
def IsB (s : Sc) (b : Bool) : Prop := Ev (fun k => P.part_Is.f k s.n s.kd s.keep s.al s.data s.rels) b
theorem isB_one {s : Sc} {a b : Bool} (h : IsB s a) (k : IsB s b) : a = b := Ev.one h k
theorem isB_ends (s : Sc) : ∃ b, IsB s b := is_section_ends s.n s.kd s.keep s.al s.data s.rels
theorem is_al_loop (n : ByteArray) (kd : Int) (keep : Bool) (al al' : Int) (data : ByteArray) (rels0 rels : List P.S98) : ∀ k : Nat,
 (∀ e i, P.part_Is.l0 k e rels (rels.length : Int) i n kd keep al data rels0 = P.part_Is.l0 k e rels (rels.length : Int) i n kd keep al' data rels0) ∧
 (∀ e x6 i at_ rk sym add, P.part_Is.j3 k e x6 rels (rels.length : Int) i n kd keep al data rels0 at_ rk sym add = P.part_Is.j3 k e x6 rels (rels.length : Int) i n kd keep al' data rels0 at_ rk sym add) ∧
 (∀ x6 i b at_ rk sym add, P.part_Is.j4 k x6 rels (rels.length : Int) i b n kd keep al data rels0 at_ rk sym add = P.part_Is.j4 k x6 rels (rels.length : Int) i b n kd keep al' data rels0 at_ rk sym add)
 | 0 => ⟨fun _ _ => by simp [P.part_Is.l0], fun _ _ _ _ _ _ _ => by simp [P.part_Is.j3], fun _ _ _ _ _ _ _ => by simp [P.part_Is.j4]⟩
 | k + 1 => by
  obtain ⟨i0, i3, i4⟩ := is_al_loop n kd keep al al' data rels0 rels k
  refine ⟨fun e i => ?_, fun e x6 i at_ rk sym add => ?_, fun x6 i b at_ rk sym add => ?_⟩
  ·rw [P.part_Is.l0.eq_2, P.part_Is.l0.eq_2]
   simp only [i3]
  ·rw [P.part_Is.j3.eq_2, P.part_Is.j3.eq_2]
   simp only [i4]
  rw [P.part_Is.j4.eq_2, P.part_Is.j4.eq_2]
  simp only [i0]
theorem is_al_j (n : ByteArray) (kd : Int) (keep : Bool) (al al' : Int) (data : ByteArray) (rels : List P.S98) (k : Nat) (b : Bool) : P.part_Is.j0 k b n kd keep al data rels = P.part_Is.j0 k b n kd keep al' data rels := by
 cases k with
 | zero => simp [P.part_Is.j0]
 | succ k =>
  rw [P.part_Is.j0.eq_2, P.part_Is.j0.eq_2]
  have h1 : ∀ b, P.part_Is.j1 k b n kd keep al data rels = P.part_Is.j1 k b n kd keep al' data rels := by
   intro b
   cases k with
   | zero => simp [P.part_Is.j1]
   | succ k =>
    rw [P.part_Is.j1.eq_2, P.part_Is.j1.eq_2]
    simp only [(is_al_loop n kd keep al al' data rels rels k).1]
  simp only [h1]
theorem is_fuel {n : ByteArray} {kd : Int} {keep : Bool} {al : Int} {data : ByteArray} {rels : List P.S98} {k : Nat} {b : Bool} (h : P.part_Is.j0 k b n kd keep al data rels = some true) : b = false := by
 cases k with
 | zero => simp [P.part_Is.j0] at h
 | succ k =>
  rw [P.part_Is.j0.eq_2] at h
  cases b with
  | false => rfl
  | true => rw [if_pos rfl] at h; cases h
theorem is_al {s : Sc} (h : IsB s true) : (0 ≤ s.al ∧ s.al ≤ 12) ∧ ∀ a, 0 ≤ a → a ≤ 12 → IsB { s with al := a } true := by
 obtain ⟨K, hK⟩ := h
 have h1 : ∀ k, K ≤ k → (0 ≤ s.al ∧ s.al ≤ 12) ∧ ∀ a, 0 ≤ a → a ≤ 12 → P.part_Is.f k s.n s.kd s.keep a s.data s.rels = some true := by
  intro k hk
  have h : P.part_Is.f k s.n s.kd s.keep s.al s.data s.rels = some true := hK k hk
  unfold P.part_Is.f at h
  cases hn : P.local_IsName.f k s.n with
  | none => rw [hn] at h; cases h
  | some t =>
   rw [hn, Option.bind_some] at h
   by_cases c1 : t = true
   ·rw [if_pos c1] at h
    by_cases c2 : s.kd < 1
    ·rw [if_pos c2] at h
     exact absurd (is_fuel h) (by decide)
    rw [if_neg c2] at h
    by_cases c3 : s.kd > 3
    ·rw [if_pos c3] at h
     exact absurd (is_fuel h) (by decide)
    rw [if_neg c3] at h
    by_cases c4 : s.al < 0
    ·rw [if_pos c4] at h
     exact absurd (is_fuel h) (by decide)
    rw [if_neg c4] at h
    have c5 : ¬ s.al > 12 := of_decide_eq_false (is_fuel h)
    refine ⟨⟨by omega, by omega⟩, fun a a0 a1 => ?_⟩
    unfold P.part_Is.f
    rw [hn, Option.bind_some, if_pos c1, if_neg c2, if_neg c3, if_neg (by omega), dF_ (show ¬ a > 12 by omega), is_al_j _ _ _ a s.al]
    rw [dF_ c5] at h
    exact h
   rw [if_neg c1] at h
   exact absurd (is_fuel h) (by decide)
 exact ⟨(h1 K (Nat.le_refl _)).1, fun a a0 a1 => ⟨K, fun k hk => (h1 k hk).2 a a0 a1⟩⟩
def OverB (kd : Int) (r : P.S98) (d : ByteArray) (b : Bool) : Prop := Ev (fun k => P.part_over.f k kd r.f0 r.f1 r.f2 r.f3 d) b
def szR (r : P.S98) : Int := if r.f1 = 1 then 8 else 4
def RelsOk (kd : Int) (data : ByteArray) : Int → List P.S98 → Prop
 | _, [] => True
 | e, r :: l => e ≤ r.f0 ∧ r.f0 + szR r ≤ data.size ∧ 0 ≤ r.f2 ∧ OverB kd r (data.extract r.f0.toNat (r.f0 + szR r).toNat) true ∧ RelsOk kd data (r.f0 + szR r) l
structure Right (s : Sc) : Prop where
 name : Ev (fun k => P.local_IsName.f k s.n) true
 kind : 1 ≤ s.kd ∧ s.kd ≤ 3
 al : 0 ≤ s.al ∧ s.al ≤ 12
 data : s.data.size ≤ 4096
 rels : s.rels.length ≤ 64
 each : RelsOk s.kd s.data 0 s.rels
theorem sz_pos (r : P.S98) : szR r = 8 ∨ szR r = 4 := by unfold szR; split <;> simp
theorem rd_drop (l : List P.S98) (i : Nat) (hi : i < l.length) : l.drop i = P.rd_T98 l i :: l.drop (i + 1) := by
 rw [List.drop_eq_getElem_cons hi]
 unfold P.rd_T98
 rw [Int.toNat_natCast, List.getD_eq_getElem?_getD, List.getElem?_eq_getElem hi]
 rfl
theorem l0_fwd (n : ByteArray) (kd : Int) (keep : Bool) (al : Int) (data : ByteArray) (rels0 rels : List P.S98) (hd : data.size ≤ 4096) (hr : rels.length ≤ 64) : ∀ (k : Nat) (e : Int) (i : Nat), 0 ≤ e → i ≤ rels.length →
 P.part_Is.l0 k e rels (rels.length : Int) i n kd keep al data rels0 = some true → RelsOk kd data e (rels.drop i) := by
 intro k
 induction k using Nat.strongRecOn with
 | ind k ih =>
  intro e i he hi h
  have j4t : ∀ k x6 i at_ rk sym add, P.part_Is.j4 k x6 rels (rels.length : Int) i true n kd keep al data rels0 at_ rk sym add ≠ some true := by
   intro k x6 i at_ rk sym add h
   cases k with
   | zero => simp [P.part_Is.j4] at h
   | succ k => rw [P.part_Is.j4.eq_2, if_pos rfl] at h; cases h
  cases k with
  | zero => simp [P.part_Is.l0] at h
  | succ k =>
   rw [P.part_Is.l0.eq_2] at h
   by_cases c1 : (i : Int) < (rels.length : Int)
   rotate_left
   ·rw [List.drop_of_length_le (by omega)]
    trivial
   rw [if_pos c1, if_pos (by omega), if_pos c1] at h
   rw [rd_drop rels i (by omega)]
   obtain ⟨r, hrr⟩ : ∃ r, P.rd_T98 rels i = r := ⟨_, rfl⟩
   rw [hrr] at h ⊢
   have h2 : P.part_Is.j3 k e (szR r) rels (rels.length : Int) i n kd keep al data rels0 r.f0 r.f1 r.f2 r.f3 = some true := by
    unfold szR
    by_cases c : r.f1 = 1
    ·rw [if_pos c] at h ⊢; exact h
    rw [if_neg c] at h ⊢; exact h
   clear h
   have hz := sz_pos r
   cases k with
   | zero => simp [P.part_Is.j3] at h2
   | succ k =>
    rw [P.part_Is.j3.eq_2] at h2
    by_cases c2 : r.f0 < e
    ·rw [if_pos c2] at h2
     exact absurd h2 (j4t _ _ _ _ _ _ _)
    rw [if_neg c2, wrap64_small _ (by omega) (by omega)] at h2
    by_cases c3 : r.f0 > (data.size : Int) - szR r
    ·rw [if_pos c3] at h2
     exact absurd h2 (j4t _ _ _ _ _ _ _)
    rw [if_neg c3] at h2
    by_cases c4 : r.f2 < 0
    ·rw [dT_ c4] at h2
     exact absurd h2 (j4t _ _ _ _ _ _ _)
    rw [dF_ c4] at h2
    cases k with
    | zero => simp [P.part_Is.j4] at h2
    | succ k =>
     have ew : wrap64 (r.f0 + szR r) = r.f0 + szR r := wrap64_small _ (by omega) (by omega)
     have ei : wrap64 ((i : Int) + 1) = ((i + 1 : Nat) : Int) := by rw [wrap64_small _ (by omega) (by omega)]; rfl
     rw [P.part_Is.j4.eq_2, if_neg (by decide), if_pos (by omega), ew, if_pos (by omega), if_pos (by omega), ei] at h2
     cases ho : P.part_over.f k kd r.f0 r.f1 r.f2 r.f3 (data.extract r.f0.toNat (r.f0 + szR r).toNat) with
     | none => rw [ho] at h2; cases h2
     | some t =>
      rw [ho, Option.bind_some] at h2
      cases t with
      | false => rw [if_neg (by decide)] at h2; cases h2
      | true =>
       rw [if_pos rfl] at h2
       exact ⟨by omega, by omega, by omega, Ev.of (fun k => P.part_over.mono _ _ _ _ _ _ k) (k := k) ho, ih k (by omega) _ _ (by omega) (by omega) h2⟩
theorem l0_bwd (n : ByteArray) (kd : Int) (keep : Bool) (al : Int) (data : ByteArray) (rels0 rels : List P.S98) (hd : data.size ≤ 4096) (hr : rels.length ≤ 64) : ∀ (j : Nat) (e : Int) (i : Nat), 0 ≤ e → i + j = rels.length → RelsOk kd data e (rels.drop i) →
 Ev (fun k => P.part_Is.l0 k e rels (rels.length : Int) i n kd keep al data rels0) true := by
 intro j
 induction j with
 | zero =>
  intro e i he hi h
  exact Ev.step (fun k => P.part_Is.l0.eq_2 _ _ _ _ _ _ _ _ _ _ _) (Ev.congr (fun k => if_neg (by omega)) (Ev.now _))
 | succ j ih =>
  intro e i he hi h
  rw [rd_drop rels i (by omega)] at h
  obtain ⟨r, hrr⟩ : ∃ r, P.rd_T98 rels i = r := ⟨_, rfl⟩
  rw [hrr] at h
  obtain ⟨h1, h2, h3, h4, h5⟩ := h
  have hz := sz_pos r
  have ew : wrap64 (r.f0 + szR r) = r.f0 + szR r := wrap64_small _ (by omega) (by omega)
  have ei : wrap64 ((i : Int) + 1) = ((i + 1 : Nat) : Int) := by rw [wrap64_small _ (by omega) (by omega)]; rfl
  have e3 : wrap64 ((data.size : Int) - szR r) = (data.size : Int) - szR r := wrap64_small _ (by omega) (by omega)
  have hj4 : Ev (fun k => P.part_Is.j4 k (szR r) rels (rels.length : Int) i false n kd keep al data rels0 r.f0 r.f1 r.f2 r.f3) true := by
   refine Ev.step (fun k => P.part_Is.j4.eq_2 _ _ _ _ _ _ _ _ _ _ _ _ _ _ _ _) (Ev.congr (fun k => if_neg (by decide)) (Ev.congr (fun k => if_pos (by omega)) ?_))
   rw [ew, ei]
   exact Ev.congr (fun k => if_pos (by omega)) (Ev.congr (fun k => if_pos (by omega)) (Ev.bind h4 (Ev.congr (fun k => if_pos rfl) (ih _ _ (by omega) (by omega) h5))))
  have hj3 : Ev (fun k => P.part_Is.j3 k e (szR r) rels (rels.length : Int) i n kd keep al data rels0 r.f0 r.f1 r.f2 r.f3) true := by
   refine Ev.step (fun k => P.part_Is.j3.eq_2 _ _ _ _ _ _ _ _ _ _ _ _ _ _ _ _) (Ev.congr (fun k => if_neg (by omega)) ?_)
   rw [e3, dF_ (show ¬ r.f2 < 0 by omega)]
   exact Ev.congr (fun k => if_neg (by omega)) hj4
  refine Ev.step (fun k => P.part_Is.l0.eq_2 _ _ _ _ _ _ _ _ _ _ _) (Ev.congr (fun k => if_pos (by omega)) (Ev.congr (fun k => if_pos (by omega)) (Ev.congr (fun k => if_pos (by omega)) ?_)))
  rw [hrr]
  unfold szR at hj3
  by_cases c : r.f1 = 1
  ·rw [if_pos c] at hj3
   exact Ev.congr (fun k => if_pos c) hj3
  rw [if_neg c] at hj3
  exact Ev.congr (fun k => if_neg c) hj3
theorem is_iff (s : Sc) : IsB s true ↔ Right s := by
 constructor
 ·intro h
  obtain ⟨ha, _⟩ := is_al h
  obtain ⟨K, hK⟩ := h
  have h : P.part_Is.f K s.n s.kd s.keep s.al s.data s.rels = some true := hK K (Nat.le_refl _)
  unfold P.part_Is.f at h
  cases hn : P.local_IsName.f K s.n with
  | none => rw [hn] at h; cases h
  | some t =>
   rw [hn, Option.bind_some] at h
   cases t with
   | false => rw [if_neg (by decide)] at h; exact absurd (is_fuel h) (by decide)
   | true =>
    rw [if_pos rfl] at h
    by_cases c2 : s.kd < 1
    ·rw [if_pos c2] at h; exact absurd (is_fuel h) (by decide)
    rw [if_neg c2] at h
    by_cases c3 : s.kd > 3
    ·rw [if_pos c3] at h; exact absurd (is_fuel h) (by decide)
    rw [if_neg c3, if_neg (by omega), dF_ (show ¬ s.al > 12 by omega)] at h
    cases K with
    | zero => simp [P.part_Is.j0] at h
    | succ K =>
     rw [P.part_Is.j0.eq_2, if_neg (by decide)] at h
     have j1t : ∀ K, P.part_Is.j1 K true s.n s.kd s.keep s.al s.data s.rels ≠ some true := by
      intro K h
      cases K with
      | zero => simp [P.part_Is.j1] at h
      | succ K => rw [P.part_Is.j1.eq_2, if_pos rfl] at h; cases h
     by_cases c5 : (s.data.size : Int) > 4096
     ·rw [if_pos c5] at h; exact absurd h (j1t _)
     rw [if_neg c5] at h
     by_cases c6 : (s.rels.length : Int) > 64
     ·rw [dT_ c6] at h; exact absurd h (j1t _)
     rw [dF_ c6] at h
     cases K with
     | zero => simp [P.part_Is.j1] at h
     | succ K =>
      rw [P.part_Is.j1.eq_2, if_neg (by decide)] at h
      exact ⟨Ev.of (fun k => P.local_IsName.mono _ k) hn, ⟨by omega, by omega⟩, ha, by omega, by omega, l0_fwd s.n s.kd s.keep s.al s.data s.rels s.rels (by omega) (by omega) K 0 0 (by decide) (Nat.zero_le _) h⟩
 rintro ⟨h1, ⟨h2, h3⟩, ⟨h4, h5⟩, h6, h7, h8⟩
 unfold IsB P.part_Is.f
 refine Ev.bind h1 (Ev.congr (fun k => if_pos rfl) (Ev.congr (fun k => if_neg (by omega)) (Ev.congr (fun k => if_neg (by omega)) (Ev.congr (fun k => if_neg (by omega)) ?_))))
 rw [dF_ (show ¬ s.al > 12 by omega)]
 refine Ev.step (fun k => P.part_Is.j0.eq_2 _ _ _ _ _ _ _ _) (Ev.congr (fun k => if_neg (by decide)) (Ev.congr (fun k => if_neg (by omega)) ?_))
 rw [dF_ (show ¬ (s.rels.length : Int) > 64 by omega)]
 refine Ev.step (fun k => P.part_Is.j1.eq_2 _ _ _ _ _ _ _ _) (Ev.congr (fun k => if_neg (by decide)) ?_)
 exact l0_bwd s.n s.kd s.keep s.al s.data s.rels s.rels h6 h7 s.rels.length 0 0 (by decide) (by omega) h8
theorem rels_syms (kd : Int) (data : ByteArray) : ∀ (l : List P.S98) (e : Int), RelsOk kd data e l → ∀ q ∈ l, 0 ≤ q.f2
 | [], _, _, q, hq => by cases hq
 | r :: l, e, ⟨h1, h2, h3, h4, h5⟩, q, hq => by
  rcases List.mem_cons.1 hq with rfl | hq
  ·exact h3
  exact rels_syms kd data l _ h5 q hq
end Go.Proofs.YtngmipfodjgmmaaGreatDoor.Pure
end
section
namespace Go.Proofs.YtngmipfodjgmmaaGreatDoor.Pure
open Go Go.RowKit Go.Lib Go.Shelf Wa Wb Wc
def btN (d : ByteArray) (i : Nat) : Nat := (bt d (i : Int)).toNat
theorem btN_eq (d : ByteArray) (i : Nat) : bt d (i : Int) = (btN d i : Int) := by
 have := bt_range d (i : Int)
 unfold btN
 omega
theorem btN_lt (d : ByteArray) (i : Nat) : btN d i < 256 := by
 have := bt_range d (i : Int)
 unfold btN
 omega
def numB (d : ByteArray) : Nat → Nat
 | 0 => 0
 | k + 1 => numB d k + 2 ^ (8 * k) * btN d k
theorem numB_lt (d : ByteArray) : ∀ k, numB d k < 2 ^ (8 * k)
 | 0 => by show 0 < 1; omega
 | k + 1 => by
  have h1 := numB_lt d k
  have h2 := btN_lt d k
  show numB d k + 2 ^ (8 * k) * btN d k < 2 ^ (8 * (k + 1))
  rw [show 8 * (k + 1) = 8 * k + 8 by omega, Nat.pow_add]
  have : 2 ^ (8 * k) * btN d k ≤ 2 ^ (8 * k) * 255 := Nat.mul_le_mul_left _ (by omega)
  omega
theorem numB_zero (d : ByteArray) : ∀ k, numB d k = 0 ↔ ∀ i, i < k → btN d i = 0
 | 0 => ⟨fun _ i h => absurd h (Nat.not_lt_zero _), fun _ => rfl⟩
 | k + 1 => by
  have ih := numB_zero d k
  have hp := Nat.two_pow_pos (8 * k)
  show numB d k + 2 ^ (8 * k) * btN d k = 0 ↔ _
  constructor
  ·intro h i hi
   have h1 : numB d k = 0 := by omega
   have h2 : 2 ^ (8 * k) * btN d k = 0 := by omega
   rcases Nat.eq_or_lt_of_le (Nat.le_of_lt_succ hi) with rfl | c
   ·exact (Nat.mul_eq_zero.1 h2).resolve_left (by omega)
   exact ih.1 h1 i c
  intro h
  rw [ih.2 fun i hi => h i (by omega), h k (by omega)]
  omega
theorem number_ev (d : ByteArray) (hd : d.size ≤ 8) : Ev (fun k => P.cleatref07_Number.f k d) (numB d d.size : Int) := by
 have go : ∀ j i : Nat, i + j = d.size → Ev (fun k => P.cleatref07_Number.l0 k d (numB d i : Int) (i : Int)) (numB d d.size : Int) := by
  intro j
  induction j with
  | zero =>
   intro i hi
   obtain rfl : i = d.size := by omega
   exact Ev.step (fun k => P.cleatref07_Number.l0.eq_2 _ _ _ _) (Ev.congr (fun k => if_neg (by omega)) (Ev.now _))
  | succ j ih =>
   intro i hi
   have e8 : wrap64 (8 * (i : Int)) = ((8 * i : Nat) : Int) := by rw [wrap64_small _ (by omega) (by omega)]; omega
   have hb := btN_lt d i
   have hl := numB_lt d (i + 1)
   have hp : 2 ^ (8 * (i + 1)) ≤ 2 ^ 64 := Nat.pow_le_pow_right (by decide) (by omega)
   have e9 : numB d (i + 1) = numB d i + 2 ^ (8 * i) * btN d i := rfl
   refine Ev.step (fun k => P.cleatref07_Number.l0.eq_2 _ _ _ _) (Ev.congr (fun k => if_pos (by omega)) (Ev.congr (fun k => if_pos (by omega)) (Ev.congr (fun k => if_pos (by omega)) ?_)))
   rw [e8]
   refine Ev.bind (rpow_ev (8 * i) (by omega)) ?_
   have e1 : IntKind.u64.wrap ((numB d i : Int) + IntKind.u64.wrap (IntKind.u64.wrap (bt d (i : Int)) * ((2 ^ (8 * i) : Nat) : Int))) = (numB d (i + 1) : Int) := by
    have h1 : (btN d i : Int) * ((2 ^ (8 * i) : Nat) : Int) = ((2 ^ (8 * i) * btN d i : Nat) : Int) := by rw [Int.natCast_mul, Int.mul_comm]
    have h2 : numB d (i + 1) < 18446744073709551616 := Nat.lt_of_lt_of_le hl hp
    rw [btN_eq, u64_small _ (by omega), h1]
    obtain ⟨x, hx⟩ : ∃ x, 2 ^ (8 * i) * btN d i = x := ⟨_, rfl⟩
    rw [hx] at e9 ⊢
    rw [u64_small x (by omega), show (numB d i : Int) + (x : Int) = ((numB d i + x : Nat) : Int) by push_cast; rfl, u64_small _ (by omega), e9]
   rw [e1, i64_succ i (by omega)]
   exact ih (i + 1) (by omega)
 exact go d.size 0 (by omega)
theorem shl32 (v a : Nat) (ha : a ≤ 32) (h : 2 ^ a * v < 4294967296) : shl .u32 (v : Int) (a : Int) = ((2 ^ a * v : Nat) : Int) := by
 unfold shl
 rw [Int.toNat_natCast, Nat.min_eq_left (by show a ≤ 32; omega)]
 have e : (v : Int) * 2 ^ a = ((2 ^ a * v : Nat) : Int) := by rw [Nat.mul_comm]; push_cast; rfl
 rw [e, wrap_u32 _ h]
theorem over_word (kd : Int) (r : P.S98) (d : ByteArray) (hd : d.size = 4) (h1 : r.f1 ≠ 1) (b : Bool) (hf : Ev (fun k => P.part_Fits.f k r.f1 (numB d 4 : Int)) b) : OverB kd r d (decide (kd = 1 ∧ Int.tmod r.f0 4 = 0) && b) := by
 have l0 : ∀ j i : Nat, i + j = 4 → Ev (fun k => P.part_over.l0 k d (numB d i : Int) (i : Int) r.f0 r.f1 r.f2 r.f3) b := by
  intro j
  induction j with
  | zero =>
   intro i hi
   obtain rfl : i = 4 := by omega
   exact Ev.step (fun k => P.part_over.l0.eq_2 _ _ _ _ _ _ _ _) (Ev.congr (fun k => if_neg (by decide)) (Ev.bind hf (Ev.now _)))
  | succ j ih =>
   intro i hi
   have e8 : wrap64 (8 * (i : Int)) = ((8 * i : Nat) : Int) := by rw [wrap64_small _ (by omega) (by omega)]; omega
   have hb := btN_lt d i
   have hl := numB_lt d (i + 1)
   have h0 := numB_lt d i
   have hp : 2 ^ (8 * (i + 1)) ≤ 2 ^ 32 := Nat.pow_le_pow_right (by decide) (by omega)
   have e9 : numB d (i + 1) = numB d i + 2 ^ (8 * i) * btN d i := rfl
   have h2 : numB d (i + 1) < 4294967296 := Nat.lt_of_lt_of_le hl hp
   refine Ev.step (fun k => P.part_over.l0.eq_2 _ _ _ _ _ _ _ _) (Ev.congr (fun k => if_pos (by omega)) (Ev.congr (fun k => if_pos (by omega)) (Ev.congr (fun k => if_pos (by omega)) (Ev.congr (fun k => if_pos (by rw [e8]; omega)) ?_))))
   have e1 : Go.bits .or .u32 (numB d i : Int) (shl .u32 (bt d (i : Int) % 4294967296) (wrap64 (8 * (i : Int)))) = (numB d (i + 1) : Int) := by
    rw [e8, btN_eq, show ((btN d i : Int) % 4294967296) = (btN d i : Int) by omega, shl32 _ _ (by omega) (by omega), bits_or _ _ (by omega) (by omega), or_add (8 * i) _ _ h0, e9, Nat.add_comm]
   rw [e1, i64_succ i (by omega)]
   exact ih (i + 1) (by omega)
 unfold OverB P.part_over.f
 refine Ev.congr (fun k => if_neg h1) ?_
 by_cases c : kd = 1
 ·refine Ev.congr (fun k => if_pos c) ?_
  by_cases c2 : Int.tmod r.f0 4 = 0
  ·rw [dT_ ⟨c, c2⟩, Bool.true_and, bne_eq_false_iff_eq.mpr c2]
   exact Ev.step (fun k => P.part_over.j0.eq_2 _ _ _ _ _ _ _) (Ev.congr (fun k => if_neg (by decide)) (l0 4 0 rfl))
  rw [dF_ fun h => c2 h.2, Bool.false_and, bN_ c2]
  exact Ev.step (fun k => P.part_over.j0.eq_2 _ _ _ _ _ _ _) (Ev.congr (fun k => if_pos rfl) (Ev.now _))
 rw [dF_ fun h => c h.1, Bool.false_and]
 exact Ev.congr (fun k => if_neg c) (Ev.step (fun k => P.part_over.j0.eq_2 _ _ _ _ _ _ _) (Ev.congr (fun k => if_pos rfl) (Ev.now _)))
theorem btN_get (d : ByteArray) (i : Nat) (hi : i < d.data.toList.length) : btN d i = (d.data.toList[i]).toNat := by
 have hi2 : i < d.size := by rw [Array.length_toList] at hi; exact hi
 have h3 : d[i]'hi2 = d.data.toList[i] := by rw [ByteArray.getElem_eq_getElem_data, Array.getElem_toList]
 have hb : bt d (i : Int) = ((d[i]'hi2).toNat : Int) := by
  unfold bt
  rw [dif_pos (show (i : Int).toNat < d.size from hi2)]
  rfl
 unfold btN
 rw [hb, h3]
 rfl
theorem count_all (d : ByteArray) : (Go.Lib.countByte d.data.toList 0 = d.size) ↔ ∀ i, i < d.size → btN d i = 0 := by
 have e : d.size = d.data.toList.length := by rw [Array.length_toList]; rfl
 unfold Go.Lib.countByte
 rw [e, List.count_eq_length]
 constructor
 ·intro h i hi
  rw [btN_get d i hi, ← h _ (List.getElem_mem hi)]
  rfl
 intro h b hb
 obtain ⟨i, hi, rfl⟩ := List.getElem_of_mem hb
 have := h i hi
 rw [btN_get d i hi] at this
 exact UInt8.toNat_inj.mp (by rw [this]; rfl)
theorem over_quad (kd : Int) (r : P.S98) (d : ByteArray) (h1 : r.f1 = 1) : OverB kd r d (decide (numB d d.size = 0)) := by
 unfold OverB P.part_over.f
 refine Ev.congr (fun k => if_pos h1) (Ev.bind (Ev.nowc (show P.strings_Count.f d ⟨#[0]⟩ = some ((Go.Lib.countByte d.data.toList 0 : Nat) : Int) from rfl)) ?_)
 have : (((Go.Lib.countByte d.data.toList 0 : Nat) : Int) == (d.size : Int)) = decide (numB d d.size = 0) := by
  rw [Bool.eq_iff_iff, beq_iff_eq, decide_eq_true_iff, numB_zero, ← count_all]
  omega
 rw [this]
 exact Ev.now _
theorem over_kind {kd : Int} {r : P.S98} {d : ByteArray} (hd : r.f1 = 1 ∨ d.size = 4) (h : OverB kd r d true) : 1 ≤ r.f1 ∧ r.f1 ≤ 9 := by
 by_cases h1 : r.f1 = 1
 ·omega
 have hn := numB_lt d 4
 by_cases c0 : r.f1 < 0
 ·have hf : Ev (fun k => P.part_Fits.f k r.f1 (numB d 4 : Int)) false := Ev.congr (fun k => if_pos c0) (Ev.now _)
  have := Ev.one h (over_word kd r d (hd.resolve_left h1) h1 _ hf)
  rw [Bool.and_false] at this
  cases this
 by_cases c9 : r.f1 > 9
 ·have hf : Ev (fun k => P.part_Fits.f k r.f1 (numB d 4 : Int)) false := Ev.congr (fun k => if_neg c0) (Ev.congr (fun k => if_pos c9) (Ev.now _))
  have := Ev.one h (over_word kd r d (hd.resolve_left h1) h1 _ hf)
  rw [Bool.and_false] at this
  cases this
 by_cases c1 : r.f1 = 0
 ·obtain ⟨q, hq, hg⟩ := decode_full (numB d 4) hn
  have hof : P.part_Fits.of 0 q = false := by
   unfold P.part_Fits.of
   by_cases e : q.2.2.2.2.2.2.2.2.2.2 = 0
   ·obtain ⟨op, o1, o2, _, i, _, hi, hre, _⟩ := hg e
    have hq1 : q.1 = (op : Int) := by rw [hre]; exact hi
    rw [if_pos e, hq1]
    split
    ·split
     ·split
      ·refine dF_ ?_
       have : rd P.fittingL (2 * 0 + 1) = 0 := rfl
       rw [this]
       omega
      rfl
     rfl
    rfl
   rw [if_neg e]
  have hf : Ev (fun k => P.part_Fits.f k r.f1 (numB d 4 : Int)) false := by
   rw [c1]
   unfold P.part_Fits.f
   refine Ev.congr (fun k => if_neg (by decide)) (Ev.congr (fun k => if_neg (by decide)) (Ev.bind hq ?_))
   rw [hof]
   exact Ev.now _
  have := Ev.one h (over_word kd r d (hd.resolve_left h1) h1 _ hf)
  rw [Bool.and_false] at this
  cases this
 omega
end Go.Proofs.YtngmipfodjgmmaaGreatDoor.Pure
end
