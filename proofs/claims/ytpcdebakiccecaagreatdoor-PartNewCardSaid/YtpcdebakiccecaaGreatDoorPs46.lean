/- When a section is right, told plainly. -/
import Derived.Test.YtpcdebakiccecaaGreatDoorPs45
namespace Go.Proofs.YtpcdebakiccecaaGreatDoor.Pure
open Go Go.RowKit Go.Proofs.YtpcdebakiccecaaGreatDoorW.PrintWords Go.Proofs.YtpcdebakiccecaaGreatDoorW.PrintLast Go.Proofs.YtpcdebakiccecaaGreatDoorW.PrintMore
set_option linter.unusedVariables false
set_option linter.unusedSimpArgs false
theorem Ev.plain {α : Type} {c : Option α} {r : α} (h : c = some r) : Ev (fun _ => c) r := ⟨0, fun _ _ => h⟩
/-- A section's fields. -/
structure Sc where
 n : ByteArray
 kd : Int
 keep : Bool
 al : Int
 data : ByteArray
 rels : List P.S44
def Sc.zero : Sc := ⟨⟨#[]⟩, 0, false, 0, ⟨#[]⟩, []⟩
def IsB (s : Sc) (b : Bool) : Prop := Ev (fun k => P.part_Is.f k s.n s.kd s.keep s.al s.data s.rels) b
theorem is_al_loop (n : ByteArray) (kd : Int) (keep : Bool) (al al' : Int) (data : ByteArray) (rels0 rels : List P.S44) : ∀ k : Nat,
 (∀ e i, P.part_Is.l0 k e rels (rels.length : Int) i n kd keep al data rels0 = P.part_Is.l0 k e rels (rels.length : Int) i n kd keep al' data rels0) ∧
 (∀ e x6 i at_ rk sym add, P.part_Is.j3 k e x6 rels (rels.length : Int) i n kd keep al data rels0 at_ rk sym add = P.part_Is.j3 k e x6 rels (rels.length : Int) i n kd keep al' data rels0 at_ rk sym add) ∧
 (∀ x6 i b at_ rk sym add, P.part_Is.j4 k x6 rels (rels.length : Int) i b n kd keep al data rels0 at_ rk sym add = P.part_Is.j4 k x6 rels (rels.length : Int) i b n kd keep al' data rels0 at_ rk sym add)
 | 0 => ⟨fun _ _ => by simp [P.part_Is.l0], fun _ _ _ _ _ _ _ => by simp [P.part_Is.j3], fun _ _ _ _ _ _ _ => by simp [P.part_Is.j4]⟩
 | k + 1 => by
  obtain ⟨i0, i3, i4⟩ := is_al_loop n kd keep al al' data rels0 rels k
  refine ⟨fun e i => ?_, fun e x6 i at_ rk sym add => ?_, fun x6 i b at_ rk sym add => ?_⟩
  ·rw [P.part_Is.l0.eq_2, P.part_Is.l0.eq_2]
   simp only [i3]
  ·rw [P.part_Is.j3.eq_2, P.part_Is.j3.eq_2]
   simp only [i4]
  ·rw [P.part_Is.j4.eq_2, P.part_Is.j4.eq_2]
   simp only [i0]
theorem is_al_j (n : ByteArray) (kd : Int) (keep : Bool) (al al' : Int) (data : ByteArray) (rels : List P.S44) (k : Nat) (b : Bool) : P.part_Is.j0 k b n kd keep al data rels = P.part_Is.j0 k b n kd keep al' data rels := by
 cases k with
 | zero => simp [P.part_Is.j0]
 | succ k =>
  rw [P.part_Is.j0.eq_2, P.part_Is.j0.eq_2]
  have h1 : ∀ b, P.part_Is.j1 k b n kd keep al data rels = P.part_Is.j1 k b n kd keep al' data rels := by
   intro b
   cases k with
   | zero => simp [P.part_Is.j1]
   | succ k =>
    rw [P.part_Is.j1.eq_2, P.part_Is.j1.eq_2]
    simp only [(is_al_loop n kd keep al al' data rels rels k).1]
  simp only [h1]
theorem is_fuel {n : ByteArray} {kd : Int} {keep : Bool} {al : Int} {data : ByteArray} {rels : List P.S44} {k : Nat} {b : Bool} (h : P.part_Is.j0 k b n kd keep al data rels = some true) : b = false := by
 cases k with
 | zero => simp [P.part_Is.j0] at h
 | succ k =>
  rw [P.part_Is.j0.eq_2] at h
  cases b with
  | false => rfl
  | true => rw [if_pos rfl] at h; cases h
theorem is_al {s : Sc} (h : IsB s true) : (0 ≤ s.al ∧ s.al ≤ 12) ∧ ∀ a, 0 ≤ a → a ≤ 12 → IsB { s with al := a } true := by
 obtain ⟨K, hK⟩ := h
 have h1 : ∀ k, K ≤ k → (0 ≤ s.al ∧ s.al ≤ 12) ∧ ∀ a, 0 ≤ a → a ≤ 12 → P.part_Is.f k s.n s.kd s.keep a s.data s.rels = some true := by
  intro k hk
  have h : P.part_Is.f k s.n s.kd s.keep s.al s.data s.rels = some true := hK k hk
  unfold P.part_Is.f at h
  cases hn : P.local_IsName.f k s.n with
  | none => rw [hn] at h; cases h
  | some t =>
   rw [hn, Option.bind_some] at h
   by_cases c1 : t = true
   ·rw [if_pos c1] at h
    by_cases c2 : s.kd < 1
    ·rw [if_pos c2] at h
     exact absurd (is_fuel h) (by decide)
    ·rw [if_neg c2] at h
     by_cases c3 : s.kd > 3
     ·rw [if_pos c3] at h
      exact absurd (is_fuel h) (by decide)
     ·rw [if_neg c3] at h
      by_cases c4 : s.al < 0
      ·rw [if_pos c4] at h
       exact absurd (is_fuel h) (by decide)
      ·rw [if_neg c4] at h
       have c5 : ¬ s.al > 12 := of_decide_eq_false (is_fuel h)
       refine ⟨⟨by omega, by omega⟩, fun a a0 a1 => ?_⟩
       unfold P.part_Is.f
       rw [hn, Option.bind_some, if_pos c1, if_neg c2, if_neg c3, if_neg (by omega), decide_eq_false (show ¬ a > 12 by omega), is_al_j _ _ _ a s.al]
       rw [decide_eq_false c5] at h
       exact h
   ·rw [if_neg c1] at h
    exact absurd (is_fuel h) (by decide)
 exact ⟨(h1 K (Nat.le_refl _)).1, fun a a0 a1 => ⟨K, fun k hk => (h1 k hk).2 a a0 a1⟩⟩
def OverB (kd : Int) (r : P.S44) (d : ByteArray) (b : Bool) : Prop := Ev (fun k => P.part_over.f k kd r.f0 r.f1 r.f2 r.f3 d) b
def szR (r : P.S44) : Int := if r.f1 = 1 then 8 else 4
def RelsOk (kd : Int) (data : ByteArray) : Int → List P.S44 → Prop
 | _, [] => True
 | e, r :: l => e ≤ r.f0 ∧ r.f0 + szR r ≤ data.size ∧ 0 ≤ r.f2 ∧ OverB kd r (data.extract r.f0.toNat (r.f0 + szR r).toNat) true ∧ RelsOk kd data (r.f0 + szR r) l
structure Right (s : Sc) : Prop where
 name : Ev (fun k => P.local_IsName.f k s.n) true
 kind : 1 ≤ s.kd ∧ s.kd ≤ 3
 al : 0 ≤ s.al ∧ s.al ≤ 12
 data : s.data.size ≤ 4096
 rels : s.rels.length ≤ 64
 each : RelsOk s.kd s.data 0 s.rels
theorem sz_pos (r : P.S44) : szR r = 8 ∨ szR r = 4 := by unfold szR; split <;> simp
theorem rd_drop (l : List P.S44) (i : Nat) (hi : i < l.length) : l.drop i = P.rd_T44 l i :: l.drop (i + 1) := by
 rw [List.drop_eq_getElem_cons hi]
 unfold P.rd_T44
 rw [Int.toNat_natCast, List.getD_eq_getElem?_getD, List.getElem?_eq_getElem hi]
 rfl
theorem l0_fwd (n : ByteArray) (kd : Int) (keep : Bool) (al : Int) (data : ByteArray) (rels0 rels : List P.S44) (hd : data.size ≤ 4096) (hr : rels.length ≤ 64) : ∀ (k : Nat) (e : Int) (i : Nat), 0 ≤ e → i ≤ rels.length →
 P.part_Is.l0 k e rels (rels.length : Int) i n kd keep al data rels0 = some true → RelsOk kd data e (rels.drop i) := by
 intro k
 induction k using Nat.strongRecOn with
 | ind k ih =>
  intro e i he hi h
  have j4t : ∀ k x6 i at_ rk sym add, P.part_Is.j4 k x6 rels (rels.length : Int) i true n kd keep al data rels0 at_ rk sym add ≠ some true := by
   intro k x6 i at_ rk sym add h
   cases k with
   | zero => simp [P.part_Is.j4] at h
   | succ k => rw [P.part_Is.j4.eq_2, if_pos rfl] at h; cases h
  cases k with
  | zero => simp [P.part_Is.l0] at h
  | succ k =>
   rw [P.part_Is.l0.eq_2] at h
   by_cases c1 : (i : Int) < (rels.length : Int)
   ·rw [if_pos c1, if_pos (by omega), if_pos c1] at h
    rw [rd_drop rels i (by omega)]
    obtain ⟨r, hrr⟩ : ∃ r, P.rd_T44 rels i = r := ⟨_, rfl⟩
    rw [hrr] at h ⊢
    have h2 : P.part_Is.j3 k e (szR r) rels (rels.length : Int) i n kd keep al data rels0 r.f0 r.f1 r.f2 r.f3 = some true := by
     unfold szR
     by_cases c : r.f1 = 1
     ·rw [if_pos c] at h ⊢; exact h
     ·rw [if_neg c] at h ⊢; exact h
    clear h
    have hz := sz_pos r
    cases k with
    | zero => simp [P.part_Is.j3] at h2
    | succ k =>
     rw [P.part_Is.j3.eq_2] at h2
     by_cases c2 : r.f0 < e
     ·rw [if_pos c2] at h2
      exact absurd h2 (j4t _ _ _ _ _ _ _)
     ·rw [if_neg c2, wrap64_small _ (by omega) (by omega)] at h2
      by_cases c3 : r.f0 > (data.size : Int) - szR r
      ·rw [if_pos c3] at h2
       exact absurd h2 (j4t _ _ _ _ _ _ _)
      ·rw [if_neg c3] at h2
       by_cases c4 : r.f2 < 0
       ·rw [decide_eq_true c4] at h2
        exact absurd h2 (j4t _ _ _ _ _ _ _)
       ·rw [decide_eq_false c4] at h2
        cases k with
        | zero => simp [P.part_Is.j4] at h2
        | succ k =>
         have ew : wrap64 (r.f0 + szR r) = r.f0 + szR r := wrap64_small _ (by omega) (by omega)
         have ei : wrap64 ((i : Int) + 1) = ((i + 1 : Nat) : Int) := by rw [wrap64_small _ (by omega) (by omega)]; rfl
         rw [P.part_Is.j4.eq_2, if_neg (by decide), if_pos (by omega), ew, if_pos (by omega), if_pos (by omega), ei] at h2
         cases ho : P.part_over.f k kd r.f0 r.f1 r.f2 r.f3 (data.extract r.f0.toNat (r.f0 + szR r).toNat) with
         | none => rw [ho] at h2; cases h2
         | some t =>
          rw [ho, Option.bind_some] at h2
          cases t with
          | false => rw [if_neg (by decide)] at h2; cases h2
          | true =>
           rw [if_pos rfl] at h2
           exact ⟨by omega, by omega, by omega, Ev.of (fun k => P.part_over.mono _ _ _ _ _ _ k) (k := k) ho, ih k (by omega) _ _ (by omega) (by omega) h2⟩
   ·rw [List.drop_of_length_le (by omega)]
    trivial
theorem l0_bwd (n : ByteArray) (kd : Int) (keep : Bool) (al : Int) (data : ByteArray) (rels0 rels : List P.S44) (hd : data.size ≤ 4096) (hr : rels.length ≤ 64) : ∀ (j : Nat) (e : Int) (i : Nat), 0 ≤ e → i + j = rels.length → RelsOk kd data e (rels.drop i) →
 Ev (fun k => P.part_Is.l0 k e rels (rels.length : Int) i n kd keep al data rels0) true := by
 intro j
 induction j with
 | zero =>
  intro e i he hi h
  exact Ev.step (fun k => P.part_Is.l0.eq_2 _ _ _ _ _ _ _ _ _ _ _) (Ev.congr (fun k => if_neg (by omega)) (Ev.now _))
 | succ j ih =>
  intro e i he hi h
  rw [rd_drop rels i (by omega)] at h
  obtain ⟨r, hrr⟩ : ∃ r, P.rd_T44 rels i = r := ⟨_, rfl⟩
  rw [hrr] at h
  obtain ⟨h1, h2, h3, h4, h5⟩ := h
  have hz := sz_pos r
  have ew : wrap64 (r.f0 + szR r) = r.f0 + szR r := wrap64_small _ (by omega) (by omega)
  have ei : wrap64 ((i : Int) + 1) = ((i + 1 : Nat) : Int) := by rw [wrap64_small _ (by omega) (by omega)]; rfl
  have e3 : wrap64 ((data.size : Int) - szR r) = (data.size : Int) - szR r := wrap64_small _ (by omega) (by omega)
  have hj4 : Ev (fun k => P.part_Is.j4 k (szR r) rels (rels.length : Int) i false n kd keep al data rels0 r.f0 r.f1 r.f2 r.f3) true := by
   refine Ev.step (fun k => P.part_Is.j4.eq_2 _ _ _ _ _ _ _ _ _ _ _ _ _ _ _ _) (Ev.congr (fun k => if_neg (by decide)) (Ev.congr (fun k => if_pos (by omega)) ?_))
   rw [ew, ei]
   exact Ev.congr (fun k => if_pos (by omega)) (Ev.congr (fun k => if_pos (by omega)) (Ev.bind h4 (Ev.congr (fun k => if_pos rfl) (ih _ _ (by omega) (by omega) h5))))
  have hj3 : Ev (fun k => P.part_Is.j3 k e (szR r) rels (rels.length : Int) i n kd keep al data rels0 r.f0 r.f1 r.f2 r.f3) true := by
   refine Ev.step (fun k => P.part_Is.j3.eq_2 _ _ _ _ _ _ _ _ _ _ _ _ _ _ _ _) (Ev.congr (fun k => if_neg (by omega)) ?_)
   rw [e3, decide_eq_false (show ¬ r.f2 < 0 by omega)]
   exact Ev.congr (fun k => if_neg (by omega)) hj4
  refine Ev.step (fun k => P.part_Is.l0.eq_2 _ _ _ _ _ _ _ _ _ _ _) (Ev.congr (fun k => if_pos (by omega)) (Ev.congr (fun k => if_pos (by omega)) (Ev.congr (fun k => if_pos (by omega)) ?_)))
  rw [hrr]
  unfold szR at hj3
  by_cases c : r.f1 = 1
  ·rw [if_pos c] at hj3
   exact Ev.congr (fun k => if_pos c) hj3
  ·rw [if_neg c] at hj3
   exact Ev.congr (fun k => if_neg c) hj3
theorem is_iff (s : Sc) : IsB s true ↔ Right s := by
 constructor
 ·intro h
  obtain ⟨ha, _⟩ := is_al h
  obtain ⟨K, hK⟩ := h
  have h : P.part_Is.f K s.n s.kd s.keep s.al s.data s.rels = some true := hK K (Nat.le_refl _)
  unfold P.part_Is.f at h
  cases hn : P.local_IsName.f K s.n with
  | none => rw [hn] at h; cases h
  | some t =>
   rw [hn, Option.bind_some] at h
   cases t with
   | false => rw [if_neg (by decide)] at h; exact absurd (is_fuel h) (by decide)
   | true =>
    rw [if_pos rfl] at h
    by_cases c2 : s.kd < 1
    ·rw [if_pos c2] at h; exact absurd (is_fuel h) (by decide)
    ·rw [if_neg c2] at h
     by_cases c3 : s.kd > 3
     ·rw [if_pos c3] at h; exact absurd (is_fuel h) (by decide)
     ·rw [if_neg c3, if_neg (by omega), decide_eq_false (show ¬ s.al > 12 by omega)] at h
      cases K with
      | zero => simp [P.part_Is.j0] at h
      | succ K =>
       rw [P.part_Is.j0.eq_2, if_neg (by decide)] at h
       have j1t : ∀ K, P.part_Is.j1 K true s.n s.kd s.keep s.al s.data s.rels ≠ some true := by
        intro K h
        cases K with
        | zero => simp [P.part_Is.j1] at h
        | succ K => rw [P.part_Is.j1.eq_2, if_pos rfl] at h; cases h
       by_cases c5 : (s.data.size : Int) > 4096
       ·rw [if_pos c5] at h; exact absurd h (j1t _)
       ·rw [if_neg c5] at h
        by_cases c6 : (s.rels.length : Int) > 64
        ·rw [decide_eq_true c6] at h; exact absurd h (j1t _)
        ·rw [decide_eq_false c6] at h
         cases K with
         | zero => simp [P.part_Is.j1] at h
         | succ K =>
          rw [P.part_Is.j1.eq_2, if_neg (by decide)] at h
          exact ⟨Ev.of (fun k => P.local_IsName.mono _ k) hn, ⟨by omega, by omega⟩, ha, by omega, by omega, l0_fwd s.n s.kd s.keep s.al s.data s.rels s.rels (by omega) (by omega) K 0 0 (by decide) (Nat.zero_le _) h⟩
 ·rintro ⟨h1, ⟨h2, h3⟩, ⟨h4, h5⟩, h6, h7, h8⟩
  unfold IsB P.part_Is.f
  refine Ev.bind h1 (Ev.congr (fun k => if_pos rfl) (Ev.congr (fun k => if_neg (by omega)) (Ev.congr (fun k => if_neg (by omega)) (Ev.congr (fun k => if_neg (by omega)) ?_))))
  rw [decide_eq_false (show ¬ s.al > 12 by omega)]
  refine Ev.step (fun k => P.part_Is.j0.eq_2 _ _ _ _ _ _ _ _) (Ev.congr (fun k => if_neg (by decide)) (Ev.congr (fun k => if_neg (by omega)) ?_))
  rw [decide_eq_false (show ¬ (s.rels.length : Int) > 64 by omega)]
  refine Ev.step (fun k => P.part_Is.j1.eq_2 _ _ _ _ _ _ _ _) (Ev.congr (fun k => if_neg (by decide)) ?_)
  exact l0_bwd s.n s.kd s.keep s.al s.data s.rels s.rels h6 h7 s.rels.length 0 0 (by decide) (by omega) h8
end Go.Proofs.YtpcdebakiccecaaGreatDoor.Pure
