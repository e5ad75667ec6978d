/- When a section is right, told plainly; what grows stays right. -/
import Derived.Test.YtiadfdehplkojaaGreatDoorRs53
namespace Go.Proofs.YtiadfdehplkojaaGreatDoor.Pure
open Go Go.RowKit Go.Proofs.YtiadfdehplkojaaGreatDoorW.PrintWords Go.Proofs.YtiadfdehplkojaaGreatDoorW.PrintLast Go.Proofs.YtiadfdehplkojaaGreatDoorW.PrintMore
set_option linter.unusedVariables false
set_option linter.unusedSimpArgs false
def OverB (kd : Int) (r : P.S61) (d : ByteArray) (b : Bool) : Prop := Ev (fun k => P.part_over.f k kd r.f0 r.f1 r.f2 r.f3 d) b
def szR (r : P.S61) : Int := if r.f1 = 1 then 8 else 4
def RelsOk (kd : Int) (data : ByteArray) : Int → List P.S61 → Prop
 | _, [] => True
 | e, r :: l => e ≤ r.f0 ∧ r.f0 + szR r ≤ data.size ∧ 0 ≤ r.f2 ∧ OverB kd r (data.extract r.f0.toNat (r.f0 + szR r).toNat) true ∧ RelsOk kd data (r.f0 + szR r) l
structure Right (s : Sc) : Prop where
 name : Ev (fun k => P.local_IsName.f k s.n) true
 kind : 1 ≤ s.kd ∧ s.kd ≤ 3
 al : 0 ≤ s.al ∧ s.al ≤ 12
 data : s.data.size ≤ 4096
 rels : s.rels.length ≤ 64
 each : RelsOk s.kd s.data 0 s.rels
theorem sz_pos (r : P.S61) : szR r = 8 ∨ szR r = 4 := by unfold szR; split <;> simp
theorem rd_drop (l : List P.S61) (i : Nat) (hi : i < l.length) : l.drop i = P.rd_T61 l i :: l.drop (i + 1) := by
 rw [List.drop_eq_getElem_cons hi]
 unfold P.rd_T61
 rw [Int.toNat_natCast, List.getD_eq_getElem?_getD, List.getElem?_eq_getElem hi]
 rfl
theorem l0_fwd (n : ByteArray) (kd : Int) (keep : Bool) (al : Int) (data : ByteArray) (rels0 rels : List P.S61) (hd : data.size ≤ 4096) (hr : rels.length ≤ 64) : ∀ (k : Nat) (e : Int) (i : Nat), 0 ≤ e → i ≤ rels.length →
 P.part_Is.l0 k e rels (rels.length : Int) i n kd keep al data rels0 = some true → RelsOk kd data e (rels.drop i) := by
 intro k
 induction k using Nat.strongRecOn with
 | ind k ih =>
  intro e i he hi h
  have j4t : ∀ k x6 i at_ rk sym add, P.part_Is.j4 k x6 rels (rels.length : Int) i true n kd keep al data rels0 at_ rk sym add ≠ some true := by
   intro k x6 i at_ rk sym add h
   cases k with
   | zero => simp [P.part_Is.j4] at h
   | succ k => rw [P.part_Is.j4.eq_2, if_pos rfl] at h; cases h
  cases k with
  | zero => simp [P.part_Is.l0] at h
  | succ k =>
   rw [P.part_Is.l0.eq_2] at h
   by_cases c1 : (i : Int) < (rels.length : Int)
   ·rw [if_pos c1, if_pos (by omega), if_pos c1] at h
    rw [rd_drop rels i (by omega)]
    obtain ⟨r, hrr⟩ : ∃ r, P.rd_T61 rels i = r := ⟨_, rfl⟩
    rw [hrr] at h ⊢
    have h2 : P.part_Is.j3 k e (szR r) rels (rels.length : Int) i n kd keep al data rels0 r.f0 r.f1 r.f2 r.f3 = some true := by
     unfold szR
     by_cases c : r.f1 = 1
     ·rw [if_pos c] at h ⊢; exact h
     ·rw [if_neg c] at h ⊢; exact h
    clear h
    have hz := sz_pos r
    cases k with
    | zero => simp [P.part_Is.j3] at h2
    | succ k =>
     rw [P.part_Is.j3.eq_2] at h2
     by_cases c2 : r.f0 < e
     ·rw [if_pos c2] at h2
      exact absurd h2 (j4t _ _ _ _ _ _ _)
     ·rw [if_neg c2, wrap64_small _ (by omega) (by omega)] at h2
      by_cases c3 : r.f0 > (data.size : Int) - szR r
      ·rw [if_pos c3] at h2
       exact absurd h2 (j4t _ _ _ _ _ _ _)
      ·rw [if_neg c3] at h2
       by_cases c4 : r.f2 < 0
       ·rw [decide_eq_true c4] at h2
        exact absurd h2 (j4t _ _ _ _ _ _ _)
       ·rw [decide_eq_false c4] at h2
        cases k with
        | zero => simp [P.part_Is.j4] at h2
        | succ k =>
         have ew : wrap64 (r.f0 + szR r) = r.f0 + szR r := wrap64_small _ (by omega) (by omega)
         have ei : wrap64 ((i : Int) + 1) = ((i + 1 : Nat) : Int) := by rw [wrap64_small _ (by omega) (by omega)]; rfl
         rw [P.part_Is.j4.eq_2, if_neg (by decide), if_pos (by omega), ew, if_pos (by omega), if_pos (by omega), ei] at h2
         cases ho : P.part_over.f k kd r.f0 r.f1 r.f2 r.f3 (data.extract r.f0.toNat (r.f0 + szR r).toNat) with
         | none => rw [ho] at h2; cases h2
         | some t =>
          rw [ho, Option.bind_some] at h2
          cases t with
          | false => rw [if_neg (by decide)] at h2; cases h2
          | true =>
           rw [if_pos rfl] at h2
           exact ⟨by omega, by omega, by omega, Ev.of (fun k => P.part_over.mono _ _ _ _ _ _ k) (k := k) ho, ih k (by omega) _ _ (by omega) (by omega) h2⟩
   ·rw [List.drop_of_length_le (by omega)]
    trivial
theorem l0_bwd (n : ByteArray) (kd : Int) (keep : Bool) (al : Int) (data : ByteArray) (rels0 rels : List P.S61) (hd : data.size ≤ 4096) (hr : rels.length ≤ 64) : ∀ (j : Nat) (e : Int) (i : Nat), 0 ≤ e → i + j = rels.length → RelsOk kd data e (rels.drop i) →
 Ev (fun k => P.part_Is.l0 k e rels (rels.length : Int) i n kd keep al data rels0) true := by
 intro j
 induction j with
 | zero =>
  intro e i he hi h
  exact Ev.step (fun k => P.part_Is.l0.eq_2 _ _ _ _ _ _ _ _ _ _ _) (Ev.congr (fun k => if_neg (by omega)) (Ev.now _))
 | succ j ih =>
  intro e i he hi h
  rw [rd_drop rels i (by omega)] at h
  obtain ⟨r, hrr⟩ : ∃ r, P.rd_T61 rels i = r := ⟨_, rfl⟩
  rw [hrr] at h
  obtain ⟨h1, h2, h3, h4, h5⟩ := h
  have hz := sz_pos r
  have ew : wrap64 (r.f0 + szR r) = r.f0 + szR r := wrap64_small _ (by omega) (by omega)
  have ei : wrap64 ((i : Int) + 1) = ((i + 1 : Nat) : Int) := by rw [wrap64_small _ (by omega) (by omega)]; rfl
  have e3 : wrap64 ((data.size : Int) - szR r) = (data.size : Int) - szR r := wrap64_small _ (by omega) (by omega)
  have hj4 : Ev (fun k => P.part_Is.j4 k (szR r) rels (rels.length : Int) i false n kd keep al data rels0 r.f0 r.f1 r.f2 r.f3) true := by
   refine Ev.step (fun k => P.part_Is.j4.eq_2 _ _ _ _ _ _ _ _ _ _ _ _ _ _ _ _) (Ev.congr (fun k => if_neg (by decide)) (Ev.congr (fun k => if_pos (by omega)) ?_))
   rw [ew, ei]
   exact Ev.congr (fun k => if_pos (by omega)) (Ev.congr (fun k => if_pos (by omega)) (Ev.bind h4 (Ev.congr (fun k => if_pos rfl) (ih _ _ (by omega) (by omega) h5))))
  have hj3 : Ev (fun k => P.part_Is.j3 k e (szR r) rels (rels.length : Int) i n kd keep al data rels0 r.f0 r.f1 r.f2 r.f3) true := by
   refine Ev.step (fun k => P.part_Is.j3.eq_2 _ _ _ _ _ _ _ _ _ _ _ _ _ _ _ _) (Ev.congr (fun k => if_neg (by omega)) ?_)
   rw [e3, decide_eq_false (show ¬ r.f2 < 0 by omega)]
   exact Ev.congr (fun k => if_neg (by omega)) hj4
  refine Ev.step (fun k => P.part_Is.l0.eq_2 _ _ _ _ _ _ _ _ _ _ _) (Ev.congr (fun k => if_pos (by omega)) (Ev.congr (fun k => if_pos (by omega)) (Ev.congr (fun k => if_pos (by omega)) ?_)))
  rw [hrr]
  unfold szR at hj3
  by_cases c : r.f1 = 1
  ·rw [if_pos c] at hj3
   exact Ev.congr (fun k => if_pos c) hj3
  ·rw [if_neg c] at hj3
   exact Ev.congr (fun k => if_neg c) hj3
theorem is_iff (s : Sc) : IsB s true ↔ Right s := by
 constructor
 ·intro h
  obtain ⟨ha, _⟩ := is_al h
  obtain ⟨K, hK⟩ := h
  have h : P.part_Is.f K s.n s.kd s.keep s.al s.data s.rels = some true := hK K (Nat.le_refl _)
  unfold P.part_Is.f at h
  cases hn : P.local_IsName.f K s.n with
  | none => rw [hn] at h; cases h
  | some t =>
   rw [hn, Option.bind_some] at h
   cases t with
   | false => rw [if_neg (by decide)] at h; exact absurd (is_fuel h) (by decide)
   | true =>
    rw [if_pos rfl] at h
    by_cases c2 : s.kd < 1
    ·rw [if_pos c2] at h; exact absurd (is_fuel h) (by decide)
    ·rw [if_neg c2] at h
     by_cases c3 : s.kd > 3
     ·rw [if_pos c3] at h; exact absurd (is_fuel h) (by decide)
     ·rw [if_neg c3, if_neg (by omega), decide_eq_false (show ¬ s.al > 12 by omega)] at h
      cases K with
      | zero => simp [P.part_Is.j0] at h
      | succ K =>
       rw [P.part_Is.j0.eq_2, if_neg (by decide)] at h
       have j1t : ∀ K, P.part_Is.j1 K true s.n s.kd s.keep s.al s.data s.rels ≠ some true := by
        intro K h
        cases K with
        | zero => simp [P.part_Is.j1] at h
        | succ K => rw [P.part_Is.j1.eq_2, if_pos rfl] at h; cases h
       by_cases c5 : (s.data.size : Int) > 4096
       ·rw [if_pos c5] at h; exact absurd h (j1t _)
       ·rw [if_neg c5] at h
        by_cases c6 : (s.rels.length : Int) > 64
        ·rw [decide_eq_true c6] at h; exact absurd h (j1t _)
        ·rw [decide_eq_false c6] at h
         cases K with
         | zero => simp [P.part_Is.j1] at h
         | succ K =>
          rw [P.part_Is.j1.eq_2, if_neg (by decide)] at h
          exact ⟨Ev.of (fun k => P.local_IsName.mono _ k) hn, ⟨by omega, by omega⟩, ha, by omega, by omega, l0_fwd s.n s.kd s.keep s.al s.data s.rels s.rels (by omega) (by omega) K 0 0 (by decide) (Nat.zero_le _) h⟩
 ·rintro ⟨h1, ⟨h2, h3⟩, ⟨h4, h5⟩, h6, h7, h8⟩
  unfold IsB P.part_Is.f
  refine Ev.bind h1 (Ev.congr (fun k => if_pos rfl) (Ev.congr (fun k => if_neg (by omega)) (Ev.congr (fun k => if_neg (by omega)) (Ev.congr (fun k => if_neg (by omega)) ?_))))
  rw [decide_eq_false (show ¬ s.al > 12 by omega)]
  refine Ev.step (fun k => P.part_Is.j0.eq_2 _ _ _ _ _ _ _ _) (Ev.congr (fun k => if_neg (by decide)) (Ev.congr (fun k => if_neg (by omega)) ?_))
  rw [decide_eq_false (show ¬ (s.rels.length : Int) > 64 by omega)]
  refine Ev.step (fun k => P.part_Is.j1.eq_2 _ _ _ _ _ _ _ _) (Ev.congr (fun k => if_neg (by decide)) ?_)
  exact l0_bwd s.n s.kd s.keep s.al s.data s.rels s.rels h6 h7 s.rels.length 0 0 (by decide) (by omega) h8
theorem rels_more (kd : Int) (data more : ByteArray) : ∀ (l : List P.S61) (e : Int), 0 ≤ e → RelsOk kd data e l → RelsOk kd (data ++ more) e l
 | [], _, _, _ => trivial
 | r :: l, e, he, ⟨h1, h2, h3, h4, h5⟩ => by
  have hz := sz_pos r
  have hs : (data ++ more).size = data.size + more.size := ByteArray.size_append
  exact ⟨h1, by omega, h3, by rw [extract_more _ _ _ _ (by omega)]; exact h4, rels_more kd data more l _ (by omega) h5⟩
theorem rels_snoc (kd : Int) (data : ByteArray) (d : Int) (r : P.S61) (hr : ∀ e, 0 ≤ e → e ≤ d → RelsOk kd data e [r]) : ∀ (l : List P.S61) (e : Int), 0 ≤ e → e ≤ d → (∀ q ∈ l, q.f0 + szR q ≤ d) → RelsOk kd data e l → RelsOk kd data e (l ++ [r])
 | [], e, he, hd, _, _ => hr e he hd
 | q :: l, e, he, hd, hq, ⟨h1, h2, h3, h4, h5⟩ => ⟨h1, h2, h3, h4, rels_snoc kd data d r hr l _ (by have := sz_pos q; omega) (hq q List.mem_cons_self) (fun x hx => hq x (List.mem_cons_of_mem _ hx)) h5⟩
theorem rels_ends (kd : Int) (data : ByteArray) : ∀ (l : List P.S61) (e : Int), RelsOk kd data e l → ∀ q ∈ l, q.f0 + szR q ≤ data.size
 | [], _, _, q, hq => by cases hq
 | r :: l, e, ⟨h1, h2, h3, h4, h5⟩, q, hq => by
  rcases List.mem_cons.1 hq with rfl | hq
  ·exact h2
  ·exact rels_ends kd data l _ h5 q hq
theorem right_more {s : Sc} (h : Right s) (more : ByteArray) (hm : s.data.size + more.size ≤ 4096) : Right { s with data := s.data ++ more } :=
 ⟨h.name, h.kind, h.al, by show (s.data ++ more).size ≤ 4096; rw [ByteArray.size_append]; exact hm, h.rels, rels_more s.kd s.data more s.rels 0 (by decide) h.each⟩
theorem extract_tail (a b : ByteArray) (n m : Nat) (h : n = a.size) (hm : m = a.size + b.size) : (a ++ b).extract n m = b := by
 have e1 : a.size = a.data.size := rfl
 have e2 : b.size = b.data.size := rfl
 refine ByteArray.ext ?_
 rw [ByteArray.data_extract, ByteArray.data_append, h, hm, Array.extract_append, e1, e2, Nat.sub_self, Nat.add_sub_cancel_left]
 simp only [Array.extract_size]
 refine (congrArg (· ++ b.data) ?_).trans (Array.empty_append)
 exact Array.eq_empty_of_size_eq_zero (by simp)
theorem right_rel {s : Sc} (h : Right s) (more : ByteArray) (r : P.S61) (hm : s.data.size + more.size ≤ 4096) (hl : s.rels.length + 1 ≤ 64) (h0 : r.f0 = s.data.size) (hz : szR r = more.size) (hs : 0 ≤ r.f2) (ho : OverB s.kd r more true) :
 Right { s with data := s.data ++ more, rels := s.rels ++ [r] } := by
 have hsz : (s.data ++ more).size = s.data.size + more.size := ByteArray.size_append
 refine ⟨h.name, h.kind, h.al, by show (s.data ++ more).size ≤ 4096; omega, by show (s.rels ++ [r]).length ≤ 64; simp; omega, ?_⟩
 refine rels_snoc s.kd (s.data ++ more) s.data.size r (fun e e0 e1 => ⟨by omega, by omega, hs, ?_, trivial⟩) s.rels 0 (by decide) (by omega) (fun q hq => rels_ends s.kd s.data s.rels 0 h.each q hq) (rels_more s.kd s.data more s.rels 0 (by decide) h.each)
 rw [extract_tail s.data more _ _ (by omega) (by omega)]
 exact ho
end Go.Proofs.YtiadfdehplkojaaGreatDoor.Pure
