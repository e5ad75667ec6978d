/- What is put in two parts is as in one; aligned twice it is as once: of what the walks compute, no program in sight. -/
import Derived.Test.YtiadfdehplkojaaGreatDoorRs52
namespace Go.Proofs.YtiadfdehplkojaaGreatDoor.Pure
open Go Go.RowKit Go.Proofs.YtiadfdehplkojaaGreatDoorW.PrintWords Go.Proofs.YtiadfdehplkojaaGreatDoorW.PrintLast Go.Proofs.YtiadfdehplkojaaGreatDoorW.PrintMore
set_option linter.unusedVariables false
set_option linter.unusedSimpArgs false
/-- A section's fields. -/
structure Sc where
 n : ByteArray
 kd : Int
 keep : Bool
 al : Int
 data : ByteArray
 rels : List P.S61
def Sc.zero : Sc := ⟨⟨#[]⟩, 0, false, 0, ⟨#[]⟩, []⟩
def IsB (s : Sc) (b : Bool) : Prop := Ev (fun k => P.part_Is.f k s.n s.kd s.keep s.al s.data s.rels) b
def PutB (s : Sc) (d : ByteArray) (r : Sc) (e : Int) : Prop := Ev (fun k => P.part_Put.f k s.n s.kd s.keep s.al s.data s.rels d) (r.n, r.kd, r.keep, r.al, r.data, r.rels, e)
def AlignB (s : Sc) (m : Int) (r : Sc) (e : Int) : Prop := Ev (fun k => P.part_Align.f k s.n s.kd s.keep s.al s.data s.rels m) (r.n, r.kd, r.keep, r.al, r.data, r.rels, e)
theorem isB_one {s : Sc} {a b : Bool} (h : IsB s a) (k : IsB s b) : a = b := Ev.one h k
theorem isB_ends (s : Sc) : ∃ b, IsB s b := is_section_ends s.n s.kd s.keep s.al s.data s.rels
theorem is_al_loop (n : ByteArray) (kd : Int) (keep : Bool) (al al' : Int) (data : ByteArray) (rels0 rels : List P.S61) : ∀ k : Nat,
 (∀ e i, P.part_Is.l0 k e rels (rels.length : Int) i n kd keep al data rels0 = P.part_Is.l0 k e rels (rels.length : Int) i n kd keep al' data rels0) ∧
 (∀ e x6 i at_ rk sym add, P.part_Is.j3 k e x6 rels (rels.length : Int) i n kd keep al data rels0 at_ rk sym add = P.part_Is.j3 k e x6 rels (rels.length : Int) i n kd keep al' data rels0 at_ rk sym add) ∧
 (∀ x6 i b at_ rk sym add, P.part_Is.j4 k x6 rels (rels.length : Int) i b n kd keep al data rels0 at_ rk sym add = P.part_Is.j4 k x6 rels (rels.length : Int) i b n kd keep al' data rels0 at_ rk sym add)
 | 0 => ⟨fun _ _ => by simp [P.part_Is.l0], fun _ _ _ _ _ _ _ => by simp [P.part_Is.j3], fun _ _ _ _ _ _ _ => by simp [P.part_Is.j4]⟩
 | k + 1 => by
  obtain ⟨i0, i3, i4⟩ := is_al_loop n kd keep al al' data rels0 rels k
  refine ⟨fun e i => ?_, fun e x6 i at_ rk sym add => ?_, fun x6 i b at_ rk sym add => ?_⟩
  ·rw [P.part_Is.l0.eq_2, P.part_Is.l0.eq_2]
   simp only [i3]
  ·rw [P.part_Is.j3.eq_2, P.part_Is.j3.eq_2]
   simp only [i4]
  ·rw [P.part_Is.j4.eq_2, P.part_Is.j4.eq_2]
   simp only [i0]
theorem is_al_j (n : ByteArray) (kd : Int) (keep : Bool) (al al' : Int) (data : ByteArray) (rels : List P.S61) (k : Nat) (b : Bool) : P.part_Is.j0 k b n kd keep al data rels = P.part_Is.j0 k b n kd keep al' data rels := by
 cases k with
 | zero => simp [P.part_Is.j0]
 | succ k =>
  rw [P.part_Is.j0.eq_2, P.part_Is.j0.eq_2]
  have h1 : ∀ b, P.part_Is.j1 k b n kd keep al data rels = P.part_Is.j1 k b n kd keep al' data rels := by
   intro b
   cases k with
   | zero => simp [P.part_Is.j1]
   | succ k =>
    rw [P.part_Is.j1.eq_2, P.part_Is.j1.eq_2]
    simp only [(is_al_loop n kd keep al al' data rels rels k).1]
  simp only [h1]
theorem is_fuel {n : ByteArray} {kd : Int} {keep : Bool} {al : Int} {data : ByteArray} {rels : List P.S61} {k : Nat} {b : Bool} (h : P.part_Is.j0 k b n kd keep al data rels = some true) : b = false := by
 cases k with
 | zero => simp [P.part_Is.j0] at h
 | succ k =>
  rw [P.part_Is.j0.eq_2] at h
  cases b with
  | false => rfl
  | true => rw [if_pos rfl] at h; cases h
theorem is_al {s : Sc} (h : IsB s true) : (0 ≤ s.al ∧ s.al ≤ 12) ∧ ∀ a, 0 ≤ a → a ≤ 12 → IsB { s with al := a } true := by
 obtain ⟨K, hK⟩ := h
 have h1 : ∀ k, K ≤ k → (0 ≤ s.al ∧ s.al ≤ 12) ∧ ∀ a, 0 ≤ a → a ≤ 12 → P.part_Is.f k s.n s.kd s.keep a s.data s.rels = some true := by
  intro k hk
  have h : P.part_Is.f k s.n s.kd s.keep s.al s.data s.rels = some true := hK k hk
  unfold P.part_Is.f at h
  cases hn : P.local_IsName.f k s.n with
  | none => rw [hn] at h; cases h
  | some t =>
   rw [hn, Option.bind_some] at h
   by_cases c1 : t = true
   ·rw [if_pos c1] at h
    by_cases c2 : s.kd < 1
    ·rw [if_pos c2] at h
     exact absurd (is_fuel h) (by decide)
    ·rw [if_neg c2] at h
     by_cases c3 : s.kd > 3
     ·rw [if_pos c3] at h
      exact absurd (is_fuel h) (by decide)
     ·rw [if_neg c3] at h
      by_cases c4 : s.al < 0
      ·rw [if_pos c4] at h
       exact absurd (is_fuel h) (by decide)
      ·rw [if_neg c4] at h
       have c5 : ¬ s.al > 12 := of_decide_eq_false (is_fuel h)
       refine ⟨⟨by omega, by omega⟩, fun a a0 a1 => ?_⟩
       unfold P.part_Is.f
       rw [hn, Option.bind_some, if_pos c1, if_neg c2, if_neg c3, if_neg (by omega), decide_eq_false (show ¬ a > 12 by omega), is_al_j _ _ _ a s.al]
       rw [decide_eq_false c5] at h
       exact h
   ·rw [if_neg c1] at h
    exact absurd (is_fuel h) (by decide)
 exact ⟨(h1 K (Nat.le_refl _)).1, fun a a0 a1 => ⟨K, fun k hk => (h1 k hk).2 a a0 a1⟩⟩
theorem grow_plain (s : Sc) (d : ByteArray) (hs : s.data.size ≤ 5000) (hr : s.rels.length ≤ 80) (hd : d.size ≤ 20000) :
 P.part_grow.f d [] s.n s.kd s.keep s.al s.data s.rels = if 4096 < s.data.size + d.size ∨ 64 < s.rels.length then some (⟨#[]⟩, 0, false, 0, ⟨#[]⟩, [], 2) else some (s.n, s.kd, s.keep, s.al, s.data ++ d, s.rels, 0) := by
 unfold P.part_grow.f
 have e1 : wrap64 (4096 - (s.data.size : Int)) = 4096 - (s.data.size : Int) := wrap64_small _ (by omega) (by omega)
 have e2 : wrap64 ((s.rels.length : Int) + (([] : List P.S61).length : Int)) = (s.rels.length : Int) := by
  rw [show ((([] : List P.S61).length : Nat) : Int) = 0 from rfl, Int.add_zero]
  exact wrap64_small _ (by omega) (by omega)
 rw [e1, e2]
 by_cases c1 : (d.size : Int) > 4096 - (s.data.size : Int)
 ·rw [if_pos c1, if_pos (show 4096 < s.data.size + d.size ∨ 64 < s.rels.length from .inl (by omega))]
 ·rw [if_neg c1]
  by_cases c2 : (s.rels.length : Int) > 64
  ·rw [if_pos c2, if_pos (show 4096 < s.data.size + d.size ∨ 64 < s.rels.length from .inr (by omega))]
  ·rw [if_neg c2, if_neg (show ¬ (4096 < s.data.size + d.size ∨ 64 < s.rels.length) by omega), if_pos (show s.data.size + d.size ≤ 9223372036854775807 by omega), if_pos (show ([] : List P.S61).length + s.rels.length < 4398046511104 by simp; omega), Option.bind_some, if_pos (by simp; omega)]
   simp
theorem put_of (s : Sc) (d : ByteArray) (hs : s.data.size ≤ 5000) (hr : s.rels.length ≤ 80) (hd : d.size ≤ 20000) (b : Bool) (hb : IsB s b) :
 if b = true then (if 4096 < s.data.size + d.size ∨ 64 < s.rels.length then PutB s d Sc.zero 2 else PutB s d { s with data := s.data ++ d } 0) else PutB s d Sc.zero 1 := by
 have hg := grow_plain s d hs hr hd
 cases b with
 | false =>
  rw [if_neg (by decide)]
  unfold PutB P.part_Put.f
  exact Ev.bind hb (Ev.congr (fun k => if_neg (by decide)) (Ev.now _))
 | true =>
  rw [if_pos rfl]
  by_cases c : 4096 < s.data.size + d.size ∨ 64 < s.rels.length
  ·rw [if_pos c] at hg ⊢
   unfold PutB P.part_Put.f
   refine Ev.bind hb (Ev.congr (fun k => if_pos rfl) ?_)
   rw [hg]
   exact Ev.now _
  ·rw [if_neg c] at hg ⊢
   unfold PutB P.part_Put.f
   refine Ev.bind hb (Ev.congr (fun k => if_pos rfl) ?_)
   rw [hg]
   exact Ev.now _
def Small (s : Sc) : Prop := s.data.size ≤ 5000 ∧ s.rels.length ≤ 80
def zeros (p : Nat) : ByteArray := ⟨(Go.Lib.repeatL [0] p).toArray⟩
theorem zeros_size (p : Nat) : (zeros p).size = p := by
 show (Go.Lib.repeatL [0] p).toArray.size = p
 rw [List.size_toArray, Go.Lib.repeatL_length]
 simp
def pad (s : Sc) (m : Nat) : Nat := (2 ^ m - s.data.size % 2 ^ m) % 2 ^ m
theorem pow_le (m : Nat) (h : m ≤ 12) : 2 ^ m ≤ 4096 := Nat.pow_le_pow_right (n := 2) (by decide) h
theorem align_of (s : Sc) (hs : Small s) (m : Int) (b : Bool) (hb : IsB s b) :
 if b = true then (if m < 0 ∨ 12 < m then AlignB s m Sc.zero 4 else if 4096 < s.data.size + pad s m.toNat ∨ 64 < s.rels.length then AlignB s m Sc.zero 2 else AlignB s m { s with data := s.data ++ zeros (pad s m.toNat), al := mx s.al m } 0) else AlignB s m Sc.zero 1 := by
 cases b with
 | false =>
  rw [if_neg (by decide)]
  unfold AlignB P.part_Align.f
  exact Ev.bind hb (Ev.congr (fun k => if_neg (by decide)) (Ev.now _))
 | true =>
  rw [if_pos rfl]
  by_cases c : m < 0 ∨ 12 < m
  ·rw [if_pos c]
   have hj : Ev (fun k => P.part_Align.j0 k m true s.n s.kd s.keep s.al s.data s.rels) (⟨#[]⟩, 0, false, 0, ⟨#[]⟩, [], 4) := Ev.step (fun k => P.part_Align.j0.eq_2 _ _ _ _ _ _ _ _ _) (Ev.congr (fun k => if_pos rfl) (Ev.now _))
   unfold AlignB P.part_Align.f
   refine Ev.bind hb (Ev.congr (fun k => if_pos rfl) ?_)
   by_cases c1 : m < 0
   ·exact Ev.congr (fun k => if_pos c1) hj
   ·refine Ev.congr (fun k => if_neg c1) ?_
    rw [decide_eq_true (show m > 12 by omega)]
    exact hj
  ·rw [if_neg c]
   obtain ⟨q, rfl⟩ : ∃ q : Nat, m = q := ⟨m.toNat, by omega⟩
   rw [Int.toNat_natCast]
   have hq : 2 ^ q ≤ 4096 := pow_le q (by omega)
   have hq1 : 0 < 2 ^ q := Nat.pow_pos (by decide)
   have hmod : s.data.size % 2 ^ q < 2 ^ q := Nat.mod_lt _ hq1
   have esh : shl .i64 1 (q : Int) = ((2 ^ q : Nat) : Int) := by
    unfold shl
    rw [Int.toNat_natCast, Nat.min_eq_left (by show q ≤ 64; omega), Int.one_mul]
    have e1 : ((2 : Int) ^ q) = ((2 ^ q : Nat) : Int) := by rw [Int.natCast_pow]; rfl
    rw [e1]
    exact (i64_w _).trans (wrap64_small _ (by omega) (by omega))
   have ep : Int.tmod (wrap64 (((2 ^ q : Nat) : Int) - ((s.data.size : Int) % ((2 ^ q : Nat) : Int)))) ((2 ^ q : Nat) : Int) = ((pad s q : Nat) : Int) := by
    have e0 : ((2 ^ q : Nat) : Int) - ((s.data.size : Int) % ((2 ^ q : Nat) : Int)) = ((2 ^ q - s.data.size % 2 ^ q : Nat) : Int) := by
     rw [← Int.natCast_emod]
     omega
    rw [e0, wrap64_small _ (by omega) (by omega), Int.tmod_eq_emod_of_nonneg (by omega), ← Int.natCast_emod]
    rfl
   have hpad : pad s q < 2 ^ q := Nat.mod_lt _ hq1
   have hg := grow_plain s (zeros (pad s q)) hs.1 hs.2 (by rw [zeros_size]; omega)
   rw [zeros_size] at hg
   have hrep : P.strings_Repeat.f (⟨#[0]⟩ : ByteArray) ((pad s q : Nat) : Int) = some (zeros (pad s q)) := by
    unfold P.strings_Repeat.f
    rw [if_pos (show (⟨#[0]⟩ : ByteArray).size = 1 from rfl), if_pos ⟨by omega, by omega⟩, Int.toNat_natCast]
    rfl
   have hne : ¬ ((2 ^ q : Nat) : Int) = 0 := by omega
   unfold AlignB P.part_Align.f
   by_cases c3 : 4096 < s.data.size + pad s q ∨ 64 < s.rels.length
   ·rw [if_pos c3] at hg ⊢
    refine Ev.bind hb (Ev.congr (fun k => if_pos rfl) (Ev.congr (fun k => if_neg (by omega)) ?_))
    rw [decide_eq_false (show ¬ (q : Int) > 12 by omega)]
    refine Ev.step (fun k => P.part_Align.j0.eq_2 _ _ _ _ _ _ _ _ _) ?_
    rw [esh, ep, hrep, Option.bind_some, hg, Option.bind_some]
    exact Ev.congr (fun k => if_neg (by decide)) (Ev.congr (fun k => if_pos (by omega)) (Ev.congr (fun k => if_neg hne) (Ev.congr (fun k => if_neg (by decide)) (Ev.now _))))
   ·rw [if_neg c3] at hg ⊢
    refine Ev.bind hb (Ev.congr (fun k => if_pos rfl) (Ev.congr (fun k => if_neg (by omega)) ?_))
    rw [decide_eq_false (show ¬ (q : Int) > 12 by omega)]
    refine Ev.step (fun k => P.part_Align.j0.eq_2 _ _ _ _ _ _ _ _ _) ?_
    rw [esh, ep, hrep, Option.bind_some, hg, Option.bind_some]
    exact Ev.congr (fun k => if_neg (by decide)) (Ev.congr (fun k => if_pos (by omega)) (Ev.congr (fun k => if_neg hne) (Ev.congr (fun k => if_pos rfl) (Ev.now _))))
end Go.Proofs.YtiadfdehplkojaaGreatDoor.Pure
