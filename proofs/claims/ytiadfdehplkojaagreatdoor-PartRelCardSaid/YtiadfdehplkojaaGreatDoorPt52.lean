/- A word that is put: what it makes of a section; and a section stays right when bytes are put behind. The law of 'PartRel', of what the walks compute. -/
import Derived.Test.YtiadfdehplkojaaGreatDoorPt51
import Derived.Test.YtiadfdehplkojaaGreatDoorPt46
namespace Go.Proofs.YtiadfdehplkojaaGreatDoor.Pure
open Go Go.RowKit Go.Proofs.YtiadfdehplkojaaGreatDoorW.PrintWords Go.Proofs.YtiadfdehplkojaaGreatDoorW.PrintLast Go.Proofs.YtiadfdehplkojaaGreatDoorW.PrintMore
set_option linter.unusedVariables false
set_option linter.unusedSimpArgs false
theorem Ev.plain {α : Type} {c : Option α} {r : α} (h : c = some r) : Ev (fun _ => c) r := ⟨0, fun _ _ => h⟩
set_option maxRecDepth 100000 in
theorem grown_g : P.cleatlaw16_grown.g 400 = some true := by kernel_rfl
theorem grown_ev : Ev (fun k => P.cleatlaw16_grown.f k) true := Ev.of P.cleatlaw16_grown.mono (k := 400) (by unfold P.cleatlaw16_grown.f; rw [if_pos grown_g])
theorem is_loop_ends (n : ByteArray) (kd : Int) (keep : Bool) (al : Int) (data : ByteArray) (rels0 rels : List P.S61) (hd : data.size ≤ 4096) (hr : rels.length ≤ 100000) :
 ∀ (j : Nat) (e i : Int), 0 ≤ e → 0 ≤ i → i + j = rels.length → Ends (fun k => P.part_Is.l0 k e rels (rels.length : Int) i n kd keep al data rels0) := by
 intro j
 induction j with
 | zero =>
  intro e i he hi hj
  exact Ends.step (fun k => P.part_Is.l0.eq_2 _ _ _ _ _ _ _ _ _ _ _) (Ends.ite (fun h => absurd h (by omega)) fun _ => Ends.now _)
 | succ j ih =>
  intro e i he hi hj
  have e2 : wrap64 (i + 1) = i + 1 := wrap64_small _ (by omega) (by omega)
  have h4 : ∀ (x6 : Int) (b : Bool) (at_ rk sym add : Int), (x6 = 8 ∧ rk = 1 ∨ x6 = 4) → (b = false → e ≤ at_ ∧ at_ ≤ (data.size : Int) - x6) → Ends (fun k => P.part_Is.j4 k x6 rels (rels.length : Int) i b n kd keep al data rels0 at_ rk sym add) := by
   intro x6 b at_ rk sym add hx hb
   refine Ends.step (fun k => P.part_Is.j4.eq_2 _ _ _ _ _ _ _ _ _ _ _ _ _ _ _ _) (Ends.ite (fun _ => Ends.now _) fun hn => ?_)
   obtain ⟨b1, b2⟩ := hb (by simpa using hn)
   have e3 : wrap64 (at_ + x6) = at_ + x6 := wrap64_small _ (by omega) (by omega)
   refine Ends.ite (fun _ => Ends.ite (fun _ => Ends.ite (fun _ => ?_) fun h => absurd (by omega) h) fun h => absurd (by omega) h) fun h => absurd (by omega) h
   refine Ends.bind (over_ends kd at_ rk sym add _ ?_) fun _ _ => Ends.ite (fun _ => ?_) fun _ => Ends.now _
   ·rcases hx with ⟨_, h⟩ | h
    ·exact .inl h
    ·refine .inr ?_
     rw [ByteArray.size_extract, e3]
     omega
   ·rw [e2, e3]
    exact ih (at_ + x6) (i + 1) (by omega) (by omega) (by omega)
  have h3 : ∀ (x6 : Int) (at_ rk sym add : Int), (x6 = 8 ∧ rk = 1 ∨ x6 = 4) → Ends (fun k => P.part_Is.j3 k e x6 rels (rels.length : Int) i n kd keep al data rels0 at_ rk sym add) := by
   intro x6 at_ rk sym add hx
   have e4 : wrap64 ((data.size : Int) - x6) = (data.size : Int) - x6 := wrap64_small _ (by omega) (by omega)
   exact Ends.step (fun k => P.part_Is.j3.eq_2 _ _ _ _ _ _ _ _ _ _ _ _ _ _ _ _) (Ends.ite (fun _ => h4 _ _ _ _ _ _ hx (fun h => by cases h)) fun c1 => Ends.ite (fun _ => h4 _ _ _ _ _ _ hx (fun h => by cases h)) fun c2 => h4 _ _ _ _ _ _ hx (fun _ => by rw [e4] at c2; omega))
  exact Ends.step (fun k => P.part_Is.l0.eq_2 _ _ _ _ _ _ _ _ _ _ _) (Ends.ite (fun _ => Ends.ite (fun _ => Ends.ite (fun _ => Ends.ite (fun c => h3 _ _ _ _ _ (.inl ⟨rfl, c⟩)) fun _ => h3 _ _ _ _ _ (.inr rfl)) fun h => absurd (by omega) h) fun h => absurd hi h) fun h => absurd (by omega) h)
theorem is_section_ends (n : ByteArray) (kd : Int) (keep : Bool) (al : Int) (data : ByteArray) (rels : List P.S61) : Ends (fun k => P.part_Is.f k n kd keep al data rels) := by
 have h1 : ∀ b : Bool, (b = false → data.size ≤ 4096 ∧ rels.length ≤ 64) → Ends (fun k => P.part_Is.j1 k b n kd keep al data rels) := fun b hb =>
  Ends.step (fun k => P.part_Is.j1.eq_2 _ _ _ _ _ _ _ _) (Ends.ite (fun _ => Ends.now _) fun h => by
   obtain ⟨p, q⟩ := hb (by simpa using h)
   exact is_loop_ends n kd keep al data rels rels p (by omega) rels.length 0 0 (by decide) (by decide) (by omega))
 have h0 : ∀ b : Bool, Ends (fun k => P.part_Is.j0 k b n kd keep al data rels) := fun b =>
  Ends.step (fun k => P.part_Is.j0.eq_2 _ _ _ _ _ _ _ _) (Ends.ite (fun _ => Ends.now _) fun _ => Ends.ite (fun _ => h1 _ (fun h => by cases h)) fun c => h1 _ (fun h => ⟨by omega, by have := of_decide_eq_false h; omega⟩))
 exact Ends.bind (name_ends n) fun _ _ => Ends.ite (fun _ => Ends.ite (fun _ => h0 _) fun _ => Ends.ite (fun _ => h0 _) fun _ => Ends.ite (fun _ => h0 _) fun _ => h0 _) fun _ => h0 _
theorem extract_more (d m : ByteArray) (a b : Nat) (h : b ≤ d.size) : (d ++ m).extract a b = d.extract a b := by
 refine ByteArray.ext ?_
 rw [ByteArray.data_extract, ByteArray.data_extract, ByteArray.data_append, Array.extract_append, show b - d.data.size = 0 from Nat.sub_eq_zero_of_le h]
 simp
theorem is_more (n : ByteArray) (kd : Int) (keep : Bool) (al : Int) (data more : ByteArray) (rels0 rels : List P.S61) (hd : data.size + more.size ≤ 4096) : ∀ k : Nat,
 (∀ e i, P.part_Is.l0 k e rels (rels.length : Int) i n kd keep al data rels0 = some true → P.part_Is.l0 k e rels (rels.length : Int) i n kd keep al (data ++ more) rels0 = some true) ∧
 (∀ e x6 i at_ rk sym add, 0 ≤ x6 → x6 ≤ 8 → P.part_Is.j3 k e x6 rels (rels.length : Int) i n kd keep al data rels0 at_ rk sym add = some true → P.part_Is.j3 k e x6 rels (rels.length : Int) i n kd keep al (data ++ more) rels0 at_ rk sym add = some true) ∧
 (∀ x6 i b at_ rk sym add, P.part_Is.j4 k x6 rels (rels.length : Int) i b n kd keep al data rels0 at_ rk sym add = some true → P.part_Is.j4 k x6 rels (rels.length : Int) i b n kd keep al (data ++ more) rels0 at_ rk sym add = some true)
 | 0 => ⟨fun _ _ h => by simp [P.part_Is.l0] at h, fun _ _ _ _ _ _ _ _ _ h => by simp [P.part_Is.j3] at h, fun _ _ _ _ _ _ _ h => by simp [P.part_Is.j4] at h⟩
 | k + 1 => by
  obtain ⟨i0, i3, i4⟩ := is_more n kd keep al data more rels0 rels hd k
  have hs : (data ++ more).size = data.size + more.size := ByteArray.size_append
  refine ⟨fun e i h => ?_, fun e x6 i at_ rk sym add h0 h8 h => ?_, fun x6 i b at_ rk sym add h => ?_⟩
  ·rw [P.part_Is.l0.eq_2] at h ⊢
   by_cases c1 : i < (rels.length : Int)
   ·rw [if_pos c1] at h ⊢
    by_cases c2 : 0 ≤ i
    ·rw [if_pos c2] at h ⊢
     rw [if_pos c1] at h ⊢
     by_cases c3 : (P.rd_T61 rels i).f1 = 1
     ·rw [if_pos c3] at h ⊢
      exact i3 _ _ _ _ _ _ _ (by decide) (by decide) h
     ·rw [if_neg c3] at h ⊢
      exact i3 _ _ _ _ _ _ _ (by decide) (by decide) h
    ·rw [if_neg c2] at h
     cases h
   ·rw [if_neg c1]
  ·rw [P.part_Is.j3.eq_2] at h ⊢
   by_cases c1 : at_ < e
   ·rw [if_pos c1] at h ⊢
    exact i4 _ _ _ _ _ _ _ h
   ·rw [if_neg c1] at h ⊢
    have e1 : wrap64 ((data.size : Int) - x6) = (data.size : Int) - x6 := wrap64_small _ (by omega) (by omega)
    have e2 : wrap64 (((data ++ more).size : Int) - x6) = ((data ++ more).size : Int) - x6 := wrap64_small _ (by omega) (by omega)
    rw [e1] at h
    rw [e2]
    by_cases c2 : at_ > (data.size : Int) - x6
    ·rw [if_pos c2] at h
     cases k with
     | zero => simp [P.part_Is.j4] at h
     | succ k => rw [P.part_Is.j4.eq_2, if_pos rfl] at h; cases h
    ·rw [if_neg c2] at h
     rw [if_neg (by omega)]
     exact i4 _ _ _ _ _ _ _ h
  ·rw [P.part_Is.j4.eq_2] at h ⊢
   by_cases c1 : b = true
   ·rw [if_pos c1] at h
    cases h
   ·rw [if_neg c1] at h ⊢
    by_cases c2 : 0 ≤ at_
    ·rw [if_pos c2] at h ⊢
     by_cases c3 : at_ ≤ wrap64 (at_ + x6)
     ·rw [if_pos c3] at h ⊢
      by_cases c4 : wrap64 (at_ + x6) ≤ (data.size : Int)
      ·rw [if_pos c4] at h
       rw [if_pos (by omega), extract_more _ _ _ _ (by omega)]
       cases ho : P.part_over.f k kd at_ rk sym add (data.extract at_.toNat (wrap64 (at_ + x6)).toNat) with
       | none => rw [ho] at h; cases h
       | some t =>
        rw [ho, Option.bind_some] at h
        rw [Option.bind_some]
        by_cases c5 : t = true
        ·rw [if_pos c5] at h ⊢
         exact i0 _ _ h
        ·rw [if_neg c5] at h
         cases h
      ·rw [if_neg c4] at h
       cases h
     ·rw [if_neg c3] at h
      cases h
    ·rw [if_neg c2] at h
     cases h
theorem is_section_more (k : Nat) (n : ByteArray) (kd : Int) (keep : Bool) (al : Int) (data more : ByteArray) (rels : List P.S61) (hd : data.size + more.size ≤ 4096) (h : P.part_Is.f k n kd keep al data rels = some true) : P.part_Is.f k n kd keep al (data ++ more) rels = some true := by
 have hs : (data ++ more).size = data.size + more.size := ByteArray.size_append
 have h1 : ∀ b, P.part_Is.j1 k b n kd keep al data rels = some true → P.part_Is.j1 k b n kd keep al (data ++ more) rels = some true := by
  intro b h
  cases k with
  | zero => simp [P.part_Is.j1] at h
  | succ k =>
   rw [P.part_Is.j1.eq_2] at h ⊢
   by_cases c : b = true
   ·rw [if_pos c] at h
    cases h
   ·rw [if_neg c] at h ⊢
    exact (is_more n kd keep al data more rels rels hd k).1 _ _ h
 have h0 : ∀ b, P.part_Is.j0 k b n kd keep al data rels = some true → P.part_Is.j0 k b n kd keep al (data ++ more) rels = some true := by
  intro b h
  cases k with
  | zero => simp [P.part_Is.j0] at h
  | succ k =>
   have h1 : ∀ b, P.part_Is.j1 k b n kd keep al data rels = some true → P.part_Is.j1 k b n kd keep al (data ++ more) rels = some true := by
    intro b h
    cases k with
    | zero => simp [P.part_Is.j1] at h
    | succ k =>
     rw [P.part_Is.j1.eq_2] at h ⊢
     by_cases c : b = true
     ·rw [if_pos c] at h
      cases h
     ·rw [if_neg c] at h ⊢
      exact (is_more n kd keep al data more rels rels hd k).1 _ _ h
   rw [P.part_Is.j0.eq_2] at h ⊢
   by_cases c : b = true
   ·rw [if_pos c] at h
    cases h
   ·rw [if_neg c] at h ⊢
    rw [if_neg (by omega)] at h
    rw [if_neg (by omega)]
    exact h1 _ h
 unfold P.part_Is.f at h ⊢
 cases hn : P.local_IsName.f k n with
 | none => rw [hn] at h; cases h
 | some t =>
  rw [hn, Option.bind_some] at h
  rw [Option.bind_some]
  by_cases c1 : t = true
  ·rw [if_pos c1] at h ⊢
   by_cases c2 : kd < 1
   ·rw [if_pos c2] at h ⊢
    exact h0 _ h
   ·rw [if_neg c2] at h ⊢
    by_cases c3 : kd > 3
    ·rw [if_pos c3] at h ⊢
     exact h0 _ h
    ·rw [if_neg c3] at h ⊢
     by_cases c4 : al < 0
     ·rw [if_pos c4] at h ⊢
      exact h0 _ h
     ·rw [if_neg c4] at h ⊢
      exact h0 _ h
  ·rw [if_neg c1] at h ⊢
   exact h0 _ h
theorem is_ev_more (n : ByteArray) (kd : Int) (keep : Bool) (al : Int) (data more : ByteArray) (rels : List P.S61) (hd : data.size + more.size ≤ 4096) (h : Ev (fun k => P.part_Is.f k n kd keep al data rels) true) : Ev (fun k => P.part_Is.f k n kd keep al (data ++ more) rels) true := by
 obtain ⟨K, hK⟩ := h
 exact ⟨K, fun k hk => is_section_more k n kd keep al data more rels hd (hK k hk)⟩
theorem fits_dec (kind : Int) (w : Nat) (hw : w < 4294967296) (hf : Ev (fun k => P.part_Fits.f k kind (w : Int)) true) : ∃ r, Ev (fun k => P.code_Decode.f k (w : Int)) r ∧ r.2.2.2.2.2.2.2.2.2.2 = 0 ∧ r.2.2.2.2.2.1 = 0 := by
 have h0 : ¬ kind < 0 := fun h => by
  have e : Ev (fun k => P.part_Fits.f k kind (w : Int)) false := by
   unfold P.part_Fits.f
   simp only [if_pos h]
   exact Ev.now _
  exact absurd (Ev.one e hf) (by decide)
 have h9 : ¬ kind > 9 := fun h => by
  have e : Ev (fun k => P.part_Fits.f k kind (w : Int)) false := by
   unfold P.part_Fits.f
   simp only [if_neg h0, if_pos h]
   exact Ev.now _
  exact absurd (Ev.one e hf) (by decide)
 obtain ⟨r, hr⟩ := decode_ends w hw
 have hof : P.part_Fits.of kind r = true := by
  have e : Ev (fun k => P.part_Fits.f k kind (w : Int)) (P.part_Fits.of kind r) := by
   unfold P.part_Fits.f
   simp only [if_neg h0, if_neg h9]
   exact hr.bind (Ev.now _)
  exact Ev.one e hf
 unfold P.part_Fits.of at hof
 split at hof
 case isFalse => cases hof
 rename_i herr
 split at hof
 case isFalse => cases hof
 rename_i himm
 exact ⟨r, hr, herr, himm⟩
theorem grow_some (d : ByteArray) (l : List P.S61) (n : ByteArray) (kd : Int) (keep : Bool) (al : Int) (data : ByteArray) (rels : List P.S61) (hd : d.size = 4) (hs : data.size ≤ 5000) (hr : rels.length ≤ 80) (hl : l.length ≤ 1) :
 P.part_grow.f d l n kd keep al data rels = some (⟨#[]⟩, 0, false, 0, ⟨#[]⟩, [], 2) ∨ (data.size + d.size ≤ 4096 ∧ P.part_grow.f d l n kd keep al data rels = some (n, kd, keep, al, data ++ d, ([] ++ rels) ++ l, 0)) := by
 unfold P.part_grow.f
 have e1 : wrap64 (4096 - (data.size : Int)) = 4096 - (data.size : Int) := wrap64_small _ (by omega) (by omega)
 rw [e1]
 by_cases c1 : (d.size : Int) > 4096 - (data.size : Int)
 ·rw [if_pos c1]
  exact .inl rfl
 ·rw [if_neg c1]
  by_cases c2 : wrap64 ((rels.length : Int) + (l.length : Int)) > 64
  ·rw [if_pos c2]
   exact .inl rfl
  ·rw [if_neg c2, if_pos (by omega), if_pos (by simp; omega), Option.bind_some, if_pos (by simp; omega)]
   exact .inr ⟨by omega, rfl⟩
theorem PartRel (n : ByteArray) (kd : Int) (keep : Bool) (al : Int) (data : ByteArray) (rels : List P.S61) (w kind sym add : Int) (ww : (Lit.int .u32 w).wf = true) :
 ∃ r, P.cleatlaw16_PartRel.f r n kd keep al data rels w kind sym add = some true := by
 obtain ⟨w, rfl, hw⟩ : ∃ m : Nat, w = (m : Int) ∧ m < 4294967296 := by
  simp only [Lit.wf, Bool.and_eq_true, decide_eq_true_eq] at ww
  have e1 : IntKind.u32.min = 0 := by decide
  have e2 : IntKind.u32.max = 4294967295 := by decide
  rw [e1, e2] at ww
  exact ⟨w.toNat, by omega, by omega⟩
 suffices h : Ev (fun k => P.cleatlaw16_PartRel.g k n kd keep al data rels (w : Int) kind sym add) true by
  obtain ⟨k, hk⟩ := h.rounds
  exact ⟨k, by unfold P.cleatlaw16_PartRel.f; rw [if_pos hk]⟩
 obtain ⟨t, ht, hsz⟩ : ∃ t, P.cleatref16_Big.f n kd keep al data rels = some t ∧ (t = false → data.size ≤ 5000 ∧ rels.length ≤ 80) := by
  unfold P.cleatref16_Big.f
  by_cases c1 : (data.size : Int) > 5000
  ·rw [if_pos c1]
   exact ⟨_, rfl, fun h => by cases h⟩
  ·rw [if_neg c1]
   by_cases c2 : (rels.length : Int) > 80
   ·rw [if_pos c2]
    exact ⟨_, rfl, fun h => by cases h⟩
   ·rw [if_neg c2]
    exact ⟨_, rfl, fun _ => ⟨by omega, by omega⟩⟩
 cases t with
 | true =>
  unfold P.cleatlaw16_PartRel.g
  exact Ev.bind (Ev.plain ht) (Ev.congr (fun k => if_pos rfl) (Ev.now _))
 | false =>
  obtain ⟨hd, hr⟩ := hsz rfl
  obtain ⟨r2, hr2⟩ := decode_ends w hw
  -- what is refused
  have fell : ∀ e : Int, e ≠ 0 → Ev (fun k => P.part_Word.f k n kd keep al data rels (w : Int) kind sym add) (⟨#[]⟩, 0, false, 0, ⟨#[]⟩, [], e) → Ev (fun k => P.cleatlaw16_PartRel.g k n kd keep al data rels (w : Int) kind sym add) true := by
   intro e he h
   unfold P.cleatlaw16_PartRel.g
   exact Ev.bind (Ev.plain ht) (Ev.congr (fun k => if_neg (by decide)) (Ev.bind h (Ev.bind hr2 (Ev.congr (fun k => if_neg he) (Ev.bind grown_ev (Ev.now true))))))
  obtain ⟨b, hb⟩ := is_section_ends n kd keep al data rels
  cases b with
  | false =>
   refine fell 1 (by decide) ?_
   unfold P.part_Word.f
   exact Ev.bind hb (Ev.congr (fun k => if_neg (by decide)) (Ev.now _))
  | true =>
   by_cases c4 : ((data.size : Int) % 4) = 0
   case neg =>
    refine fell 5 (by decide) ?_
    unfold P.part_Word.f
    exact Ev.bind hb (Ev.congr (fun k => if_pos rfl) (Ev.congr (fun k => if_neg c4) (Ev.now _)))
   obtain ⟨d, hdl, hds⟩ := little_ends (IntKind.u64.wrap (w : Int)) 4 (by decide)
   have hd4 : d.size = 4 := hds (by decide)
   by_cases c0 : kind = 0
   ·-- no relocation
    rcases grow_some d [] n kd keep al data rels hd4 hd hr (by simp) with hg | ⟨hl, hg⟩
    ·refine fell 2 (by decide) ?_
     unfold P.part_Word.f
     exact Ev.bind hb (Ev.congr (fun k => if_pos rfl) (Ev.congr (fun k => if_pos c4) (Ev.bind hdl (Ev.congr (fun k => if_pos c0) (Ev.bind (Ev.plain hg) (Ev.now _))))))
    ·have hW : Ev (fun k => P.part_Word.f k n kd keep al data rels (w : Int) kind sym add) (n, kd, keep, al, data ++ d, ([] ++ rels) ++ [], 0) := by
      unfold P.part_Word.f
      exact Ev.bind hb (Ev.congr (fun k => if_pos rfl) (Ev.congr (fun k => if_pos c4) (Ev.bind hdl (Ev.congr (fun k => if_pos c0) (Ev.bind (Ev.plain hg) (Ev.now _))))))
     unfold P.cleatlaw16_PartRel.g
     refine Ev.bind (Ev.plain ht) (Ev.congr (fun k => if_neg (by decide)) ?_)
     refine Ev.bind hW (Ev.bind hr2 (Ev.congr (fun k => if_pos rfl) (Ev.congr (fun k => if_pos c0) (Ev.bind grown_ev (Ev.congr (fun k => if_pos rfl) (Ev.plain (congrArg some ?_)))))))
     simp
   ·by_cases c1 : kd = 1
    case neg =>
     refine fell 1 (by decide) ?_
     unfold P.part_Word.f
     exact Ev.bind hb (Ev.congr (fun k => if_pos rfl) (Ev.congr (fun k => if_pos c4) (Ev.bind hdl (Ev.congr (fun k => if_neg c0) (Ev.congr (fun k => if_neg c1) (Ev.now _))))))
    obtain ⟨f, hf⟩ := fits_ends kind w hw
    cases f with
    | false =>
     refine fell 1 (by decide) ?_
     unfold P.part_Word.f
     exact Ev.bind hb (Ev.congr (fun k => if_pos rfl) (Ev.congr (fun k => if_pos c4) (Ev.bind hdl (Ev.congr (fun k => if_neg c0) (Ev.congr (fun k => if_pos c1) (Ev.bind hf (Ev.congr (fun k => if_neg (by decide)) (Ev.now _))))))))
    | true =>
     by_cases cs : sym < 0
     ·refine fell 1 (by decide) ?_
      unfold P.part_Word.f
      exact Ev.bind hb (Ev.congr (fun k => if_pos rfl) (Ev.congr (fun k => if_pos c4) (Ev.bind hdl (Ev.congr (fun k => if_neg c0) (Ev.congr (fun k => if_pos c1) (Ev.bind hf (Ev.congr (fun k => if_pos rfl) (Ev.congr (fun k => if_pos cs) (Ev.now _)))))))))
     ·rcases grow_some d [⟨(data.size : Int), kind, sym, add⟩] n kd keep al data rels hd4 hd hr (by simp) with hg | ⟨hl, hg⟩
      ·refine fell 2 (by decide) ?_
       unfold P.part_Word.f
       exact Ev.bind hb (Ev.congr (fun k => if_pos rfl) (Ev.congr (fun k => if_pos c4) (Ev.bind hdl (Ev.congr (fun k => if_neg c0) (Ev.congr (fun k => if_pos c1) (Ev.bind hf (Ev.congr (fun k => if_pos rfl) (Ev.congr (fun k => if_neg cs) (Ev.bind (Ev.plain hg) (Ev.now _))))))))))
      ·have hW : Ev (fun k => P.part_Word.f k n kd keep al data rels (w : Int) kind sym add) (n, kd, keep, al, data ++ d, ([] ++ rels) ++ [⟨(data.size : Int), kind, sym, add⟩], 0) := by
        unfold P.part_Word.f
        exact Ev.bind hb (Ev.congr (fun k => if_pos rfl) (Ev.congr (fun k => if_pos c4) (Ev.bind hdl (Ev.congr (fun k => if_neg c0) (Ev.congr (fun k => if_pos c1) (Ev.bind hf (Ev.congr (fun k => if_pos rfl) (Ev.congr (fun k => if_neg cs) (Ev.bind (Ev.plain hg) (Ev.now _))))))))))
       obtain ⟨r3, hr3, her, him⟩ := fits_dec kind w hw hf
       unfold P.cleatlaw16_PartRel.g
       refine Ev.bind (Ev.plain ht) (Ev.congr (fun k => if_neg (by decide)) ?_)
       refine Ev.bind hW (Ev.bind hr3 (Ev.congr (fun k => if_pos rfl) (Ev.congr (fun k => if_neg c0) (Ev.congr (fun k => if_pos her) (Ev.congr (fun k => if_pos him) (Ev.congr (fun k => if_pos c1) ?_))))))
       have ne : (((([] ++ rels) ++ [(⟨(data.size : Int), kind, sym, add⟩ : P.S61)]).length : Int) != wrap64 ((rels.length : Int) + 1)) = false := by
        rw [wrap64_small _ (by omega) (by omega)]
        simp
       have lt : (rels.length : Int) < ((([] ++ rels) ++ [(⟨(data.size : Int), kind, sym, add⟩ : P.S61)]).length : Int) := by simp; omega
       have at_ : P.rd_T61 (([] ++ rels) ++ [(⟨(data.size : Int), kind, sym, add⟩ : P.S61)]) (rels.length : Int) = ⟨(data.size : Int), kind, sym, add⟩ := by
        unfold P.rd_T61
        simp
       simp only [ne]
       refine Ev.step (fun k => P.cleatlaw16_PartRel.j0.eq_2 _ _ _ _ _ _ _ _ _ _ _ _ _ _ _ _ _ _) (Ev.congr (fun k => if_neg (by decide)) (Ev.congr (fun k => if_pos (by omega)) (Ev.congr (fun k => if_pos lt) (Ev.bind grown_ev (Ev.congr (fun k => if_pos rfl) ?_)))))
       refine Ev.congr (fun k => if_pos (by rw [at_]; simp)) (Ev.bind (is_ev_more n kd keep al data d rels hl hb) (Ev.congr (fun k => if_pos rfl) (Ev.bind hf (Ev.congr (fun k => if_pos rfl) (Ev.plain (congrArg some ?_))))))
       rw [wrap64_small _ (by omega) (by omega)]
       have hs : (data ++ d).size = data.size + d.size := ByteArray.size_append
       rw [hs, hd4]
       exact beq_iff_eq.mpr (by omega)
end Go.Proofs.YtiadfdehplkojaaGreatDoor.Pure
