/- A section is looked at to its end; it stays right when bytes are put behind; the document's rows hold. -/
import Derived.Test.YtiadfdehplkojaaGreatDoorRs49
import Derived.Test.YtiadfdehplkojaaGreatDoorRs51
namespace Go.Proofs.YtiadfdehplkojaaGreatDoor.Pure
open Go Go.RowKit Go.Proofs.YtiadfdehplkojaaGreatDoorW.PrintWords Go.Proofs.YtiadfdehplkojaaGreatDoorW.PrintLast Go.Proofs.YtiadfdehplkojaaGreatDoorW.PrintMore
set_option linter.unusedVariables false
set_option linter.unusedSimpArgs false
theorem Ev.plain {α : Type} {c : Option α} {r : α} (h : c = some r) : Ev (fun _ => c) r := ⟨0, fun _ _ => h⟩
set_option maxRecDepth 100000 in
theorem grown_g : P.cleatlaw16_grown.g 400 = some true := by kernel_rfl
theorem grown_ev : Ev (fun k => P.cleatlaw16_grown.f k) true := Ev.of P.cleatlaw16_grown.mono (k := 400) (by unfold P.cleatlaw16_grown.f; rw [if_pos grown_g])
theorem is_loop_ends (n : ByteArray) (kd : Int) (keep : Bool) (al : Int) (data : ByteArray) (rels0 rels : List P.S61) (hd : data.size ≤ 4096) (hr : rels.length ≤ 100000) :
 ∀ (j : Nat) (e i : Int), 0 ≤ e → 0 ≤ i → i + j = rels.length → Ends (fun k => P.part_Is.l0 k e rels (rels.length : Int) i n kd keep al data rels0) := by
 intro j
 induction j with
 | zero =>
  intro e i he hi hj
  exact Ends.step (fun k => P.part_Is.l0.eq_2 _ _ _ _ _ _ _ _ _ _ _) (Ends.ite (fun h => absurd h (by omega)) fun _ => Ends.now _)
 | succ j ih =>
  intro e i he hi hj
  have e2 : wrap64 (i + 1) = i + 1 := wrap64_small _ (by omega) (by omega)
  have h4 : ∀ (x6 : Int) (b : Bool) (at_ rk sym add : Int), (x6 = 8 ∧ rk = 1 ∨ x6 = 4) → (b = false → e ≤ at_ ∧ at_ ≤ (data.size : Int) - x6) → Ends (fun k => P.part_Is.j4 k x6 rels (rels.length : Int) i b n kd keep al data rels0 at_ rk sym add) := by
   intro x6 b at_ rk sym add hx hb
   refine Ends.step (fun k => P.part_Is.j4.eq_2 _ _ _ _ _ _ _ _ _ _ _ _ _ _ _ _) (Ends.ite (fun _ => Ends.now _) fun hn => ?_)
   obtain ⟨b1, b2⟩ := hb (by simpa using hn)
   have e3 : wrap64 (at_ + x6) = at_ + x6 := wrap64_small _ (by omega) (by omega)
   refine Ends.ite (fun _ => Ends.ite (fun _ => Ends.ite (fun _ => ?_) fun h => absurd (by omega) h) fun h => absurd (by omega) h) fun h => absurd (by omega) h
   refine Ends.bind (over_ends kd at_ rk sym add _ ?_) fun _ _ => Ends.ite (fun _ => ?_) fun _ => Ends.now _
   ·rcases hx with ⟨_, h⟩ | h
    ·exact .inl h
    ·refine .inr ?_
     rw [ByteArray.size_extract, e3]
     omega
   ·rw [e2, e3]
    exact ih (at_ + x6) (i + 1) (by omega) (by omega) (by omega)
  have h3 : ∀ (x6 : Int) (at_ rk sym add : Int), (x6 = 8 ∧ rk = 1 ∨ x6 = 4) → Ends (fun k => P.part_Is.j3 k e x6 rels (rels.length : Int) i n kd keep al data rels0 at_ rk sym add) := by
   intro x6 at_ rk sym add hx
   have e4 : wrap64 ((data.size : Int) - x6) = (data.size : Int) - x6 := wrap64_small _ (by omega) (by omega)
   exact Ends.step (fun k => P.part_Is.j3.eq_2 _ _ _ _ _ _ _ _ _ _ _ _ _ _ _ _) (Ends.ite (fun _ => h4 _ _ _ _ _ _ hx (fun h => by cases h)) fun c1 => Ends.ite (fun _ => h4 _ _ _ _ _ _ hx (fun h => by cases h)) fun c2 => h4 _ _ _ _ _ _ hx (fun _ => by rw [e4] at c2; omega))
  exact Ends.step (fun k => P.part_Is.l0.eq_2 _ _ _ _ _ _ _ _ _ _ _) (Ends.ite (fun _ => Ends.ite (fun _ => Ends.ite (fun _ => Ends.ite (fun c => h3 _ _ _ _ _ (.inl ⟨rfl, c⟩)) fun _ => h3 _ _ _ _ _ (.inr rfl)) fun h => absurd (by omega) h) fun h => absurd hi h) fun h => absurd (by omega) h)
theorem is_section_ends (n : ByteArray) (kd : Int) (keep : Bool) (al : Int) (data : ByteArray) (rels : List P.S61) : Ends (fun k => P.part_Is.f k n kd keep al data rels) := by
 have h1 : ∀ b : Bool, (b = false → data.size ≤ 4096 ∧ rels.length ≤ 64) → Ends (fun k => P.part_Is.j1 k b n kd keep al data rels) := fun b hb =>
  Ends.step (fun k => P.part_Is.j1.eq_2 _ _ _ _ _ _ _ _) (Ends.ite (fun _ => Ends.now _) fun h => by
   obtain ⟨p, q⟩ := hb (by simpa using h)
   exact is_loop_ends n kd keep al data rels rels p (by omega) rels.length 0 0 (by decide) (by decide) (by omega))
 have h0 : ∀ b : Bool, Ends (fun k => P.part_Is.j0 k b n kd keep al data rels) := fun b =>
  Ends.step (fun k => P.part_Is.j0.eq_2 _ _ _ _ _ _ _ _) (Ends.ite (fun _ => Ends.now _) fun _ => Ends.ite (fun _ => h1 _ (fun h => by cases h)) fun c => h1 _ (fun h => ⟨by omega, by have := of_decide_eq_false h; omega⟩))
 exact Ends.bind (name_ends n) fun _ _ => Ends.ite (fun _ => Ends.ite (fun _ => h0 _) fun _ => Ends.ite (fun _ => h0 _) fun _ => Ends.ite (fun _ => h0 _) fun _ => h0 _) fun _ => h0 _
theorem extract_more (d m : ByteArray) (a b : Nat) (h : b ≤ d.size) : (d ++ m).extract a b = d.extract a b := by
 refine ByteArray.ext ?_
 rw [ByteArray.data_extract, ByteArray.data_extract, ByteArray.data_append, Array.extract_append, show b - d.data.size = 0 from Nat.sub_eq_zero_of_le h]
 simp
end Go.Proofs.YtiadfdehplkojaaGreatDoor.Pure
