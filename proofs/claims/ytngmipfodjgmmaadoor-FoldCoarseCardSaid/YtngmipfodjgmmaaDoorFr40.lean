/- Reading a word answers, and what it answers: 'Decode' and 'Fits'. -/
import Derived.Test.YtngmipfodjgmmaaDoorFr39
namespace Go.Proofs.YtngmipfodjgmmaaDoor.Pure
open Go Go.RowKit Go.Proofs.YtngmipfodjgmmaaDoorW.PrintWords Go.Proofs.YtngmipfodjgmmaaDoorW.PrintLast Go.Proofs.YtngmipfodjgmmaaDoorW.PrintMore
set_option linter.unusedVariables false
set_option linter.unusedSimpArgs false
theorem part_22 (w : Nat) (hw : w < 4294967296) : P.code_part.f (w : Int) 22 1 = some (P.fld (w : Int) 22 1) ∧ P.code_part.f (w : Int) 16 6 = some (P.fld (w : Int) 16 6) ∧ P.code_part.f (w : Int) 10 6 = some (P.fld (w : Int) 10 6) ∧ 0 ≤ P.fld (w : Int) 16 6 ∧ 0 ≤ P.fld (w : Int) 10 6 :=
 ⟨part_ok w 22 1 hw (by decide) (by decide) (by decide), part_ok w 16 6 hw (by decide) (by decide) (by decide), part_ok w 10 6 hw (by decide) (by decide) (by decide), fld_nonneg w 16 6 hw (by decide) (by decide) (by decide), fld_nonneg w 10 6 hw (by decide) (by decide) (by decide)⟩
theorem masked_eq (k w : Nat) (hw : w < 4294967296) : P.code_masked.f k (w : Int) = (P.mask_Decode.f k (P.fld (w : Int) 22 1) (P.fld (w : Int) 16 6) (P.fld (w : Int) 10 6)).bind fun bt => if bt.2 = 0 then some bt.1 else none := by
 obtain ⟨p1, p2, p3, _⟩ := part_22 w hw
 rw [P.code_masked.f, p1, Option.bind_some, p2, Option.bind_some, p3, Option.bind_some]
theorem masked_ev (w : Nat) (hw : w < 4294967296) (mt : Int × Int) (hmt : Ev (fun k => P.mask_Decode.f k (P.fld (w : Int) 22 1) (P.fld (w : Int) 16 6) (P.fld (w : Int) 10 6)) mt) (e : mt.2 = 0) : Ev (fun k => P.code_masked.f k (w : Int)) mt.1 := by
 refine Ev.congr (fun k => masked_eq k w hw) (Ev.bind hmt ?_)
 simp only [if_pos e]
 exact Ev.now mt.1
/-- What an answered word is. -/
def Good (w : Nat) (r : Int × Int × Int × Int × Int × Int × Int × Int × Int × Int × Int) : Prop :=
 r.2.2.2.2.2.2.2.2.2.2 = 0 → ∃ op : Nat, 1 ≤ op ∧ op ≤ 39 ∧ an w (maskN op) = baseN op ∧ ∃ i : Int × Int × Int × Int × Int × Int × Int × Int × Int × Int, Ev (fun k => P.code_read.of k (w : Int) (op : Int) (shapeN op : Int)) i ∧ i.1 = (op : Int) ∧
  r = (i.1, i.2.1, i.2.2.1, i.2.2.2.1, i.2.2.2.2.1, i.2.2.2.2.2.1, i.2.2.2.2.2.2.1, i.2.2.2.2.2.2.2.1, i.2.2.2.2.2.2.2.2.1, i.2.2.2.2.2.2.2.2.2, 0) ∧
  Ev (fun k => P.inst_Is.f k i.1 i.2.1 i.2.2.1 i.2.2.2.1 i.2.2.2.2.1 i.2.2.2.2.2.1 i.2.2.2.2.2.2.1 i.2.2.2.2.2.2.2.1 i.2.2.2.2.2.2.2.2.1 i.2.2.2.2.2.2.2.2.2) true
theorem bad (w : Nat) : Good w (0, 0, 0, 0, 0, 0, 0, 0, 0, 0, 11) := fun h => absurd (show (11 : Int) = 0 from h) (by decide)
theorem decode_full (w : Nat) (hw : w < 4294967296) : EndsP (fun k => P.code_Decode.f k (w : Int)) (Good w) := by
 unfold P.code_Decode.f
 rcases opcode w hw with h0 | ⟨op, h1, h2, ho, han⟩
 ·rw [h0]
  have hs : P.inst_Shape.f 0 = some 0 := by
   unfold P.inst_Shape.f
   rw [if_pos (by decide)]
  have hp : ∀ k, P.code_Decode.pan k (w : Int) 0 = some true := fun k => by
   unfold P.code_Decode.pan
   rw [if_pos rfl]
  simp only [Option.bind_some, hs, hp, if_true]
  exact EndsP.now _ (bad w)
 ·obtain ⟨_, _, _, t4, _, _, t7⟩ := tables op h2
  have t7 := t7 h1
  rw [ho]
  simp only [Option.bind_some]
  rw [shape_some op h1 h2]
  simp only [Option.bind_some]
  have md := mask_Decode_ends (P.fld (w : Int) 22 1) (P.fld (w : Int) 16 6) (P.fld (w : Int) 10 6) (part_22 w hw).2.2.2.1 (part_22 w hw).2.2.2.2
  obtain ⟨mt, hmt, hmu⟩ := md
  have hpan : Ends (fun k => P.code_Decode.pan k (w : Int) (shapeN op : Int)) :=
   Ends.ite (fun _ => Ends.now _) fun _ => Ends.ite (fun _ => Ends.bind ⟨mt, hmt⟩ fun _ _ => Ends.now _) fun _ => Ends.now _
  refine EndsP.bind hpan.plain fun p hp _ => EndsP.ite (fun _ => EndsP.now _ (bad w)) fun hnp => ?_
  have h3 : ((shapeN op : Nat) : Int) = 3 → Ends (fun k => P.code_masked.f k (w : Int)) ∧ ∀ m, Ev (fun k => P.code_masked.f k (w : Int)) m → U64 m := by
   intro e3
   have e : mt.2 = 0 := by
    have hp2 : Ev (fun k => P.code_Decode.pan k (w : Int) (shapeN op : Int)) (!(mt.2 == 0)) := by
     unfold P.code_Decode.pan
     simp only [e3, (by decide : ¬ ((3 : Int) = 0)), if_false, if_true]
     exact hmt.bind (Ev.now _)
    have := Ev.one hp hp2
    subst this
    simpa using hnp
   have hk : Ev (fun k => P.code_masked.f k (w : Int)) mt.1 := masked_ev w hw mt hmt e
   exact ⟨⟨_, hk⟩, fun m hm => Ev.one hk hm ▸ hmu⟩
  obtain ⟨i, hi, hio, hiu⟩ := read_ends w hw op (shapeN op) (by omega) (by omega) h3
  exact EndsP.bind (Ends.plain ⟨i, hi⟩) fun j hj _ => by
   obtain rfl := Ev.one hi hj
   exact EndsP.bind (is_ends _ _ _ _ _ _ _ _ _ _ hiu (by rw [hio]; exact ⟨_, shape_some op h1 h2⟩)).plain fun b hb _ => EndsP.ite (fun e => EndsP.now _ fun _ => by
    subst e
    exact ⟨op, h1, h2, han, i, hi, hio, rfl, hb⟩) fun _ => EndsP.now _ (bad w)
theorem decode_ends (w : Nat) (hw : w < 4294967296) : Ends (fun k => P.code_Decode.f k (w : Int)) := (decode_full w hw).ends
theorem fits_ends (kind : Int) (w : Nat) (hw : w < 4294967296) : Ends (fun k => P.part_Fits.f k kind (w : Int)) :=
 Ends.ite (fun _ => Ends.now _) fun _ => Ends.ite (fun _ => Ends.now _) fun _ => Ends.bind (decode_ends w hw) fun _ _ => Ends.now _
end Go.Proofs.YtngmipfodjgmmaaDoor.Pure
