/- The law 'PartTwice' walked: it returns true. -/
import Derived.Test.YtiadfdehplkojaaGreatDoorRs53
namespace Go.Proofs.YtiadfdehplkojaaGreatDoor.Pure
open Go Go.RowKit Go.Proofs.YtiadfdehplkojaaGreatDoorW.PrintWords Go.Proofs.YtiadfdehplkojaaGreatDoorW.PrintLast Go.Proofs.YtiadfdehplkojaaGreatDoorW.PrintMore
open P (Glob)
set_option linter.unusedVariables false
set_option linter.unusedSimpArgs false
structure ScAt (w : World) (A : Option Addr) (c : Nat) (s : Sc) : Prop where
 reads : Kd.C P.k61 w A s.rels.length s.rels
 le : s.rels.length ≤ c
theorem ScAt.below {w w1 : World} {A : Option Addr} {c : Nat} {s : Sc} (h : ScAt w A c s) (hb : Below w.heap.size w w1) : ScAt w1 A c s := ⟨Kd.C_below h.reads hb, h.le⟩
theorem cel6 {w : World} {g t : Nat} {v0 v1 v2 v3 v4 v5 : Value} (h : w.heap[g]? = some (.cells #[v0, v1, v2, v3, v4, v5] t (0, 0))) : w.cell? ⟨g, 0, none⟩ = some v0 ∧ w.cell? ⟨g, 1, none⟩ = some v1 ∧ w.cell? ⟨g, 2, none⟩ = some v2 ∧ w.cell? ⟨g, 3, none⟩ = some v3 ∧ w.cell? ⟨g, 4, none⟩ = some v4 ∧ w.cell? ⟨g, 5, none⟩ = some v5 :=
 ⟨(kCC h 0).trans rfl, (kCC h 1).trans rfl, (kCC h 2).trans rfl, (kCC h 3).trans rfl, (kCC h 4).trans rfl, (kCC h 5).trans rfl⟩
theorem put_calls {s r : Sc} {d : ByteArray} {e : Int} (hp : PutB s d r e) (W : World) (A : Option Addr) (c : Nat) (hG : Glob W) (h : ScAt W A c s) :
 Calls Tryz.prog 29 #[.agg #[.string s.n, .int .i64 s.kd, .bool s.keep, .int .i64 s.al, .string s.data, .slice A s.rels.length c], .string d] W fun x w' => ∃ A' c', x = .returned (.tuple #[.agg #[.string r.n, .int .i64 r.kd, .bool r.keep, .int .i64 r.al, .string r.data, .slice A' r.rels.length c'], .int .i64 e]) ∧ ScAt w' A' c' r ∧ Below W.heap.size W w' := by
 obtain ⟨K, hK⟩ := hp
 refine (P.part_Put.calls K s.n s.kd s.keep s.al s.data A c s.rels d r.n r.kd r.keep r.al r.data r.rels e W hG h.reads h.le (hK K (Nat.le_refl _))).mono ?_
 rintro x w' ⟨v, rfl, hR, hb⟩
 obtain ⟨A', c', rfl, hl, hC⟩ := Kd.R_reads hR
 exact ⟨A', c', rfl, ⟨hC, hl⟩, hb⟩
theorem align_calls {s r : Sc} {m e : Int} (hp : AlignB s m r e) (W : World) (A : Option Addr) (c : Nat) (hG : Glob W) (h : ScAt W A c s) :
 Calls Tryz.prog 30 #[.agg #[.string s.n, .int .i64 s.kd, .bool s.keep, .int .i64 s.al, .string s.data, .slice A s.rels.length c], .int .i64 m] W fun x w' => ∃ A' c', x = .returned (.tuple #[.agg #[.string r.n, .int .i64 r.kd, .bool r.keep, .int .i64 r.al, .string r.data, .slice A' r.rels.length c'], .int .i64 e]) ∧ ScAt w' A' c' r ∧ Below W.heap.size W w' := by
 obtain ⟨K, hK⟩ := hp
 refine (P.part_Align.calls K s.n s.kd s.keep s.al s.data A c s.rels m r.n r.kd r.keep r.al r.data r.rels e W hG h.reads h.le (hK K (Nat.le_refl _))).mono ?_
 rintro x w' ⟨v, rfl, hR, hb⟩
 obtain ⟨A', c', rfl, hl, hC⟩ := Kd.R_reads hR
 exact ⟨A', c', rfl, ⟨hC, hl⟩, hb⟩
theorem grown_calls (W : World) (hG : Glob W) : Calls Tryz.prog 25 #[] W fun x w' => x = .returned (.bool true) ∧ Below W.heap.size W w' := by
 obtain ⟨K, hK⟩ := grown_ev
 exact P.cleatlaw16_grown.calls K true W hG (hK K (Nat.le_refl _))
theorem big_calls (s : Sc) (W : World) (A : Option Addr) (c : Nat) (h : ScAt W A c s) : ∃ b, Calls Tryz.prog 28 #[.agg #[.string s.n, .int .i64 s.kd, .bool s.keep, .int .i64 s.al, .string s.data, .slice A s.rels.length c]] W (fun x w' => x = .returned (.bool b) ∧ Below W.heap.size W w') ∧ (b = false → Small s) := by
 by_cases c1 : (s.data.size : Int) > 5000
 ·exact ⟨true, P.cleatref16_Big.calls s.n s.kd s.keep s.al s.data A c s.rels true W h.reads h.le (by unfold P.cleatref16_Big.f; rw [if_pos c1]), fun h => by cases h⟩
 ·by_cases c2 : (s.rels.length : Int) > 80
  ·exact ⟨true, P.cleatref16_Big.calls s.n s.kd s.keep s.al s.data A c s.rels true W h.reads h.le (by unfold P.cleatref16_Big.f; rw [if_neg c1, if_pos c2]), fun h => by cases h⟩
  ·exact ⟨_, P.cleatref16_Big.calls s.n s.kd s.keep s.al s.data A c s.rels _ W h.reads h.le (by unfold P.cleatref16_Big.f; rw [if_neg c1, if_neg c2]), fun _ => ⟨by omega, by omega⟩⟩
end Go.Proofs.YtiadfdehplkojaaGreatDoor.Pure
