/- 'graph.Entry' of no objects: none. -/
import Derived.Test.YtngmipfodjgmmaaDoorGu51
import Derived.Maps.OwnOps
import Derived.Maps.OwnSet
import Derived.Deep.QuietTactic
import Derived.BigQuiet
namespace Go.Proofs.YtngmipfodjgmmaaDoor.Pure
open Go Go.RowKit Go.Lib Go.Shelf Go.Proofs.YtngmipfodjgmmaaDoorW.PrintWords Go.Proofs.YtngmipfodjgmmaaDoorW.PrintLast Go.Proofs.YtngmipfodjgmmaaDoorW.PrintMore Go.Proofs.YtngmipfodjgmmaaDoor.Reach
set_option linter.unusedVariables false
set_option linter.unusedSimpArgs false
theorem each_nil (w : World) (f : Value) : Calls Tryd.prog 40 #[.slice none 0 0, f] w fun e w' => (∃ r, e = .returned r) ∧ w = w' := by
  go_enter Tryd.func40, Tryd.ntmps40
  go_wp2
  go_loopw [9] (fun v wr => v = .int .i64 0 ∧ w = wr) (fun _ _ => 0)
  case atStart => exact ⟨rfl, rfl⟩
  case round =>
    obtain ⟨rfl, rfl⟩ := hrel
    go_wp2
    go_end0
    exact ⟨⟨_, rfl⟩, rfl⟩
theorem check_nil (w : World) : Calls Tryd.prog 20 #[.slice none 0 0] w fun e w' => e = .returned (.int .i64 0) ∧ w = w' := by
  go_enter Tryd.func20, Tryd.ntmps20
  go_wp2
  go_loopw [10] (fun v wr => v = .int .i64 0 ∧ w = wr) (fun _ _ => 0)
  case atStart => exact ⟨rfl, rfl⟩
  case round =>
    obtain ⟨rfl, rfl⟩ := hrel
    go_wp2
    go_ret
    exact ⟨rfl, rfl⟩
theorem range_empty (W : World) (b : Nat) (h : W.heap[b]? = some (.map #[] 0)) : (Instr.range 81 (.map (some b))).run Tryd.prog W = .ok (.pointer (some ⟨W.heap.size, 0, none⟩)) (W.alloc (.mapIter (some b) 0 #[] 0)) := by
  simp [Instr.range, run_underlying Tryd.underlying81, Sem.run_bind, getObj, Sem.run, h, Result.andThen]
theorem next_empty (W : World) (r b : Nat) (ty : TypeId) (h : W.heap[b]? = some (.map #[] 0)) (hr : W.heap[r]? = some (.mapIter (some b) 0 #[] 0)) : (Instr.next (.pointer (some ⟨r, 0, none⟩)) false ty).run Tryd.prog W = .ok (.tuple #[.bool false]) W := by
  have hf : (Question.mapNext 1).forced = true := by rfl
  simp [Instr.next, Sem.run_bind, getObj, Sem.run, h, hr, Result.andThen, hf]
def NilMap (w : World) (e : Ending) (w' : World) : Prop := ∃ b, e = .returned (.map (some b)) ∧ w'.heap[b]? = some (.map #[] 0) ∧ Below w.heap.size w w'
set_option maxRecDepth 100000 in
theorem places_nil (w : World) : Calls Tryd.prog 42 #[.slice none 0 0] w (NilMap w) := by
  have hmm := @run_makeMap Tryd.prog
  go_enter Tryd.func42, Tryd.ntmps42
  go_wp2_with fail
  (with_reducible refine (each_nil _ _).mono ?_)
  rintro e V ⟨⟨r, rfl⟩, hw⟩
  have h1 : V.heap[w.heap.size]? = some (.map #[] 0) := by rw [← hw]; exact blk_alloc (blk_alloc (blk_alloc (blk_new w _) _) _) _
  have h2 : V.heap[w.heap.size + 1]? = some (.map #[] 0) := by
    rw [← hw]
    have := blk_new (w.alloc (.map #[] 0)) (.map #[] 0)
    rw [World.size_alloc] at this
    exact blk_alloc (blk_alloc this _) _
  have b1 : Boxed V (w.heap.size + 1 + 1) 81 (.map (some w.heap.size)) := by
    rw [← hw]
    have := Boxed.new ((w.alloc (.map #[] 0)).alloc (.map #[] 0)) 81 (.map (some w.heap.size))
    rw [World.size_alloc, World.size_alloc] at this
    exact this.alloc _
  have c2 : V.cell? ⟨w.heap.size + 1 + 1 + 1, 0, none⟩ = some (.map (some (w.heap.size + 1))) := by
    rw [← hw]
    have := Boxed.new (((w.alloc (.map #[] 0)).alloc (.map #[] 0)).alloc (.cells #[.map (some w.heap.size)] 81)) 81 (.map (some (w.heap.size + 1)))
    rw [World.size_alloc, World.size_alloc, World.size_alloc] at this
    exact this.cell
  have hb : Below w.heap.size w V := by
    rw [← hw]
    exact ((((Below.refl _ w).alloc (Nat.le_refl _) _).alloc (by simp) _).alloc (by simp; omega) _).alloc (by simp; omega) _
  have HB := Aside0.mk hb
  have HM := Aside0.mk (blk_alloc h1 (.mapIter (some (w.heap.size + 1)) 0 #[] 0))
  have hr := range_empty V _ h2
  have hn := next_empty (V.alloc (.mapIter (some (w.heap.size + 1)) 0 #[] 0)) V.heap.size (w.heap.size + 1)
  have hn2 := fun ty => hn ty (blk_alloc h2 _) (blk_new V _)
  have d1 := (HB.out.alloc HB.out.size (.mapIter (some (w.heap.size + 1)) 0 #[] 0))
  have HD := Aside0.mk d1
  have c1 := b1.cell
  have e1 := (b1.alloc (.mapIter (some (w.heap.size + 1)) 0 #[] 0)).cell
  clear hw h1 h2 hb hn hmm d1 b1
  go_wp2
  go_loopw [16] (fun v wr => wr = V.alloc (.mapIter (some (w.heap.size + 1)) 0 #[] 0)) (fun _ _ => 0)
  case atStart => rfl
  case round =>
    subst hrel
    go_wp2
    go_ret
    exact ⟨_, rfl, HM.out, HD.out⟩
theorem zero_place (W : World) : (zeroValue 56).run Tryd.prog W = .ok (.agg #[.int .i64 0, .int .i64 0, .int .i64 0]) W := by kernel_rfl
theorem zero_place2 (W : World) : Sem.run Tryd.prog ((fun a => Value.tuple #[a, Value.bool false]) <$> zeroValue 56) W = .ok (.tuple #[.agg #[.int .i64 0, .int .i64 0, .int .i64 0], .bool false]) W := by kernel_rfl
theorem lookup_empty (W : World) (b : Nat) (s : ByteArray) (hs : s.size ≤ maxLen) (h : W.heap[b]? = some (.map #[] 0)) : (Instr.lookup 81 (.map (some b)) (.string s) true).run Tryd.prog W = .ok (.tuple #[.agg #[.int .i64 0, .int .i64 0, .int .i64 0], .bool false]) W := by
  have hz := zero_place W
  have K := Maps.string_keyed (P := Tryd.prog) Tryd.underlying9
  obtain ⟨l, hl⟩ : ∃ l, keyOf Tryd.prog 9 (.string s) = some l := ⟨.string s.data.toList, by simp [keyOf, Tryd.underlying9, mapKey]; exact hs⟩
  have hc := K.check W true hl
  have hf : (Instr.findKey 9 (.string s) []).run Tryd.prog W = .ok none W := by
    rcases K.find W hl [] (fun e h => by cases h) with h | ⟨j, e, _, h, _⟩
    · exact h.1
    · simp at h
  simp [Instr.lookup, run_underlying Tryd.underlying81, Sem.run_bind, getObj, Sem.run, h, Result.andThen] at hc hf hz ⊢
  rw [hc]
  dsimp only
  rw [hf]
  dsimp only
  exact zero_place2 W
theorem cel3 {w : World} {g t : Nat} {v0 v1 v2 : Value} (h : w.heap[g]? = some (.cells #[v0, v1, v2] t (0, 0))) : w.cell? ⟨g, 0, none⟩ = some v0 ∧ w.cell? ⟨g, 1, none⟩ = some v1 ∧ w.cell? ⟨g, 2, none⟩ = some v2 :=
  ⟨(blk_cell h 0).trans rfl, (blk_cell h 1).trans rfl, (blk_cell h 2).trans rfl⟩
theorem frz {w : World} {g t : Nat} {vs : Array Value} (h : w.heap[g]? = some (.cells vs t (0, 0))) (i : Nat) : w.frozen? ⟨g, i, none⟩ = false := by simp [World.frozen?, h]
set_option maxRecDepth 100000 in
theorem find_nil (w : World) : Calls Tryd.prog 24 #[.slice none 0 0, .string ⟨#[97]⟩] w fun e w' => e = .returned (.tuple #[.agg #[.int .i64 0, .int .i64 0, .int .i64 0], .bool false]) ∧ Below w.heap.size w w' := by
  go_enter Tryd.func24, Tryd.ntmps24
  go_wp2_with fail
  (with_reducible refine (check_nil _).mono ?_)
  rintro e V ⟨rfl, hw⟩
  have hb : Boxed V w.heap.size 56 (.int .i64 0) ∨ True := .inr trivial
  have HB : Aside0 (Below w.heap.size w V) := ⟨by rw [← hw]; exact (Below.refl _ w).alloc (Nat.le_refl _) _⟩
  have HK : Aside0 (V.heap[w.heap.size]? = some (.cells #[.int .i64 0, .int .i64 0, .int .i64 0] 56 (0, 0))) := ⟨by rw [← hw]; exact blk_new w _⟩
  clear hw hb
  go_wp2_with fail
  (with_reducible refine (places_nil _).mono ?_)
  rintro e V2 ⟨b, rfl, hm, hb⟩
  have HB2 := Aside0.mk (below_step HB.out hb)
  have HK2 := blk_below HK.out hb
  have hl := lookup_empty V2 b ⟨#[97]⟩ (by decide) hm
  have c0 := fun o => cel3 (blk_alloc HK2 o)
  have c1 := fun o => frz (blk_alloc HK2 o)
  clear HK hm hb HB
  go_wp2
  obtain ⟨x0, x1, x2⟩ := c0 (.cells #[.int .i64 0, .int .i64 0, .int .i64 0] 56)
  refine bodyPost_ret (v := .tuple #[.agg #[.int .i64 0, .int .i64 0, .int .i64 0], .bool false]) (by simp [results, Tryd.results24, go_sem, x0, x1, x2]) rfl ⟨rfl, ?_⟩
  exact (((HB2.out.alloc HB2.out.size _).setCell (p := ⟨w.heap.size, 0, none⟩) (Nat.le_refl _) _).setCell (p := ⟨w.heap.size, 1, none⟩) (Nat.le_refl _) _).setCell (p := ⟨w.heap.size, 2, none⟩) (Nat.le_refl _) _
set_option maxRecDepth 100000 in
theorem entry_nil (w : World) : Calls Tryd.prog 50 #[.slice none 0 0, .string ⟨#[97]⟩] w fun e w' => e = .returned (.tuple #[.int .i64 0, .int .i64 0, .int .i64 8]) ∧ Below w.heap.size w w' := by
  go_enter Tryd.func50, Tryd.ntmps50
  go_wp2_with fail
  (with_reducible refine (find_nil _).mono ?_)
  rintro e V ⟨rfl, hb⟩
  have HB := Aside0.mk hb
  clear hb
  go_wp2
  go_quiet (fail)
  go_wp2
  go_ret3
  exact ⟨rfl, pw_below_drewN (HB.out.alloc HB.out.size _) _⟩
end Go.Proofs.YtngmipfodjgmmaaDoor.Pure
