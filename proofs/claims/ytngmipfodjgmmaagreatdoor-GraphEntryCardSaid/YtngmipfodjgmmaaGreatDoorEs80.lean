/- Walks and plain laws of this claim, a part. -/
import Derived.Test.YtngmipfodjgmmaaGreatDoorEs78
import Derived.Maps.OwnOps
import Derived.Maps.OwnSet
import Derived.Deep.QuietTactic
import Derived.BigQuiet
section
namespace Go.Proofs.YtngmipfodjgmmaaGreatDoor.Pure
open Go Go.RowKit Go.Lib Go.Shelf Go.Proofs.YtngmipfodjgmmaaGreatDoorW.PrintWords Go.Proofs.YtngmipfodjgmmaaGreatDoorW.PrintLast Go.Proofs.YtngmipfodjgmmaaGreatDoorW.PrintMore Go.Proofs.YtngmipfodjgmmaaGreatDoor.Reach
open P (Glob UA nd NdOk Rt SpreadPost spread_in root_at)
set_option linter.unusedVariables false
set_option linter.unusedSimpArgs false
abbrev IA (w : World) (A : Option Addr) (xs : List Int) : Prop := Kd.C (Kd.int .i64) w A xs.length xs
theorem spread_calls (w : World) (A A2 : Option Addr) (us : List P.S39) (roots : List Int) (c c2 : Nat) (hu : UA w A us) (hn : NdOk us) (hr : IA w A2 roots) (hrl : roots.length ≤ 100000) (hR : ∀ z ∈ roots, 0 ≤ z ∧ z < us.length) :
 Calls Tryz.prog 56 #[.iface 94 (.slice A us.length c), .slice A2 roots.length c2] w (SpreadPost us roots w) :=
 callsIn_wide.1 (spread_in w A A2 us roots c c2 hu hn hr hrl hR)
/-- The roots are units. -/
def ROk (us : List P.S39) (roots : List Int) : Prop := ∀ z ∈ roots, 0 ≤ z ∧ z < us.length
def ReachPost (us : List P.S39) (roots : List Int) (w : World) (e : Ending) (w' : World) : Prop :=
 Below w.heap.size w w' ∧ ((¬ (UOk us ∧ ROk us roots) ∧ e = .returned (.tuple #[.slice none 0 0, .int .i64 1])) ∨
 (UOk us ∧ ROk us roots ∧ ∃ (sb : Nat) (seen : List Bool), e = .returned (.tuple #[.slice (some ⟨sb, 0, none⟩) seen.length seen.length, .int .i64 0]) ∧ seen.length = us.length ∧ (∀ i, sn seen i ↔ RS (nd us) (Rt roots) i) ∧ w'.heap[sb]? = some (.cells (seen.map Value.bool).toArray 4 (0, 0)) ∧ w.heap.size ≤ sb))
theorem reach_bad {us roots} {w w' : World} (h : ¬ (UOk us ∧ ROk us roots)) (hb : Below w.heap.size w w') : ReachPost us roots w (.returned (.tuple #[.slice none 0 0, .int .i64 1])) w' := ⟨hb, .inl ⟨h, rfl⟩⟩
set_option maxRecDepth 100000 in
set_option maxHeartbeats 2000000 in
theorem reach_any (w : World) (A A2 : Option Addr) (us : List P.S39) (roots : List Int) (c c2 : Nat) (hG : Glob w) (hu : UA w A us) (hc : us.length ≤ c) (hn : Narrow us) (hul : us.length ≤ 100000) (hr : IA w A2 roots) (hrl : roots.length ≤ 100000) :
 Calls Tryz.prog 30 #[.slice A us.length c, .slice A2 roots.length c2] w (ReachPost us roots w) := by
 obtain ⟨b, hb, hbi⟩ := isU_ends us hn
 have HI := Azz.mk (isU_calls hb w A c hG hu hc hn)
 have HU := Azz.mk hu
 have HR := Azz.mk hr
 have HBi := Azz.mk hbi
 clear hb hbi hG hu hr hn hc
 cases b with
 | false =>
  go_enter Tryz.func30, Tryz.ntmps30
  go_wp2_with (go_at_call 33; (with_reducible refine HI.out.mono ?_); rintro e w1 ⟨rfl, hb⟩; have HB := Azz.mk hb; clear hb)
  go_ret2
  exact reach_bad (fun h => absurd (HBi.out.2 h.1) (by decide)) HB.out
 | true =>
  have hok : UOk us := HBi.out.1 rfl
  have HN := Azz.mk hok
  clear hok HBi
  go_enter Tryz.func30, Tryz.ntmps30
  go_wp2_with (go_at_call 33; (with_reducible refine HI.out.mono ?_); rintro e w1 ⟨rfl, hb⟩; have HB := Azz.mk hb; clear hb HI)
  go_loopw [13] (fun v wr => ∃ i : Nat, i ≤ roots.length ∧ v = .int .i64 i ∧ Azz (∀ j, j < i → 0 ≤ roots.getD j 0 ∧ roots.getD j 0 < us.length) ∧ w1 = wr) (fun v _ => roots.length - (RowKit.intOf v).toNat)
  case atStart => exact ⟨0, Nat.zero_le _, rfl, ⟨fun j hj => absurd hj (Nat.not_lt_zero _)⟩, rfl⟩
  case round =>
   obtain ⟨i, hi, rfl, HP, rfl⟩ := hrel
   by_cases hlt : i < roots.length
   ·obtain ⟨ad, e, hx⟩ := root_at w1 A2 roots (Kd.C_below HR.out HB.out) i hlt
    cases e
    obtain ⟨z, hz⟩ : ∃ z, roots.getD i 0 = z := ⟨_, rfl⟩
    have hm : z ∈ roots := by rw [← hz, List.getD_eq_getElem?_getD, List.getElem?_eq_getElem hlt]; exact List.getElem_mem hlt
    have HZ := Azz.mk (And.intro hz hm)
    rw [hz] at hx
    clear hz hm
    by_cases h1 : z < 0
    ·go_wp2
     go_ret2
     exact reach_bad (fun h => by have := h.2 z HZ.out.2; omega) HB.out
    ·by_cases h2 : (us.length : Int) ≤ z
     ·go_wp2
      go_ret2
      exact reach_bad (fun h => by have := h.2 z HZ.out.2; omega) HB.out
     ·go_wp2
      go_roundw
      case rel =>
       refine ⟨i + 1, by omega, by go_num, ⟨fun j hj => ?_⟩, trivial⟩
       by_cases e : j = i
       ·rw [e, HZ.out.1]; omega
       ·exact HP.out j (by omega)
      case measure => simp [RowKit.intOf]; omega
   ·obtain rfl : i = roots.length := by omega
    have HRk : Azz (ROk us roots) := ⟨fun z hz => by
     obtain ⟨j, hj, e⟩ := List.getElem_of_mem hz
     have := HP.out j hj
     rw [List.getD_eq_getElem?_getD, List.getElem?_eq_getElem hj, Option.getD_some, e] at this
     exact this⟩
    have HS := Azz.mk (spread_calls w1 A A2 us roots c c2 (Kd.C_below HU.out HB.out) (nd_ok HN.out) (Kd.C_below HR.out HB.out) hrl HRk.out)
    clear HP hlt hi
    go_wp2_with (go_at_call 56; (with_reducible refine HS.out.mono ?_); rintro e w2 ⟨sb, seen, rfl, h1, h2, h3, h4, h5⟩; have HX := Azz.mk (And.intro h1 (And.intro h2 (And.intro h3 (And.intro h4 h5)))); clear h1 h2 h3 h4 h5)
    go_ret2
    obtain ⟨h1, h2, h3, h4, h5⟩ := HX.out
    exact ⟨bTT HB.out h4, .inr ⟨HN.out, HRk.out, sb, seen, rfl, h1, h2, h3, Nat.le_trans HB.out.size h5⟩⟩
end Go.Proofs.YtngmipfodjgmmaaGreatDoor.Pure
end
section
namespace Go.Proofs.YtngmipfodjgmmaaGreatDoor.Pure
open Go Go.RowKit Go.Lib Go.Shelf Go.Proofs.YtngmipfodjgmmaaGreatDoorW.PrintWords Go.Proofs.YtngmipfodjgmmaaGreatDoorW.PrintLast Go.Proofs.YtngmipfodjgmmaaGreatDoorW.PrintMore Go.Proofs.YtngmipfodjgmmaaGreatDoor.Reach
set_option linter.unusedVariables false
set_option linter.unusedSimpArgs false
theorem each_nil (w : World) (f : Value) : Calls Tryz.prog 47 #[.slice none 0 0, f] w fun e w' => (∃ r, e = .returned r) ∧ w = w' := by
 go_enter Tryz.func47, Tryz.ntmps47
 go_wp2
 go_loopw [9] (fun v wr => v = .int .i64 0 ∧ w = wr) (fun _ _ => 0)
 case atStart => exact ⟨rfl, rfl⟩
 case round =>
  obtain ⟨rfl, rfl⟩ := hrel
  go_wp2
  go_end0
  exact ⟨⟨_, rfl⟩, rfl⟩
theorem check_nil (w : World) : Calls Tryz.prog 26 #[.slice none 0 0] w fun e w' => e = .returned (.int .i64 0) ∧ w = w' := by
 go_enter Tryz.func26, Tryz.ntmps26
 go_wp2
 go_loopw [10] (fun v wr => v = .int .i64 0 ∧ w = wr) (fun _ _ => 0)
 case atStart => exact ⟨rfl, rfl⟩
 case round =>
  obtain ⟨rfl, rfl⟩ := hrel
  go_wp2
  go_ret
  exact ⟨rfl, rfl⟩
theorem range_empty (W : World) (b : Nat) (h : W.heap[b]? = some (.map #[] 0)) : (Instr.range 88 (.map (some b))).run Tryz.prog W = .ok (.pointer (some ⟨W.heap.size, 0, none⟩)) (W.alloc (.mapIter (some b) 0 #[] 0)) := by
 simp [Instr.range, run_underlying Tryz.underlying88, Sem.run_bind, getObj, Sem.run, h, Result.andThen]
theorem next_empty (W : World) (r b : Nat) (ty : TypeId) (h : W.heap[b]? = some (.map #[] 0)) (hr : W.heap[r]? = some (.mapIter (some b) 0 #[] 0)) : (Instr.next (.pointer (some ⟨r, 0, none⟩)) false ty).run Tryz.prog W = .ok (.tuple #[.bool false]) W := by
 have hf : (Question.mapNext 1).forced = true := by rfl
 simp [Instr.next, Sem.run_bind, getObj, Sem.run, h, hr, Result.andThen, hf]
def NilMap (w : World) (e : Ending) (w' : World) : Prop := ∃ b, e = .returned (.map (some b)) ∧ w'.heap[b]? = some (.map #[] 0) ∧ Below w.heap.size w w'
set_option maxRecDepth 100000 in
theorem places_nil (w : World) : Calls Tryz.prog 49 #[.slice none 0 0] w (NilMap w) := by
 have hmm := @run_makeMap Tryz.prog
 go_enter Tryz.func49, Tryz.ntmps49
 go_wp2_with fail
 (with_reducible refine (each_nil _ _).mono ?_)
 rintro e V ⟨⟨r, rfl⟩, hw⟩
 have h1 : V.heap[w.heap.size]? = some (.map #[] 0) := by rw [← hw]; exact kAA (kAA (kAA (blk_new w _) _) _) _
 have h2 : V.heap[w.heap.size + 1]? = some (.map #[] 0) := by
  rw [← hw]
  have := blk_new (w.alloc (.map #[] 0)) (.map #[] 0)
  rw [World.size_alloc] at this
  exact kAA (kAA this _) _
 have b1 : Boxed V (w.heap.size + 1 + 1) 88 (.map (some w.heap.size)) := by
  rw [← hw]
  have := Boxed.new ((w.alloc (.map #[] 0)).alloc (.map #[] 0)) 88 (.map (some w.heap.size))
  rw [World.size_alloc, World.size_alloc] at this
  exact this.alloc _
 have c2 : V.cell? ⟨w.heap.size + 1 + 1 + 1, 0, none⟩ = some (.map (some (w.heap.size + 1))) := by
  rw [← hw]
  have := Boxed.new (((w.alloc (.map #[] 0)).alloc (.map #[] 0)).alloc (.cells #[.map (some w.heap.size)] 88)) 88 (.map (some (w.heap.size + 1)))
  rw [World.size_alloc, World.size_alloc, World.size_alloc] at this
  exact this.cell
 have hb : Below w.heap.size w V := by
  rw [← hw]
  exact ((((Below.refl _ w).alloc (Nat.le_refl _) _).alloc (by simp) _).alloc (by simp; omega) _).alloc (by simp; omega) _
 have HB := Azz.mk hb
 have HM := Azz.mk (kAA h1 (.mapIter (some (w.heap.size + 1)) 0 #[] 0))
 have hr := range_empty V _ h2
 have hn := next_empty (V.alloc (.mapIter (some (w.heap.size + 1)) 0 #[] 0)) V.heap.size (w.heap.size + 1)
 have hn2 := fun ty => hn ty (kAA h2 _) (blk_new V _)
 have d1 := (HB.out.alloc HB.out.size (.mapIter (some (w.heap.size + 1)) 0 #[] 0))
 have HD := Azz.mk d1
 have c1 := b1.cell
 have e1 := (b1.alloc (.mapIter (some (w.heap.size + 1)) 0 #[] 0)).cell
 clear hw h1 h2 hb hn hmm d1 b1
 go_wp2
 go_loopw [16] (fun v wr => wr = V.alloc (.mapIter (some (w.heap.size + 1)) 0 #[] 0)) (fun _ _ => 0)
 case atStart => rfl
 case round =>
  subst hrel
  go_wp2
  go_ret
  exact ⟨_, rfl, HM.out, HD.out⟩
theorem zero_place (W : World) : (zeroValue 49).run Tryz.prog W = .ok (.agg #[.int .i64 0, .int .i64 0, .int .i64 0]) W := by kernel_rfl
theorem zero_place2 (W : World) : Sem.run Tryz.prog ((fun a => Value.tuple #[a, Value.bool false]) <$> zeroValue 49) W = .ok (.tuple #[.agg #[.int .i64 0, .int .i64 0, .int .i64 0], .bool false]) W := by kernel_rfl
theorem lookup_empty (W : World) (b : Nat) (s : ByteArray) (hs : s.size ≤ maxLen) (h : W.heap[b]? = some (.map #[] 0)) : (Instr.lookup 88 (.map (some b)) (.string s) true).run Tryz.prog W = .ok (.tuple #[.agg #[.int .i64 0, .int .i64 0, .int .i64 0], .bool false]) W := by
 have hz := zero_place W
 have K := Maps.string_keyed (P := Tryz.prog) Tryz.underlying9
 obtain ⟨l, hl⟩ : ∃ l, keyOf Tryz.prog 9 (.string s) = some l := ⟨.string s.data.toList, by simp [keyOf, Tryz.underlying9, mapKey]; exact hs⟩
 have hc := K.check W true hl
 have hf : (Instr.findKey 9 (.string s) []).run Tryz.prog W = .ok none W := by
  rcases K.find W hl [] (fun e h => by cases h) with h | ⟨j, e, _, h, _⟩
  ·exact h.1
  ·simp at h
 simp [Instr.lookup, run_underlying Tryz.underlying88, Sem.run_bind, getObj, Sem.run, h, Result.andThen] at hc hf hz ⊢
 rw [hc]
 dsimp only
 rw [hf]
 dsimp only
 exact zero_place2 W
theorem cel3 {w : World} {g t : Nat} {v0 v1 v2 : Value} (h : w.heap[g]? = some (.cells #[v0, v1, v2] t (0, 0))) : w.cell? ⟨g, 0, none⟩ = some v0 ∧ w.cell? ⟨g, 1, none⟩ = some v1 ∧ w.cell? ⟨g, 2, none⟩ = some v2 :=
 ⟨(kCC h 0).trans rfl, (kCC h 1).trans rfl, (kCC h 2).trans rfl⟩
theorem frz {w : World} {g t : Nat} {vs : Array Value} (h : w.heap[g]? = some (.cells vs t (0, 0))) (i : Nat) : w.frozen? ⟨g, i, none⟩ = false := by simp [World.frozen?, h]
set_option maxRecDepth 100000 in
theorem find_nil (w : World) : Calls Tryz.prog 22 #[.slice none 0 0, .string ⟨#[97]⟩] w fun e w' => e = .returned (.tuple #[.agg #[.int .i64 0, .int .i64 0, .int .i64 0], .bool false]) ∧ Below w.heap.size w w' := by
 go_enter Tryz.func22, Tryz.ntmps22
 go_wp2_with fail
 (with_reducible refine (check_nil _).mono ?_)
 rintro e V ⟨rfl, hw⟩
 have hb : Boxed V w.heap.size 49 (.int .i64 0) ∨ True := .inr trivial
 have HB : Azz (Below w.heap.size w V) := ⟨by rw [← hw]; exact (Below.refl _ w).alloc (Nat.le_refl _) _⟩
 have HK : Azz (V.heap[w.heap.size]? = some (.cells #[.int .i64 0, .int .i64 0, .int .i64 0] 49 (0, 0))) := ⟨by rw [← hw]; exact blk_new w _⟩
 clear hw hb
 go_wp2_with fail
 (with_reducible refine (places_nil _).mono ?_)
 rintro e V2 ⟨b, rfl, hm, hb⟩
 have HB2 := Azz.mk (bTT HB.out hb)
 have HK2 := kBB HK.out hb
 have hl := lookup_empty V2 b ⟨#[97]⟩ (by decide) hm
 have c0 := fun o => cel3 (kAA HK2 o)
 have c1 := fun o => frz (kAA HK2 o)
 clear HK hm hb HB
 go_wp2
 obtain ⟨x0, x1, x2⟩ := c0 (.cells #[.int .i64 0, .int .i64 0, .int .i64 0] 49)
 refine bodyPost_ret (v := .tuple #[.agg #[.int .i64 0, .int .i64 0, .int .i64 0], .bool false]) (by simp [results, Tryz.results22, go_sem, x0, x1, x2]) rfl ⟨rfl, ?_⟩
 exact (((HB2.out.alloc HB2.out.size _).setCell (p := ⟨w.heap.size, 0, none⟩) (Nat.le_refl _) _).setCell (p := ⟨w.heap.size, 1, none⟩) (Nat.le_refl _) _).setCell (p := ⟨w.heap.size, 2, none⟩) (Nat.le_refl _) _
set_option maxRecDepth 100000 in
theorem entry_nil (w : World) : Calls Tryz.prog 35 #[.slice none 0 0, .string ⟨#[97]⟩] w fun e w' => e = .returned (.tuple #[.int .i64 0, .int .i64 0, .int .i64 8]) ∧ Below w.heap.size w w' := by
 go_enter Tryz.func35, Tryz.ntmps35
 go_wp2_with fail
 (with_reducible refine (find_nil _).mono ?_)
 rintro e V ⟨rfl, hb⟩
 have HB := Azz.mk hb
 clear hb
 go_wp2
 go_quiet (fail)
 go_wp2
 go_ret3
 exact ⟨rfl, bNN (HB.out.alloc HB.out.size _) _⟩
end Go.Proofs.YtngmipfodjgmmaaGreatDoor.Pure
end
