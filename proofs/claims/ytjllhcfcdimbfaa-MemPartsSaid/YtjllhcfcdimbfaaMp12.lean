/- Arguments opened: a row of whatever kind, read. -/
import Derived.Test.YtjllhcfcdimbfaaMp0
import Derived.Test.YtjllhcfcdimbfaaMp11
import Derived.Test.YtjllhcfcdimbfaaChecked
import Derived.Lib.SmallJoins
import Derived.Deep.Slices
import Derived.Deep.Fields
import Derived.ChangeSame
import Derived.WideShapes
namespace Go.Proofs.Ytjllhcfcdimbfaa.Opens
open Go Go.RowKit Go.Joins Go.ChangeShapes Go.WideShapes Go.Deep Go.Proofs.YtjllhcfcdimbfaaW.PrintWords Go.Proofs.YtjllhcfcdimbfaaW.PrintLast Go.Proofs.YtjllhcfcdimbfaaW.PrintMore
set_option linter.unusedVariables false
section
variable {H : Type} {enc : TypeId × Value → H} {W : World} {P : Program} {α : Type}
theorem open_rows {d : Kd α} {WF : α → Prop} {t e : TypeId} (z0 : α) (ht : P.underlying t = some (.slice e)) (hc : P.cellsOf e = d.sz)
    (hel : ∀ (fuel : Nat) (cs : List Value) (x : DataW H × List MemPlace), cs.length = d.sz → DataW.trod enc P W 0 (fun _ => true) true fuel e cs = some x → ∃ z, d.K W z cs ∧ WF z)
    {fuel : Nat} {v : Value} {x : DataW H × List MemPlace} (h : DataW.trod enc P W 0 (fun _ => true) true fuel t [v] = some x) :
    ∃ (A : Option Addr) (c : Nat) (xs : List α), v = .slice A xs.length c ∧ d.C W A xs.length xs ∧ xs.length ≤ c ∧ ∀ z ∈ xs, WF z := by
  rcases open_slice ht h with ⟨e, _⟩ | ⟨a, len, cap, mm, nn, D, Pl, e, _, hl, hm, hmm, _, hee⟩
  · obtain rfl := (List.cons.inj e).1
    exact ⟨none, 0, [], rfl, ⟨rfl, Nat.zero_le _, fun h => absurd h (Nat.lt_irrefl 0)⟩, Nat.le_refl _, fun _ h => by cases h⟩
  · obtain rfl := (List.cons.inj e).1
    have each : ∀ i, i < len → ∃ (z : α) (cs : List Value), cs.length = d.sz ∧ d.K W z cs ∧ WF z ∧ ∀ (q : Nat) (u : Value), cs[q]? = some u → W.cell? (a.add (i * d.sz + q)) = some u := by
      intro i hi
      obtain ⟨cs', hcs, ht'⟩ := hee i (by rw [hmm]; simp; omega)
      rw [hc] at hcs
      obtain ⟨_, hcl, hat⟩ := World.cells?_some hcs
      obtain ⟨z, hz, hw⟩ := hel _ _ _ hcl ht'
      refine ⟨z, cs', hcl, hz, hw, fun q u hq => ?_⟩
      have hq4 : q < d.sz := by have := (List.getElem?_eq_some_iff.1 hq).1; omega
      rw [← Go.Deep.add_add, hat q hq4]
      exact hq
    let f : Nat → α := fun i => if h : i < len then Classical.choose (each i h) else z0
    have hf : ∀ i, i < len → ∃ cs : List Value, cs.length = d.sz ∧ d.K W (f i) cs ∧ WF (f i) ∧ ∀ (q : Nat) (u : Value), cs[q]? = some u → W.cell? (a.add (i * d.sz + q)) = some u := by
      intro i hi
      have e : f i = Classical.choose (each i hi) := dif_pos hi
      rw [e]
      exact Classical.choose_spec (each i hi)
    have hlen : ((List.range len).map f).length = len := by rw [List.length_map, List.length_range]
    have hmax : maxLen ≤ 9223372036854775807 := by decide
    refine ⟨some a, cap, (List.range len).map f, by rw [hlen], ⟨rfl, by rw [hlen]; omega, fun _ => ⟨a, rfl, fun j p hj => ?_⟩⟩, by rw [hlen]; exact hl, fun z hz => ?_⟩
    · have hj2 : j < len := by
        have := (List.getElem?_eq_some_iff.1 hj).1
        rwa [hlen] at this
      obtain rfl : f j = p := by
        rw [List.getElem?_map, List.getElem?_range hj2] at hj
        exact Option.some.inj hj
      obtain ⟨cs, h1, h2, _, h4⟩ := hf j hj2
      exact ⟨cs, h1, h2, h4⟩
    · obtain ⟨i, hi, rfl⟩ := List.mem_map.1 hz
      obtain ⟨_, _, _, hw, _⟩ := hf i (List.mem_range.1 hi)
      exact hw
end
end Go.Proofs.Ytjllhcfcdimbfaa.Opens
