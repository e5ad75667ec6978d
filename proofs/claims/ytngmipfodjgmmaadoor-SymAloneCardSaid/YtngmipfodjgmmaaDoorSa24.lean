/- Arguments opened: rows of whatever kind, and of units; what they weigh. -/
import Derived.Test.YtngmipfodjgmmaaDoorSa0
import Derived.Test.YtngmipfodjgmmaaDoorSa11
import Derived.Test.YtngmipfodjgmmaaDoorSa23
import Derived.Test.YtngmipfodjgmmaaDoorChecked
import Derived.SizedLaws
import Derived.Lib.SmallJoins
import Derived.Deep.Slices
import Derived.Deep.Fields
import Derived.ChangeSame
import Derived.WideShapes
namespace Go.Proofs.YtngmipfodjgmmaaDoor.Opens
open Go Go.RowKit Go.Joins Go.ChangeShapes Go.WideShapes Go.Deep Go.Proofs.YtngmipfodjgmmaaDoorW.PrintWords Go.Proofs.YtngmipfodjgmmaaDoorW.PrintLast Go.Proofs.YtngmipfodjgmmaaDoorW.PrintMore
set_option linter.unusedVariables false
/-- No part of a datum weighs more than memory holds. -/
def Light {H : Type} (P : Program) (t : TypeId) (d : DataW H) : Prop := ∀ n ∈ d.weights P t, n ≤ reachBytes
section
variable {H : Type} {enc : TypeId × Value → H} {W : World} {P : Program} {α : Type}
theorem light_elem {e : TypeId} {l : List (DataW H)} {i : Nat} {d : DataW H} (hi : l[i]? = some d) : ∀ n ∈ d.weights P e, n ∈ DataW.weightsAll P e l := by
  induction l generalizing i with
  | nil => simp at hi
  | cons x l ih =>
    intro n hn
    simp only [DataW.weightsAll, List.mem_append]
    cases i with
    | zero => simp at hi; subst hi; exact .inl hn
    | succ i => simp at hi; exact .inr (ih hi n hn)
theorem light_row {t e : TypeId} (ht : P.underlying t = some (.slice e)) {el sp : List (DataW H)} (h : Light P t (.slice el sp)) : el.length * P.bytesOf e ≤ reachBytes ∧ ∀ (i : Nat) (d : DataW H), el[i]? = some d → Light P e d := by
  refine ⟨?_, fun i d hi n hn => h n ?_⟩
  · have := h ((el.length + sp.length) * P.bytesOf e) (by simp [DataW.weights, ht])
    exact Nat.le_trans (Nat.mul_le_mul_right _ (Nat.le_add_right _ _)) this
  · simp only [DataW.weights, ht, List.mem_cons, List.mem_append]
    exact .inr (.inl (light_elem hi n hn))
theorem open_rows2 {d : Kd α} {WF : α → Prop} {t e : TypeId} (z0 : α) (ht : P.underlying t = some (.slice e)) (hc : P.cellsOf e = d.sz)
    (hel : ∀ (fuel : Nat) (cs : List Value) (x : DataW H × List MemPlace), cs.length = d.sz → DataW.trod enc P W 0 (fun _ => true) true fuel e cs = some x → ∃ z, d.K W z cs ∧ (Light P e x.1 → WF z))
    {fuel : Nat} {v : Value} {x : DataW H × List MemPlace} (h : DataW.trod enc P W 0 (fun _ => true) true fuel t [v] = some x) :
    ∃ (A : Option Addr) (c : Nat) (xs : List α), v = .slice A xs.length c ∧ d.C W A xs.length xs ∧ xs.length ≤ c ∧ (Light P t x.1 → xs.length * P.bytesOf e ≤ reachBytes ∧ ∀ z ∈ xs, WF z) := by
  rcases open_slice ht h with ⟨he, _⟩ | ⟨a, len, cap, mm, nn, D, Pl, he, _, hl, hm, hmm, hx, hee⟩
  · obtain rfl := (List.cons.inj he).1
    exact ⟨none, 0, [], rfl, ⟨rfl, Nat.zero_le _, fun h => absurd h (Nat.lt_irrefl 0)⟩, Nat.le_refl _, fun _ => ⟨by simp, fun _ h => by cases h⟩⟩
  · obtain rfl := (List.cons.inj he).1
    have hlm : len ≤ mm := by rw [hmm]; simp; omega
    have each : ∀ i, i < len → ∃ (z : α) (cs : List Value), cs.length = d.sz ∧ d.K W z cs ∧ (Light P e (D i) → WF z) ∧ ∀ (q : Nat) (u : Value), cs[q]? = some u → W.cell? (a.add (i * d.sz + q)) = some u := by
      intro i hi
      obtain ⟨cs', hcs, ht'⟩ := hee i (by omega)
      rw [hc] at hcs
      obtain ⟨_, hcl, hat⟩ := World.cells?_some hcs
      obtain ⟨z, hz, hw⟩ := hel _ _ _ hcl ht'
      refine ⟨z, cs', hcl, hz, hw, fun q u hq => ?_⟩
      have hq4 : q < d.sz := by have := (List.getElem?_eq_some_iff.1 hq).1; omega
      rw [← Go.Deep.add_add, hat q hq4]
      exact hq
    let f : Nat → α := fun i => if h : i < len then Classical.choose (each i h) else z0
    have hf : ∀ i, i < len → ∃ cs : List Value, cs.length = d.sz ∧ d.K W (f i) cs ∧ (Light P e (D i) → WF (f i)) ∧ ∀ (q : Nat) (u : Value), cs[q]? = some u → W.cell? (a.add (i * d.sz + q)) = some u := by
      intro i hi
      have e : f i = Classical.choose (each i hi) := dif_pos hi
      rw [e]
      exact Classical.choose_spec (each i hi)
    have hlen : ((List.range len).map f).length = len := by rw [List.length_map, List.length_range]
    have hmax : maxLen ≤ 9223372036854775807 := by decide
    refine ⟨some a, cap, (List.range len).map f, by rw [hlen], ⟨rfl, by rw [hlen]; omega, fun _ => ⟨a, rfl, fun j p hj => ?_⟩⟩, by rw [hlen]; exact hl, fun hL => ?_⟩
    · have hj2 : j < len := by
        have := (List.getElem?_eq_some_iff.1 hj).1
        rwa [hlen] at this
      obtain rfl : f j = p := by
        rw [List.getElem?_map, List.getElem?_range hj2] at hj
        exact Option.some.inj hj
      obtain ⟨cs, h1, h2, _, h4⟩ := hf j hj2
      exact ⟨cs, h1, h2, h4⟩
    · rw [hx] at hL
      obtain ⟨w1, w2⟩ := light_row ht hL
      rw [List.length_map, List.length_range] at w1
      refine ⟨by rw [hlen]; exact w1, fun z hz => ?_⟩
      obtain ⟨i, hi, rfl⟩ := List.mem_map.1 hz
      obtain ⟨_, _, _, hw, _⟩ := hf i (List.mem_range.1 hi)
      exact hw (w2 i (D i) (by rw [List.getElem?_map, List.getElem?_range (List.mem_range.1 hi)]; rfl))
end
theorem c_str : Tryd.prog.cellsOf 9 = 1 := by kernel_rfl
theorem c_int : Tryd.prog.cellsOf 3 = 1 := by kernel_rfl
theorem c_bool : Tryd.prog.cellsOf 4 = 1 := by kernel_rfl
section
variable {H : Type} {enc : TypeId × Value → H} {W : World} {b0 : Nat}
end
end Go.Proofs.YtngmipfodjgmmaaDoor.Opens
