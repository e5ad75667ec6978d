/- Walks and plain laws of this claim, a part. -/
import Derived.Test.YtngmipfodjgmmaaGreatDoorFz23
import Derived.Test.YtngmipfodjgmmaaGreatDoorChecked
import Derived.SizedLaws
import Derived.Lib.SmallJoins
import Derived.Deep.Slices
import Derived.Deep.Fields
import Derived.ChangeSame
import Derived.WideShapes
set_option maxRecDepth 100000
set_option maxHeartbeats 8000000
set_option linter.unusedVariables false
set_option linter.unusedSimpArgs false
section
namespace Go.Proofs.YtngmipfodjgmmaaGreatDoor.Opens
open Go Go.RowKit Go.Joins Go.ChangeShapes Go.WideShapes Go.Deep Wa Wb Wc
def Light {H : Type} (P : Program) (t : TypeId) (d : DataW H) : Prop := ∀ n ∈ d.weights P t, n ≤ reachBytes
section
variable {H : Type} {enc : TypeId × Value → H} {W : World} {P : Program} {α : Type}
theorem light_elem {e : TypeId} {l : List (DataW H)} {i : Nat} {d : DataW H} (hi : l[i]? = some d) : ∀ n ∈ d.weights P e, n ∈ DataW.weightsAll P e l := by
 induction l generalizing i with
 | nil => simp at hi
 | cons x l ih =>
  intro n hn
  simp only [DataW.weightsAll, List.mem_append]
  cases i with
  | zero => simp at hi; subst hi; exact .inl hn
  | succ i => simp at hi; exact .inr (ih hi n hn)
theorem light_row {t e : TypeId} (ht : P.underlying t = some (.slice e)) {el sp : List (DataW H)} (h : Light P t (.slice el sp)) : el.length * P.bytesOf e ≤ reachBytes ∧ ∀ (i : Nat) (d : DataW H), el[i]? = some d → Light P e d := by
 refine ⟨?_, fun i d hi n hn => h n ?_⟩
 ·have := h ((el.length + sp.length) * P.bytesOf e) (by simp [DataW.weights, ht])
  exact Nat.le_trans (Nat.mul_le_mul_right _ (Nat.le_add_right _ _)) this
 simp only [DataW.weights, ht, List.mem_cons, List.mem_append]
 exact .inr (.inl (light_elem hi n hn))
theorem open_rows2 {d : Kd α} {WF : α → Prop} {t e : TypeId} (z0 : α) (ht : P.underlying t = some (.slice e)) (hc : P.cellsOf e = d.sz)
 (hel : ∀ (fuel : Nat) (cs : List Value) (x : DataW H × List MemPlace), cs.length = d.sz → DataW.trod enc P W 0 (fun _ => true) true fuel e cs = some x → ∃ z, d.K W z cs ∧ (Light P e x.1 → WF z))
 {fuel : Nat} {v : Value} {x : DataW H × List MemPlace} (h : DataW.trod enc P W 0 (fun _ => true) true fuel t [v] = some x) :
 ∃ (A : Option Addr) (c : Nat) (xs : List α), v = .slice A xs.length c ∧ d.C W A xs.length xs ∧ xs.length ≤ c ∧ (Light P t x.1 → xs.length * P.bytesOf e ≤ reachBytes ∧ ∀ z ∈ xs, WF z) := by
 rcases open_slice ht h with ⟨he, _⟩ | ⟨a, len, cap, mm, nn, D, Pl, he, _, hl, hm, hmm, hx, hee⟩
 ·obtain rfl := (List.cons.inj he).1
  exact ⟨none, 0, [], rfl, ⟨rfl, Nat.zero_le _, fun h => absurd h (Nat.lt_irrefl 0)⟩, Nat.le_refl _, fun _ => ⟨by simp, fun _ h => by cases h⟩⟩
 obtain rfl := (List.cons.inj he).1
 have hlm : len ≤ mm := by rw [hmm]; simp; omega
 have each : ∀ i, i < len → ∃ (z : α) (cs : List Value), cs.length = d.sz ∧ d.K W z cs ∧ (Light P e (D i) → WF z) ∧ ∀ (q : Nat) (u : Value), cs[q]? = some u → W.cell? (a.add (i * d.sz + q)) = some u := by
  intro i hi
  obtain ⟨cs', hcs, ht'⟩ := hee i (by omega)
  rw [hc] at hcs
  obtain ⟨_, hcl, hat⟩ := World.cells?_some hcs
  obtain ⟨z, hz, hw⟩ := hel _ _ _ hcl ht'
  refine ⟨z, cs', hcl, hz, hw, fun q u hq => ?_⟩
  have hq4 : q < d.sz := by have := (List.getElem?_eq_some_iff.1 hq).1; omega
  rw [← Go.Deep.add_add, hat q hq4]
  exact hq
 let f : Nat → α := fun i => if h : i < len then Classical.choose (each i h) else z0
 have hf : ∀ i, i < len → ∃ cs : List Value, cs.length = d.sz ∧ d.K W (f i) cs ∧ (Light P e (D i) → WF (f i)) ∧ ∀ (q : Nat) (u : Value), cs[q]? = some u → W.cell? (a.add (i * d.sz + q)) = some u := by
  intro i hi
  have e : f i = Classical.choose (each i hi) := dif_pos hi
  rw [e]
  exact Classical.choose_spec (each i hi)
 have hlen : ((List.range len).map f).length = len := by rw [List.length_map, List.length_range]
 have hmax : maxLen ≤ 9223372036854775807 := by decide
 refine ⟨some a, cap, (List.range len).map f, by rw [hlen], ⟨rfl, by rw [hlen]; omega, fun _ => ⟨a, rfl, fun j p hj => ?_⟩⟩, by rw [hlen]; exact hl, fun hL => ?_⟩
 ·have hj2 : j < len := by
   have := (List.getElem?_eq_some_iff.1 hj).1
   rwa [hlen] at this
  obtain rfl : f j = p := by
   rw [List.getElem?_map, List.getElem?_range hj2] at hj
   exact Option.some.inj hj
  obtain ⟨cs, h1, h2, _, h4⟩ := hf j hj2
  exact ⟨cs, h1, h2, h4⟩
 rw [hx] at hL
 obtain ⟨w1, w2⟩ := light_row ht hL
 rw [List.length_map, List.length_range] at w1
 refine ⟨by rw [hlen]; exact w1, fun z hz => ?_⟩
 obtain ⟨i, hi, rfl⟩ := List.mem_map.1 hz
 obtain ⟨_, _, _, hw, _⟩ := hf i (List.mem_range.1 hi)
 exact hw (w2 i (D i) (by rw [List.getElem?_map, List.getElem?_range (List.mem_range.1 hi)]; rfl))
end
theorem c_ref : Tryz.prog.cellsOf 80 = 4 := by kernel_rfl
theorem c_unit : Tryz.prog.cellsOf 39 = 6 := by kernel_rfl
theorem c_str : Tryz.prog.cellsOf 9 = 1 := by kernel_rfl
theorem c_int : Tryz.prog.cellsOf 3 = 1 := by kernel_rfl
theorem c_bool : Tryz.prog.cellsOf 4 = 1 := by kernel_rfl
theorem c_refs : Tryz.prog.cellsOf 37 = 1 := by kernel_rfl
theorem b_ref : Tryz.prog.bytesOf 80 = 32 := by kernel_rfl
theorem b_unit : Tryz.prog.bytesOf 39 = 80 := by kernel_rfl
theorem b_bool : Tryz.prog.bytesOf 4 = 1 := by kernel_rfl
section
variable {H : Type} {enc : TypeId × Value → H} {W : World} {b0 : Nat}
theorem open_ref (fuel : Nat) (cs : List Value) (x : DataW H × List MemPlace) (hl : cs.length = 4) (h : DataW.trod enc Tryz.prog W 0 (fun _ => true) true fuel 80 cs = some x) : ∃ z : P.S80, P.k80.K W z cs ∧ (Light Tryz.prog 80 x.1 → True) := by
 obtain ⟨ys, m, _, _, _, hyl, hg⟩ := DataW.trod_struct Tryz.underlying80 h
 match cs, hl with
 | [u0, u1, u2, u3], _ =>
  match ys, hyl with
  | [y0, y1, y2, y3], _ =>
   have g0 : DataW.trod enc Tryz.prog W 0 (fun _ => true) true m 3 [u0] = some y0 := by simpa [c_int] using hg 0 _ rfl
   have g1 : DataW.trod enc Tryz.prog W 0 (fun _ => true) true m 3 [u1] = some y1 := by simpa [c_int] using hg 1 _ rfl
   have g2 : DataW.trod enc Tryz.prog W 0 (fun _ => true) true m 3 [u2] = some y2 := by simpa [c_int] using hg 2 _ rfl
   have g3 : DataW.trod enc Tryz.prog W 0 (fun _ => true) true m 3 [u3] = some y3 := by simpa [c_int] using hg 3 _ rfl
   obtain ⟨z0, e0, _⟩ := DataW.trod_int Tryz.underlying3 g0
   obtain ⟨z1, e1, _⟩ := DataW.trod_int Tryz.underlying3 g1
   obtain ⟨z2, e2, _⟩ := DataW.trod_int Tryz.underlying3 g2
   obtain ⟨z3, e3, _⟩ := DataW.trod_int Tryz.underlying3 g3
   obtain rfl := (List.cons.inj e0).1
   obtain rfl := (List.cons.inj e1).1
   obtain rfl := (List.cons.inj e2).1
   obtain rfl := (List.cons.inj e3).1
   exact ⟨⟨z0, z1, z2, z3⟩, P.k80_mk W ⟨z0, z1, z2, z3⟩, fun _ => trivial⟩
theorem light_field {t : TypeId} {fs : List TypeId} {ds : List (DataW H)} {j : Nat} {d : DataW H} (h : ∀ n ∈ DataW.weightsEach Tryz.prog fs ds, n ≤ reachBytes) (hf : fs[j]? = some t) (hd : ds[j]? = some d) : Light Tryz.prog t d := fun n hn => h n (DataW.weights_mem_each hf hd n hn)
theorem open_unit (fuel : Nat) (cs : List Value) (x : DataW H × List MemPlace) (hl : cs.length = 6) (h : DataW.trod enc Tryz.prog W 0 (fun _ => true) true fuel 39 cs = some x) : ∃ z : P.S39, P.k39.K W z cs ∧ (Light Tryz.prog 39 x.1 → z.f5.length ≤ 4398046510976) := by
 obtain ⟨ys, m, _, hx, _, hyl, hg⟩ := DataW.trod_struct Tryz.underlying39 h
 match cs, hl with
 | [u0, u1, u2, u3, u4, u5], _ =>
  match ys, hyl with
  | [y0, y1, y2, y3, y4, y5], _ =>
   have g0 : DataW.trod enc Tryz.prog W 0 (fun _ => true) true m 9 [u0] = some y0 := by simpa [c_str] using hg 0 _ rfl
   have g1 : DataW.trod enc Tryz.prog W 0 (fun _ => true) true m 3 [u1] = some y1 := by simpa [c_int] using hg 1 _ rfl
   have g2 : DataW.trod enc Tryz.prog W 0 (fun _ => true) true m 4 [u2] = some y2 := by simpa [c_bool] using hg 2 _ rfl
   have g3 : DataW.trod enc Tryz.prog W 0 (fun _ => true) true m 3 [u3] = some y3 := by simpa [c_int] using hg 3 _ rfl
   have g4 : DataW.trod enc Tryz.prog W 0 (fun _ => true) true m 9 [u4] = some y4 := by simpa [c_str] using hg 4 _ rfl
   have g5 : DataW.trod enc Tryz.prog W 0 (fun _ => true) true m 37 [u5] = some y5 := by simpa [c_refs] using hg 5 _ rfl
   obtain ⟨z0, e0, _⟩ := DataW.trod_string Tryz.underlying9 g0
   obtain ⟨z1, e1, _⟩ := DataW.trod_int Tryz.underlying3 g1
   obtain ⟨z2, e2, _⟩ := DataW.trod_bool Tryz.underlying4 g2
   obtain ⟨z3, e3, _⟩ := DataW.trod_int Tryz.underlying3 g3
   obtain ⟨z4, e4, _⟩ := DataW.trod_string Tryz.underlying9 g4
   obtain ⟨A, c, xs, e5, hC, hc, hL⟩ := open_rows2 (d := P.k80) (WF := fun _ => True) P.z80 Tryz.underlying37 c_ref open_ref g5
   obtain rfl := (List.cons.inj e0).1
   obtain rfl := (List.cons.inj e1).1
   obtain rfl := (List.cons.inj e2).1
   obtain rfl := (List.cons.inj e3).1
   obtain rfl := (List.cons.inj e4).1
   subst e5
   refine ⟨⟨z0, z1, z2, z3, z4, xs⟩, P.k39_mk W ⟨z0, z1, z2, z3, z4, xs⟩ hc hC, fun hl => ?_⟩
   have h5 : Light Tryz.prog 37 y5.1 := by
    rw [hx] at hl
    refine light_field (fs := [9, 3, 4, 3, 9, 37]) (ds := [y0.1, y1.1, y2.1, y3.1, y4.1, y5.1]) (j := 5) (fun n hn => hl n ?_) rfl rfl
    simpa [DataW.weights, Tryz.underlying39] using hn
   have := (hL h5).1
   rw [b_ref] at this
   have e : reachBytes = 140737488351232 := by decide
   show xs.length ≤ 4398046510976
   omega
theorem open_units {v : Value} {d : DataW H} {p : List MemPlace} (hv : Value.okWide Tryz.prog W .any b0 22 v) (h : DataW.Trod enc Tryz.prog W 0 (fun _ => true) true 22 v d p) :
 ∃ (A : Option Addr) (c : Nat) (xs : List P.S39), v = .slice A xs.length c ∧ Kd.C P.k39 W A xs.length xs ∧ xs.length ≤ c ∧ (Light Tryz.prog 22 d → xs.length ≤ 1759218604390 ∧ ∀ z ∈ xs, z.f5.length ≤ 4398046510976) := by
 obtain ⟨a, len, cap, rfl⟩ := okWide_slice Tryz.underlying22 hv
 obtain ⟨fuel, hf⟩ := h
 obtain ⟨A, c, xs, h1, h2, h3, h4⟩ := open_rows2 (d := P.k39) (WF := fun z => z.f5.length ≤ 4398046510976) P.z39 Tryz.underlying22 c_unit open_unit hf
 refine ⟨A, c, xs, h1, h2, h3, fun hL => ?_⟩
 obtain ⟨w1, w2⟩ := h4 hL
 rw [b_unit] at w1
 have e : reachBytes = 140737488351232 := by decide
 exact ⟨by omega, w2⟩
theorem open_bools2 {v : Value} {d : DataW H} {p : List MemPlace} (hv : Value.okWide Tryz.prog W .any b0 23 v) (h : DataW.Trod enc Tryz.prog W 0 (fun _ => true) true 23 v d p) :
 ∃ (A : Option Addr) (c : Nat) (xs : List Bool), v = .slice A xs.length c ∧ Kd.C Kd.bool W A xs.length xs ∧ xs.length ≤ c ∧ (Light Tryz.prog 23 d → xs.length ≤ 140737488351232) := by
 obtain ⟨a, len, cap, rfl⟩ := okWide_slice Tryz.underlying23 hv
 obtain ⟨fuel, hf⟩ := h
 obtain ⟨A, c, xs, h1, h2, h3, h4⟩ := open_rows2 (d := Kd.bool) (WF := fun _ => True) false Tryz.underlying23 c_bool (fun fuel cs x hl h => by
  match cs, hl with
  | [u], _ =>
   obtain ⟨z, e, _⟩ := DataW.trod_bool Tryz.underlying4 h
   exact ⟨z, e, fun _ => trivial⟩) hf
 refine ⟨A, c, xs, h1, h2, h3, fun hL => ?_⟩
 have w1 := (h4 hL).1
 rw [b_bool] at w1
 have e : reachBytes = 140737488351232 := by decide
 omega
end
end Go.Proofs.YtngmipfodjgmmaaGreatDoor.Opens
end
section
namespace Go.Proofs.YtngmipfodjgmmaaGreatDoor.P
open Go.RowKit Wa Wb Wc
attribute [local go_sem] max2_int min2_int max_two min_two max_three min_three max_four min_four
def cleatref16_Big.f (a0_0 : ByteArray) (a0_1 : Int) (a0_2 : Bool) (a0_3 : Int) (a0_4 : ByteArray) (l0_5 : List (S98)) : Option (Bool) := if (a0_4.size : Int) > 5000 then (some true) else (if (l0_5.length : Int) > 80 then (some true) else (some (decide ((a0_0.size : Int) > 100))))
theorem cleatref16_Big.calls (a0_0 : ByteArray) (a0_1 : Int) (a0_2 : Bool) (a0_3 : Int) (a0_4 : ByteArray) (A0_5 : Option Addr) (c0_5 : Nat) (l0_5 : List (S98)) (r : Bool) (w : World) (hr0_5 : Kd.C k98 w A0_5 l0_5.length l0_5) (hc0_5 : l0_5.length ≤ c0_5) (h : cleatref16_Big.f a0_0 a0_1 a0_2 a0_3 a0_4 l0_5 = some r) :
 Calls Tryz.prog 38 #[.agg #[.string a0_0, .int .i64 a0_1, .bool a0_2, .int .i64 a0_3, .string a0_4, .slice A0_5 l0_5.length c0_5]] w fun e w' => e = .returned (.bool r) ∧ Below w.heap.size w w' := by
 have hu64 := Tryz.underlying64
 have HR0_5 := Azz.mk hr0_5
 have HC0_5 := Azz.mk hc0_5
 clear hr0_5 hc0_5
 have HB := Azz.mk (Below.refl w.heap.size w)
 have H : (if (a0_4.size : Int) > 5000 then (some true) else (if (l0_5.length : Int) > 80 then (some true) else (some (decide ((a0_0.size : Int) > 100))))) = some r := h
 clear h
 by_cases c2 : (a0_4.size : Int) > 5000
 ·rw [if_pos c2] at H
  have c2b0 := dT_ c2
  have c2b1 : decide (5000 < a0_4.size) = true := dT_ (by omega)
  clear c2
  obtain rfl := sI H
  go_enter Tryz.func38, Tryz.ntmps38
  go_wp2_with (first | ((with_reducible refine gate_dst (N := 1) rfl ?_); (try (refine gate_guard (by rfl) ?_; dsimp only)); refine bxE (N := 1) (by with_reducible repeat first | exact HB.out | apply bAA | apply bNN | apply bDD) (cs := #[.string a0_0, .int .i64 a0_1, .bool a0_2, .int .i64 a0_3, .string a0_4, .slice A0_5 l0_5.length c0_5]) (t := 64) ?_; intro gb101 w3 n0_ BK101 GE101; clear HB; have HB := n0_; have GW101 := GE101; clear n0_; obtain ⟨hcz4_0, hcz4_1, hcz4_2, hcz4_3, hcz4_4, hcz4_5, hfz4_0, hfz4_1, hfz4_2, hfz4_3, hfz4_4, hfz4_5⟩ := cel6 BK101.out))
  go_ret
  exact ⟨eqB, by repeat (first | (with_reducible first | exact HB.out | apply bAA | apply bNN | apply bDD | refine bSS ?_ GE101.out) | exact HB.out)⟩
 rw [if_neg c2] at H
 have c2b0 := dF_ c2
 have c2b1 : decide (5000 < a0_4.size) = false := dF_ (by omega)
 clear c2
 by_cases c5 : (l0_5.length : Int) > 80
 ·rw [if_pos c5] at H
  have c5b0 := dT_ c5
  have c5b1 : decide (80 < l0_5.length) = true := dT_ (by omega)
  clear c5
  obtain rfl := sI H
  go_enter Tryz.func38, Tryz.ntmps38
  go_wp2_with (first | ((with_reducible refine gate_dst (N := 1) rfl ?_); (try (refine gate_guard (by rfl) ?_; dsimp only)); refine bxE (N := 1) (by with_reducible repeat first | exact HB.out | apply bAA | apply bNN | apply bDD) (cs := #[.string a0_0, .int .i64 a0_1, .bool a0_2, .int .i64 a0_3, .string a0_4, .slice A0_5 l0_5.length c0_5]) (t := 64) ?_; intro gb101 w6 n0_ BK101 GE101; clear HB; have HB := n0_; have GW101 := GE101; clear n0_; obtain ⟨hcz7_0, hcz7_1, hcz7_2, hcz7_3, hcz7_4, hcz7_5, hfz7_0, hfz7_1, hfz7_2, hfz7_3, hfz7_4, hfz7_5⟩ := cel6 BK101.out))
  go_ret
  exact ⟨eqB, by repeat (first | (with_reducible first | exact HB.out | apply bAA | apply bNN | apply bDD | refine bSS ?_ GE101.out) | exact HB.out)⟩
 rw [if_neg c5] at H
 have c5b0 := dF_ c5
 have c5b1 : decide (80 < l0_5.length) = false := dF_ (by omega)
 clear c5
 obtain rfl := sI H
 go_enter Tryz.func38, Tryz.ntmps38
 go_wp2_with (first | ((with_reducible refine gate_dst (N := 1) rfl ?_); (try (refine gate_guard (by rfl) ?_; dsimp only)); refine bxE (N := 1) (by with_reducible repeat first | exact HB.out | apply bAA | apply bNN | apply bDD) (cs := #[.string a0_0, .int .i64 a0_1, .bool a0_2, .int .i64 a0_3, .string a0_4, .slice A0_5 l0_5.length c0_5]) (t := 64) ?_; intro gb101 w8 n0_ BK101 GE101; clear HB; have HB := n0_; have GW101 := GE101; clear n0_; obtain ⟨hcz9_0, hcz9_1, hcz9_2, hcz9_3, hcz9_4, hcz9_5, hfz9_0, hfz9_1, hfz9_2, hfz9_3, hfz9_4, hfz9_5⟩ := cel6 BK101.out))
 go_ret
 exact ⟨eqB, by repeat (first | (with_reducible first | exact HB.out | apply bAA | apply bNN | apply bDD | refine bSS ?_ GE101.out) | exact HB.out)⟩
mutual
def num_digit.j0 : Nat → Int → Int → Bool → Option (Int × Bool)
 | 0, _, _, _ => none
 | k + 1, x0, x1, x7 => if x7 = true then (some (IntKind.u64.wrap (wrap32 (x0 - 48)), decide ((IntKind.u64.wrap (wrap32 (x0 - 48))) < x1))) else (if x0 ≥ 97 then (num_digit.j1 k x0 x1 (decide (x0 ≤ 102))) else (num_digit.j1 k x0 x1 false))
def num_digit.j1 : Nat → Int → Int → Bool → Option (Int × Bool)
 | 0, _, _, _ => none
 | k + 1, x0, x1, x17 => if x17 = true then (some (IntKind.u64.wrap ((IntKind.u64.wrap (wrap32 (x0 - 97))) + 10), decide ((IntKind.u64.wrap ((IntKind.u64.wrap (wrap32 (x0 - 97))) + 10)) < x1))) else (if x0 ≥ 65 then (if x0 ≤ 70 then (some (IntKind.u64.wrap ((IntKind.u64.wrap (wrap32 (x0 - 65))) + 10), decide ((IntKind.u64.wrap ((IntKind.u64.wrap (wrap32 (x0 - 65))) + 10)) < x1))) else (some (0, false))) else (some (0, false)))
end
def num_digit.f (k : Nat) (a0 : Int) (a1 : Int) : Option (Int × Bool) := if a0 ≥ 48 then (num_digit.j0 k a0 a1 (decide (a0 ≤ 57))) else (num_digit.j0 k a0 a1 false)
theorem num_digit.mono_l : ∀ k, (∀ y0 y1 y2, LeO (num_digit.j0 k y0 y1 y2) (num_digit.j0 (k + 1) y0 y1 y2)) ∧ (∀ y0 y1 y2, LeO (num_digit.j1 k y0 y1 y2) (num_digit.j1 (k + 1) y0 y1 y2))
 | 0 => ⟨fun _ _ _ r h => by simp [num_digit.j0] at h, fun _ _ _ r h => by simp [num_digit.j1] at h⟩
 | k + 1 => by
  obtain ⟨ih0, ih1⟩ := num_digit.mono_l k
  refine ⟨?_, ?_⟩
  ·intro y0 y1 y2
   unfold num_digit.j0
   repeat' first
   | (with_reducible exact ih0 _ _ _)
   | (with_reducible exact ih1 _ _ _)
   | (with_reducible exact LeO.refl _)
   | (with_reducible exact LeO.none _)
   | (with_reducible refine LeO.ite ?_ ?_)
   | (with_reducible refine LeO.bind ?_ (fun _ => ?_))
  intro y0 y1 y2
  unfold num_digit.j1
  repeat' first
  | (with_reducible exact ih0 _ _ _)
  | (with_reducible exact ih1 _ _ _)
  | (with_reducible exact LeO.refl _)
  | (with_reducible exact LeO.none _)
  | (with_reducible refine LeO.ite ?_ ?_)
  | (with_reducible refine LeO.bind ?_ (fun _ => ?_))
theorem num_digit.mono : ∀ a0 a1 k, LeO (num_digit.f k a0 a1) (num_digit.f (k + 1) a0 a1) := by
 intro a0 a1 k
 obtain ⟨ih0, ih1⟩ := num_digit.mono_l k
 unfold num_digit.f
 repeat' first
  | (with_reducible exact ih0 _ _ _)
  | (with_reducible exact ih1 _ _ _)
  | (with_reducible exact LeO.refl _)
  | (with_reducible exact LeO.none _)
  | (with_reducible refine LeO.ite ?_ ?_)
  | (with_reducible refine LeO.bind ?_ (fun _ => ?_))
theorem num_digit.calls (k : Nat) (a0 : Int) (a1 : Int) (r1 : Int) (r2 : Bool) (w : World) (h : num_digit.f k a0 a1 = some (r1, r2)) :
 Calls Tryz.prog 93 #[.int .i32 a0, .int .u64 a1] w fun e w' => e = .returned (.tuple #[.int .u64 r1, .bool r2]) ∧ Drawn0 w w' := by
 have H : (if a0 ≥ 48 then (num_digit.j0 k a0 a1 (decide (a0 ≤ 57))) else (num_digit.j0 k a0 a1 false)) = some (r1, r2) := h
 clear h
 have HC3 := Azz.mk H
 clear H
 go_enter Tryz.func93, Tryz.ntmps93
 go_upto_region 3 with (fail)
 go_cut [7] (fun v7 wc => ∃ (kq : Nat) (x7_2 : Bool), v7 = .bool x7_2 ∧ Azz (num_digit.j0 kq a0 a1 x7_2 = some (r1, r2)) ∧ Azz (kq ≤ k) ∧ Drawn0 w wc)
 case first =>
  have H := HC3.out
  clear HC3
  by_cases c4 : a0 ≥ 48
  ·rw [if_pos c4] at H
   have c4b0 := dT_ c4
   clear c4
   (first | rw [c4b0] | (simp only [i64_w, i32_w]; rw [c4b0]) | skip)
   have H' := Azz.mk H
   clear H
   go_wp2
   go_meet
   case rel => exact ⟨_, (decide (a0 ≤ 57)), eqS, H', ⟨leS⟩, d0S⟩
  rw [if_neg c4] at H
  have c4b0 := dF_ c4
  clear c4
  (first | rw [c4b0] | (simp only [i64_w, i32_w]; rw [c4b0]) | skip)
  have H' := Azz.mk H
  clear H
  go_wp2
  go_meet
  case rel => exact ⟨_, (false), eqS, H', ⟨leS⟩, d0S⟩
 case rest =>
  clear HC3
  try clear p2
  try clear c4
  try clear c4b0
  obtain ⟨kq, x7_2, rfl, HA, HJ2, ⟨mc2, rfl⟩⟩ := hcut
  cases kq with
  | zero => exact absurd HA.out (by simp [num_digit.j0])
  | succ kj2 =>
   have H := HA.out
   clear HA
   simp only [num_digit.j0] at H
   by_cases c5 : x7_2 = true
   ·subst c5
    rw [if_pos rfl] at H
    simp only [sJ_, pJ_] at H
    obtain ⟨rfl, rfl⟩ := H
    go_wp2
    go_ret2
    exact ⟨by first | rfl | (simp; done) | (simp [*]; done), d0S⟩
   replace c5 := Bool.eq_false_iff.mpr c5
   subst c5
   rw [if_neg nFT] at H
   have HC6 := Azz.mk H
   clear H
   go_upto_region 5 with (fail)
   go_cut [17] (fun v17 wc => ∃ (kq : Nat) (x17_5 : Bool), v17 = .bool x17_5 ∧ Azz (num_digit.j1 kq a0 a1 x17_5 = some (r1, r2)) ∧ Azz (kq ≤ kj2) ∧ Drawn0 w wc)
   case first =>
    have H := HC6.out
    clear HC6
    by_cases c7 : a0 ≥ 97
    ·rw [if_pos c7] at H
     have c7b0 := dT_ c7
     clear c7
     (first | rw [c7b0] | (simp only [i64_w, i32_w]; rw [c7b0]) | skip)
     have H' := Azz.mk H
     clear H
     go_wp2
     go_meet
     case rel => exact ⟨_, (decide (a0 ≤ 102)), eqS, H', ⟨by have := HJ2.out; first | omega | exact Nat.le_refl _⟩, d0S⟩
    rw [if_neg c7] at H
    have c7b0 := dF_ c7
    clear c7
    (first | rw [c7b0] | (simp only [i64_w, i32_w]; rw [c7b0]) | skip)
    have H' := Azz.mk H
    clear H
    go_wp2
    go_meet
    case rel => exact ⟨_, (false), eqS, H', ⟨by have := HJ2.out; first | omega | exact Nat.le_refl _⟩, d0S⟩
   case rest =>
    clear HC6
    try clear c2
    try clear p2
    try clear p3
    try clear c4
    try clear c4b0
    try clear c5
    try clear c7
    try clear c7b0
    try clear p2
    obtain ⟨kq, x17_5, rfl, HA, HJ5, ⟨mc5, rfl⟩⟩ := hcut
    cases kq with
    | zero => exact absurd HA.out (by simp [num_digit.j1])
    | succ kj5 =>
     have H := HA.out
     clear HA
     simp only [num_digit.j1] at H
     by_cases c8 : x17_5 = true
     ·subst c8
      rw [if_pos rfl] at H
      simp only [sJ_, pJ_] at H
      obtain ⟨rfl, rfl⟩ := H
      go_wp2
      go_ret2
      exact ⟨by first | rfl | (simp; done) | (simp [*]; done), d0S⟩
     replace c8 := Bool.eq_false_iff.mpr c8
     subst c8
     rw [if_neg nFT] at H
     by_cases c9 : a0 ≥ 65
     ·rw [if_pos c9] at H
      have c9b0 := dT_ c9
      clear c9
      by_cases c10 : a0 ≤ 70
      ·rw [if_pos c10] at H
       have c10b0 := dT_ c10
       clear c10
       simp only [sJ_, pJ_] at H
       obtain ⟨rfl, rfl⟩ := H
       go_wp2
       go_ret2
       exact ⟨by first | rfl | (simp; done) | (simp [*]; done), d0S⟩
      rw [if_neg c10] at H
      have c10b0 := dF_ c10
      clear c10
      simp only [sJ_, pJ_] at H
      obtain ⟨rfl, rfl⟩ := H
      go_wp2
      go_ret2
      exact ⟨by first | rfl | (simp; done) | (simp [*]; done), d0S⟩
     rw [if_neg c9] at H
     have c9b0 := dF_ c9
     clear c9
     simp only [sJ_, pJ_] at H
     obtain ⟨rfl, rfl⟩ := H
     go_wp2
     go_ret2
     exact ⟨by first | rfl | (simp; done) | (simp [*]; done), d0S⟩
def num_digits.l0 : Nat → ByteArray → Int → Nat → Option Bool
 | 0, _, _, _ => none
 | k + 1, s, b, i => if i < s.size then (if bt s (i : Int) < 128 then ((num_digit.f k (bt s (i : Int)) b).bind fun t => if t.2 = true then num_digits.l0 k s b (i + 1) else some false) else some false) else some true
def num_digits.f (k : Nat) (a0 : ByteArray) (a1 : Int) : Option Bool := if a0.size = 0 then some false else num_digits.l0 k a0 a1 0
theorem num_digits.mono_l : ∀ k s b i, LeO (num_digits.l0 k s b i) (num_digits.l0 (k + 1) s b i)
 | 0, s, b, i => fun r h => by simp [num_digits.l0] at h
 | k + 1, s, b, i => by
  have ih := num_digits.mono_l k
  rw [num_digits.l0, num_digits.l0.eq_2 s b i (k + 1)]
  exact LeO.ite (LeO.ite (LeO.bind (num_digit.mono _ _ k) fun t => LeO.ite (ih _ _ _) (LeO.refl _)) (LeO.refl _)) (LeO.refl _)
theorem num_digits.mono : ∀ a0 a1 k, LeO (num_digits.f k a0 a1) (num_digits.f (k + 1) a0 a1) := by
 intro a0 a1 k
 unfold num_digits.f
 exact LeO.ite (LeO.refl _) (num_digits.mono_l k _ _ _)
theorem num_digit.high (r b : Int) (h : 128 ≤ r) : num_digit.f 9 r b = some (0, false) := by
 unfold num_digit.f
 rw [if_pos (by omega), dF_ (by omega : ¬ r ≤ 57), num_digit.j0, if_neg (by decide), if_pos (by omega), dF_ (by omega : ¬ r ≤ 102), num_digit.j1, if_neg (by decide), if_pos (by omega), if_neg (by omega)]
theorem num_digits.iter_drewN (w : World) (s : ByteArray) (p m n : Nat) : ((w.drewN m).iter s p).drewN n = (w.drewN (m + n)).iter s p := by
 rw [← World.drewN_drewN]
 rfl
theorem num_digits.iter_below (w : World) (s : ByteArray) (p m : Nat) : Below w.heap.size w ((w.drewN m).iter s p) := by
 unfold World.iter
 repeat (first | exact Below.refl _ _ | apply bAA | apply bNN | apply bDD)
theorem num_digits.bt_at (s : ByteArray) (p : Nat) (h : p < s.size) : bt s (p : Int) = ((s[p]'h).toNat : Int) := by
 unfold bt
 rw [dif_pos (by rw [Int.toNat_natCast]; exact h)]
 rfl
theorem num_digits.not_empty (s : ByteArray) (h0 : ¬ s.size = 0) : (s.toList == ([] : List UInt8)) = false := by
 rw [Go.Lib.toList_data]
 have : s.data.toList.length = s.size := by rw [Array.length_toList]; rfl
 cases hd : s.data.toList with
 | nil => rw [hd] at this; exact absurd this.symm h0
 | cons x l => rfl
theorem num_digits.is_empty (s : ByteArray) (h0 : s.size = 0) : s = ⟨#[]⟩ := by
 cases s
 rename_i d
 have : d = #[] := Array.eq_empty_of_size_eq_zero h0
 rw [this]
theorem num_digits.calls (k : Nat) (a0 : ByteArray) (a1 : Int) (r : Bool) (w : World) (h : num_digits.f k a0 a1 = some r) :
 Calls Tryz.prog 92 #[.string a0, .int .u64 a1] w fun e w' => e = .returned (.bool r) ∧ Below w.heap.size w w' := by
 unfold num_digits.f at h
 by_cases h0 : a0.size = 0
 ·rw [if_pos h0] at h
  obtain rfl := Option.some.inj h
  obtain rfl := num_digits.is_empty a0 h0
  have hnx : ∀ ty, (Instr.next (.pointer (some ⟨w.heap.size, 0, none⟩)) true ty).run Tryz.prog (w.iter ⟨#[]⟩ 0) = .ok (.tuple #[.bool false]) (w.iter ⟨#[]⟩ 0) := fun ty => run_next_end (P := Tryz.prog) w ⟨#[]⟩ 0 ty (by decide)
  clear h
  go_enter Tryz.func92, Tryz.ntmps92
  go_wp2
  go_loopg [6] 1 (fun kq v6 w' => w' = w.iter ⟨#[]⟩ 0)
  case atStart => rfl
  case round =>
   subst hrel
   go_wp2
   go_ret
   exact ⟨rfl, num_digits.iter_below w ⟨#[]⟩ 0 0⟩
 rw [if_neg h0] at h
 have n0 := num_digits.not_empty a0 h0
 have H' := Azz.mk h
 clear h h0
 go_enter Tryz.func92, Tryz.ntmps92
 go_wp2
 go_loopg [6] k (fun kq v6 w' => ∃ (m pos : Nat), Azz (num_digits.l0 kq a0 a1 pos = some r) ∧ Azz (kq ≤ k) ∧ w' = (w.drewN m).iter a0 pos)
 case atStart => exact ⟨0, 0, H', ⟨Nat.le_refl _⟩, rfl⟩
 case round =>
  clear H'
  obtain ⟨m, pos, HA, HK, rfl⟩ := hrel
  cases gk with
  | zero => exact absurd HA.out (by simp [num_digits.l0])
  | succ k1 =>
   have H := HA.out
   clear HA
   rw [num_digits.l0] at H
   by_cases hp : pos < a0.size
   rotate_left
   ·rw [if_neg hp] at H
    obtain rfl := sI H
    have hnx : ∀ ty, (Instr.next (.pointer (some ⟨w.heap.size, 0, none⟩)) true ty).run Tryz.prog ((w.drewN m).iter a0 pos) = .ok (.tuple #[.bool false]) ((w.drewN m).iter a0 pos) := fun ty => run_next_end (P := Tryz.prog) (w.drewN m) a0 pos ty hp
    clear hp
    go_wp2
    go_ret
    exact ⟨rfl, num_digits.iter_below ..⟩
   rw [if_pos hp] at H
   have ebt := num_digits.bt_at a0 pos hp
   by_cases ha : bt a0 (pos : Int) < 128
   ·rw [if_pos ha] at H
    have ha2 : (a0[pos]'hp).toNat < 128 := by rw [ebt] at ha; omega
    have hnx : ∀ ty, (Instr.next (.pointer (some ⟨w.heap.size, 0, none⟩)) true ty).run Tryz.prog ((w.drewN m).iter a0 pos) = .ok (.tuple #[.bool true, .int .i64 pos, .int .i32 (bt a0 (pos : Int))]) ((w.drewN m).iter a0 (pos + 1)) := by
     intro ty
     rw [ebt]
     exact run_next_ascii (P := Tryz.prog) (w.drewN m) a0 pos ty hp ha2
    generalize bt a0 (pos : Int) = c at ha hnx H
    clear ebt ha2 n0
    cases ht : num_digit.f k1 c a1 with
    | none => rw [ht] at H; exact absurd H (by simp)
    | some t =>
     obtain ⟨t1, t2⟩ := t
     rw [ht, Option.bind_some] at H
     have arm := Azz.mk (fun W => num_digit.calls k1 c a1 t1 t2 W ht)
     clear ht
     cases t2 with
     | true =>
      rw [if_pos rfl] at H
      have H' := Azz.mk H
      clear H
      go_wp2_with (first | (go_at_call 93; (with_reducible refine (arm.out _).mono ?_); rintro e w' ⟨rfl, ⟨nd, rfl⟩⟩))
      go_roundg k1
      case measure => have := HK.out; omega
      case rel => exact ⟨_, pos + 1, H', ⟨by have := HK.out; omega⟩, num_digits.iter_drewN ..⟩
     | false =>
      rw [if_neg (by simp)] at H
      obtain rfl := sI H
      go_wp2_with (first | (go_at_call 93; (with_reducible refine (arm.out _).mono ?_); rintro e w' ⟨rfl, ⟨nd, rfl⟩⟩))
      go_ret
      exact ⟨rfl, by rw [num_digits.iter_drewN]; exact num_digits.iter_below ..⟩
   rw [if_neg ha] at H
   obtain rfl := sI H
   obtain ⟨hd, _⟩ := decode_high a0 pos hp (by rw [ebt] at ha; omega)
   have hnx := fun ty => run_next_any (P := Tryz.prog) (w.drewN m) a0 pos ty hp
   generalize (Utf8.decode a0 pos).2 = q at hnx
   generalize (Utf8.decode a0 pos).1 = c at hd hnx
   replace hnx : ∀ ty, (Instr.next (.pointer (some ⟨w.heap.size, 0, none⟩)) true ty).run Tryz.prog ((w.drewN m).iter a0 pos) = .ok (.tuple #[.bool true, .int .i64 pos, .int .i32 ((c : Nat) : Int)]) ((w.drewN m).iter a0 (pos + q)) := hnx
   have arm := Azz.mk (fun W => num_digit.calls 9 ((c : Nat) : Int) a1 0 false W (num_digit.high _ _ (by omega)))
   clear ebt ha n0
   go_wp2_with (first | (go_at_call 93; (with_reducible refine (arm.out _).mono ?_); rintro e w' ⟨rfl, ⟨nd, rfl⟩⟩))
   go_ret
   exact ⟨rfl, by rw [num_digits.iter_drewN]; exact num_digits.iter_below ..⟩
end Go.Proofs.YtngmipfodjgmmaaGreatDoor.P
end
