/- Walks and plain laws of this claim, a part. -/
import Derived.Test.YtngmipfodjgmmaaGreatDoorGs23
import Derived.Test.YtngmipfodjgmmaaGreatDoorChecked
import Derived.SizedLaws
import Derived.Lib.SmallJoins
import Derived.Deep.Slices
import Derived.Deep.Fields
import Derived.ChangeSame
import Derived.WideShapes
section
namespace Go.Proofs.YtngmipfodjgmmaaGreatDoor.Opens
open Go Go.RowKit Go.Joins Go.ChangeShapes Go.WideShapes Go.Deep Go.Proofs.YtngmipfodjgmmaaGreatDoorW.PrintWords Go.Proofs.YtngmipfodjgmmaaGreatDoorW.PrintLast Go.Proofs.YtngmipfodjgmmaaGreatDoorW.PrintMore
set_option linter.unusedVariables false
/-- No part of a datum weighs more than memory holds. -/
def Light {H : Type} (P : Program) (t : TypeId) (d : DataW H) : Prop := ∀ n ∈ d.weights P t, n ≤ reachBytes
section
variable {H : Type} {enc : TypeId × Value → H} {W : World} {P : Program} {α : Type}
theorem light_elem {e : TypeId} {l : List (DataW H)} {i : Nat} {d : DataW H} (hi : l[i]? = some d) : ∀ n ∈ d.weights P e, n ∈ DataW.weightsAll P e l := by
 induction l generalizing i with
 | nil => simp at hi
 | cons x l ih =>
  intro n hn
  simp only [DataW.weightsAll, List.mem_append]
  cases i with
  | zero => simp at hi; subst hi; exact .inl hn
  | succ i => simp at hi; exact .inr (ih hi n hn)
theorem light_row {t e : TypeId} (ht : P.underlying t = some (.slice e)) {el sp : List (DataW H)} (h : Light P t (.slice el sp)) : el.length * P.bytesOf e ≤ reachBytes ∧ ∀ (i : Nat) (d : DataW H), el[i]? = some d → Light P e d := by
 refine ⟨?_, fun i d hi n hn => h n ?_⟩
 ·have := h ((el.length + sp.length) * P.bytesOf e) (by simp [DataW.weights, ht])
  exact Nat.le_trans (Nat.mul_le_mul_right _ (Nat.le_add_right _ _)) this
 ·simp only [DataW.weights, ht, List.mem_cons, List.mem_append]
  exact .inr (.inl (light_elem hi n hn))
theorem open_rows2 {d : Kd α} {WF : α → Prop} {t e : TypeId} (z0 : α) (ht : P.underlying t = some (.slice e)) (hc : P.cellsOf e = d.sz)
 (hel : ∀ (fuel : Nat) (cs : List Value) (x : DataW H × List MemPlace), cs.length = d.sz → DataW.trod enc P W 0 (fun _ => true) true fuel e cs = some x → ∃ z, d.K W z cs ∧ (Light P e x.1 → WF z))
 {fuel : Nat} {v : Value} {x : DataW H × List MemPlace} (h : DataW.trod enc P W 0 (fun _ => true) true fuel t [v] = some x) :
 ∃ (A : Option Addr) (c : Nat) (xs : List α), v = .slice A xs.length c ∧ d.C W A xs.length xs ∧ xs.length ≤ c ∧ (Light P t x.1 → xs.length * P.bytesOf e ≤ reachBytes ∧ ∀ z ∈ xs, WF z) := by
 rcases open_slice ht h with ⟨he, _⟩ | ⟨a, len, cap, mm, nn, D, Pl, he, _, hl, hm, hmm, hx, hee⟩
 ·obtain rfl := (List.cons.inj he).1
  exact ⟨none, 0, [], rfl, ⟨rfl, Nat.zero_le _, fun h => absurd h (Nat.lt_irrefl 0)⟩, Nat.le_refl _, fun _ => ⟨by simp, fun _ h => by cases h⟩⟩
 ·obtain rfl := (List.cons.inj he).1
  have hlm : len ≤ mm := by rw [hmm]; simp; omega
  have each : ∀ i, i < len → ∃ (z : α) (cs : List Value), cs.length = d.sz ∧ d.K W z cs ∧ (Light P e (D i) → WF z) ∧ ∀ (q : Nat) (u : Value), cs[q]? = some u → W.cell? (a.add (i * d.sz + q)) = some u := by
   intro i hi
   obtain ⟨cs', hcs, ht'⟩ := hee i (by omega)
   rw [hc] at hcs
   obtain ⟨_, hcl, hat⟩ := World.cells?_some hcs
   obtain ⟨z, hz, hw⟩ := hel _ _ _ hcl ht'
   refine ⟨z, cs', hcl, hz, hw, fun q u hq => ?_⟩
   have hq4 : q < d.sz := by have := (List.getElem?_eq_some_iff.1 hq).1; omega
   rw [← Go.Deep.add_add, hat q hq4]
   exact hq
  let f : Nat → α := fun i => if h : i < len then Classical.choose (each i h) else z0
  have hf : ∀ i, i < len → ∃ cs : List Value, cs.length = d.sz ∧ d.K W (f i) cs ∧ (Light P e (D i) → WF (f i)) ∧ ∀ (q : Nat) (u : Value), cs[q]? = some u → W.cell? (a.add (i * d.sz + q)) = some u := by
   intro i hi
   have e : f i = Classical.choose (each i hi) := dif_pos hi
   rw [e]
   exact Classical.choose_spec (each i hi)
  have hlen : ((List.range len).map f).length = len := by rw [List.length_map, List.length_range]
  have hmax : maxLen ≤ 9223372036854775807 := by decide
  refine ⟨some a, cap, (List.range len).map f, by rw [hlen], ⟨rfl, by rw [hlen]; omega, fun _ => ⟨a, rfl, fun j p hj => ?_⟩⟩, by rw [hlen]; exact hl, fun hL => ?_⟩
  ·have hj2 : j < len := by
    have := (List.getElem?_eq_some_iff.1 hj).1
    rwa [hlen] at this
   obtain rfl : f j = p := by
    rw [List.getElem?_map, List.getElem?_range hj2] at hj
    exact Option.some.inj hj
   obtain ⟨cs, h1, h2, _, h4⟩ := hf j hj2
   exact ⟨cs, h1, h2, h4⟩
  ·rw [hx] at hL
   obtain ⟨w1, w2⟩ := light_row ht hL
   rw [List.length_map, List.length_range] at w1
   refine ⟨by rw [hlen]; exact w1, fun z hz => ?_⟩
   obtain ⟨i, hi, rfl⟩ := List.mem_map.1 hz
   obtain ⟨_, _, _, hw, _⟩ := hf i (List.mem_range.1 hi)
   exact hw (w2 i (D i) (by rw [List.getElem?_map, List.getElem?_range (List.mem_range.1 hi)]; rfl))
end
theorem c_ref : Tryz.prog.cellsOf 80 = 4 := by kernel_rfl
theorem c_unit : Tryz.prog.cellsOf 39 = 6 := by kernel_rfl
theorem c_str : Tryz.prog.cellsOf 9 = 1 := by kernel_rfl
theorem c_int : Tryz.prog.cellsOf 3 = 1 := by kernel_rfl
theorem c_bool : Tryz.prog.cellsOf 4 = 1 := by kernel_rfl
theorem c_refs : Tryz.prog.cellsOf 37 = 1 := by kernel_rfl
theorem b_ref : Tryz.prog.bytesOf 80 = 32 := by kernel_rfl
theorem b_unit : Tryz.prog.bytesOf 39 = 80 := by kernel_rfl
theorem b_int : Tryz.prog.bytesOf 3 = 8 := by kernel_rfl
section
variable {H : Type} {enc : TypeId × Value → H} {W : World} {b0 : Nat}
set_option maxRecDepth 100000 in
theorem open_ref (fuel : Nat) (cs : List Value) (x : DataW H × List MemPlace) (hl : cs.length = 4) (h : DataW.trod enc Tryz.prog W 0 (fun _ => true) true fuel 80 cs = some x) : ∃ z : P.S80, P.k80.K W z cs ∧ (Light Tryz.prog 80 x.1 → True) := by
 obtain ⟨ys, m, _, _, _, hyl, hg⟩ := DataW.trod_struct Tryz.underlying80 h
 match cs, hl with
 | [u0, u1, u2, u3], _ =>
  match ys, hyl with
  | [y0, y1, y2, y3], _ =>
   have g0 : DataW.trod enc Tryz.prog W 0 (fun _ => true) true m 3 [u0] = some y0 := by simpa [c_int] using hg 0 _ rfl
   have g1 : DataW.trod enc Tryz.prog W 0 (fun _ => true) true m 3 [u1] = some y1 := by simpa [c_int] using hg 1 _ rfl
   have g2 : DataW.trod enc Tryz.prog W 0 (fun _ => true) true m 3 [u2] = some y2 := by simpa [c_int] using hg 2 _ rfl
   have g3 : DataW.trod enc Tryz.prog W 0 (fun _ => true) true m 3 [u3] = some y3 := by simpa [c_int] using hg 3 _ rfl
   obtain ⟨z0, e0, _⟩ := DataW.trod_int Tryz.underlying3 g0
   obtain ⟨z1, e1, _⟩ := DataW.trod_int Tryz.underlying3 g1
   obtain ⟨z2, e2, _⟩ := DataW.trod_int Tryz.underlying3 g2
   obtain ⟨z3, e3, _⟩ := DataW.trod_int Tryz.underlying3 g3
   obtain rfl := (List.cons.inj e0).1
   obtain rfl := (List.cons.inj e1).1
   obtain rfl := (List.cons.inj e2).1
   obtain rfl := (List.cons.inj e3).1
   exact ⟨⟨z0, z1, z2, z3⟩, P.k80_mk W ⟨z0, z1, z2, z3⟩, fun _ => trivial⟩
theorem light_field {t : TypeId} {fs : List TypeId} {ds : List (DataW H)} {j : Nat} {d : DataW H} (h : ∀ n ∈ DataW.weightsEach Tryz.prog fs ds, n ≤ reachBytes) (hf : fs[j]? = some t) (hd : ds[j]? = some d) : Light Tryz.prog t d := fun n hn => h n (DataW.weights_mem_each hf hd n hn)
set_option maxRecDepth 100000 in
theorem open_unit (fuel : Nat) (cs : List Value) (x : DataW H × List MemPlace) (hl : cs.length = 6) (h : DataW.trod enc Tryz.prog W 0 (fun _ => true) true fuel 39 cs = some x) : ∃ z : P.S39, P.k39.K W z cs ∧ (Light Tryz.prog 39 x.1 → z.f5.length ≤ 4398046510976) := by
 obtain ⟨ys, m, _, hx, _, hyl, hg⟩ := DataW.trod_struct Tryz.underlying39 h
 match cs, hl with
 | [u0, u1, u2, u3, u4, u5], _ =>
  match ys, hyl with
  | [y0, y1, y2, y3, y4, y5], _ =>
   have g0 : DataW.trod enc Tryz.prog W 0 (fun _ => true) true m 9 [u0] = some y0 := by simpa [c_str] using hg 0 _ rfl
   have g1 : DataW.trod enc Tryz.prog W 0 (fun _ => true) true m 3 [u1] = some y1 := by simpa [c_int] using hg 1 _ rfl
   have g2 : DataW.trod enc Tryz.prog W 0 (fun _ => true) true m 4 [u2] = some y2 := by simpa [c_bool] using hg 2 _ rfl
   have g3 : DataW.trod enc Tryz.prog W 0 (fun _ => true) true m 3 [u3] = some y3 := by simpa [c_int] using hg 3 _ rfl
   have g4 : DataW.trod enc Tryz.prog W 0 (fun _ => true) true m 9 [u4] = some y4 := by simpa [c_str] using hg 4 _ rfl
   have g5 : DataW.trod enc Tryz.prog W 0 (fun _ => true) true m 37 [u5] = some y5 := by simpa [c_refs] using hg 5 _ rfl
   obtain ⟨z0, e0, _⟩ := DataW.trod_string Tryz.underlying9 g0
   obtain ⟨z1, e1, _⟩ := DataW.trod_int Tryz.underlying3 g1
   obtain ⟨z2, e2, _⟩ := DataW.trod_bool Tryz.underlying4 g2
   obtain ⟨z3, e3, _⟩ := DataW.trod_int Tryz.underlying3 g3
   obtain ⟨z4, e4, _⟩ := DataW.trod_string Tryz.underlying9 g4
   obtain ⟨A, c, xs, e5, hC, hc, hL⟩ := open_rows2 (d := P.k80) (WF := fun _ => True) P.z80 Tryz.underlying37 c_ref open_ref g5
   obtain rfl := (List.cons.inj e0).1
   obtain rfl := (List.cons.inj e1).1
   obtain rfl := (List.cons.inj e2).1
   obtain rfl := (List.cons.inj e3).1
   obtain rfl := (List.cons.inj e4).1
   subst e5
   refine ⟨⟨z0, z1, z2, z3, z4, xs⟩, P.k39_mk W ⟨z0, z1, z2, z3, z4, xs⟩ hc hC, fun hl => ?_⟩
   have h5 : Light Tryz.prog 37 y5.1 := by
    rw [hx] at hl
    refine light_field (fs := [9, 3, 4, 3, 9, 37]) (ds := [y0.1, y1.1, y2.1, y3.1, y4.1, y5.1]) (j := 5) (fun n hn => hl n ?_) rfl rfl
    simpa [DataW.weights, Tryz.underlying39] using hn
   have := (hL h5).1
   rw [b_ref] at this
   have e : reachBytes = 140737488351232 := by decide
   show xs.length ≤ 4398046510976
   omega
set_option maxRecDepth 100000 in
theorem open_units {v : Value} {d : DataW H} {p : List MemPlace} (hv : Value.okWide Tryz.prog W .any b0 22 v) (h : DataW.Trod enc Tryz.prog W 0 (fun _ => true) true 22 v d p) :
 ∃ (A : Option Addr) (c : Nat) (xs : List P.S39), v = .slice A xs.length c ∧ Kd.C P.k39 W A xs.length xs ∧ xs.length ≤ c ∧ (Light Tryz.prog 22 d → xs.length ≤ 1759218604390 ∧ ∀ z ∈ xs, z.f5.length ≤ 4398046510976) := by
 obtain ⟨a, len, cap, rfl⟩ := okWide_slice Tryz.underlying22 hv
 obtain ⟨fuel, hf⟩ := h
 obtain ⟨A, c, xs, h1, h2, h3, h4⟩ := open_rows2 (d := P.k39) (WF := fun z => z.f5.length ≤ 4398046510976) P.z39 Tryz.underlying22 c_unit open_unit hf
 refine ⟨A, c, xs, h1, h2, h3, fun hL => ?_⟩
 obtain ⟨w1, w2⟩ := h4 hL
 rw [b_unit] at w1
 have e : reachBytes = 140737488351232 := by decide
 exact ⟨by omega, w2⟩
set_option maxRecDepth 100000 in
theorem open_ints2 {v : Value} {d : DataW H} {p : List MemPlace} (hv : Value.okWide Tryz.prog W .any b0 26 v) (h : DataW.Trod enc Tryz.prog W 0 (fun _ => true) true 26 v d p) :
 ∃ (A : Option Addr) (c : Nat) (xs : List Int), v = .slice A xs.length c ∧ Kd.C (Kd.int .i64) W A xs.length xs ∧ xs.length ≤ c ∧ (Light Tryz.prog 26 d → xs.length ≤ 17592186043904) := by
 obtain ⟨a, len, cap, rfl⟩ := okWide_slice Tryz.underlying26 hv
 obtain ⟨fuel, hf⟩ := h
 obtain ⟨A, c, xs, h1, h2, h3, h4⟩ := open_rows2 (d := Kd.int .i64) (WF := fun _ => True) 0 Tryz.underlying26 c_int (fun fuel cs x hl h => by
  match cs, hl with
  | [u], _ =>
   obtain ⟨z, e, _⟩ := DataW.trod_int Tryz.underlying3 h
   exact ⟨z, e, fun _ => trivial⟩) hf
 refine ⟨A, c, xs, h1, h2, h3, fun hL => ?_⟩
 have w1 := (h4 hL).1
 rw [b_int] at w1
 have e : reachBytes = 140737488351232 := by decide
 omega
end
end Go.Proofs.YtngmipfodjgmmaaGreatDoor.Opens
end
section
namespace Go.Proofs.YtngmipfodjgmmaaGreatDoor.P
open Go.RowKit Go.Proofs.YtngmipfodjgmmaaGreatDoorW.PrintWords Go.Proofs.YtngmipfodjgmmaaGreatDoorW.PrintLast Go.Proofs.YtngmipfodjgmmaaGreatDoorW.PrintMore
attribute [local go_sem] max2_int min2_int max_two min_two max_three min_three max_four min_four   -- for this text's walks alone
set_option linter.unusedVariables false
set_option linter.unusedSimpArgs false
def cleatref16_Big.f (a0_0 : ByteArray) (a0_1 : Int) (a0_2 : Bool) (a0_3 : Int) (a0_4 : ByteArray) (l0_5 : List (S98)) : Option (Bool) := if (a0_4.size : Int) > 5000 then (some true) else (if (l0_5.length : Int) > 80 then (some true) else (some (decide ((a0_0.size : Int) > 100))))
set_option maxHeartbeats 8000000 in
set_option maxRecDepth 100000 in
theorem cleatref16_Big.calls (a0_0 : ByteArray) (a0_1 : Int) (a0_2 : Bool) (a0_3 : Int) (a0_4 : ByteArray) (A0_5 : Option Addr) (c0_5 : Nat) (l0_5 : List (S98)) (r : Bool) (w : World) (hr0_5 : Kd.C k98 w A0_5 l0_5.length l0_5) (hc0_5 : l0_5.length ≤ c0_5) (h : cleatref16_Big.f a0_0 a0_1 a0_2 a0_3 a0_4 l0_5 = some r) :
 Calls Tryz.prog 38 #[.agg #[.string a0_0, .int .i64 a0_1, .bool a0_2, .int .i64 a0_3, .string a0_4, .slice A0_5 l0_5.length c0_5]] w fun e w' => e = .returned (.bool r) ∧ Below w.heap.size w w' := by
 have hu64 := Tryz.underlying64
 have HR0_5 := Azz.mk hr0_5
 have HC0_5 := Azz.mk hc0_5
 clear hr0_5 hc0_5
 have HB := Azz.mk (Below.refl w.heap.size w)
 have H : (if (a0_4.size : Int) > 5000 then (some true) else (if (l0_5.length : Int) > 80 then (some true) else (some (decide ((a0_0.size : Int) > 100))))) = some r := h
 clear h
 by_cases c2 : (a0_4.size : Int) > 5000
 ·rw [if_pos c2] at H
  have c2b0 := decide_eq_true c2
  have c2b1 : decide (5000 < a0_4.size) = true := decide_eq_true (by omega)
  clear c2
  obtain rfl := Option.some.inj H
  go_enter Tryz.func38, Tryz.ntmps38
  go_wp2_with (first | ((with_reducible refine gate_dst (N := 1) rfl ?_); (try (refine gate_guard (by rfl) ?_; dsimp only)); refine box_event ?hg (N := 1) ?hd (cs := #[.string a0_0, .int .i64 a0_1, .bool a0_2, .int .i64 a0_3, .string a0_4, .slice A0_5 l0_5.length c0_5]) (t := 64) ?hr ?_; (case hd => rfl); (case hg => rfl); (case hr => first | (go_simp; done) | (go_simp; rfl)); intro gb101 hg w3 hbox hb; have n0_ := Azz.mk (bTT (by with_reducible repeat first | exact HB.out | apply bAA | apply bNN | apply bDD) hb); have n1_ := Azz.mk (hbox); have n2_ := Azz.mk ((by rw [hg]; exact (bZZ (by with_reducible repeat first | exact HB.out | apply bAA | apply bNN | apply bDD)) : w.heap.size ≤ gb101)); have n3_ := Azz.mk ((by rw [hg]; exact (bZZ (by with_reducible repeat first | exact HB.out | apply bAA | apply bNN | apply bDD)) : w.heap.size ≤ gb101)); clear HB; have HB := n0_; have BK101 := n1_; have GW101 := n2_; have GE101 := n3_; clear n0_ n1_ n2_ n3_; clear hb hbox hg; obtain ⟨hcz4_0, hcz4_1, hcz4_2, hcz4_3, hcz4_4, hcz4_5, hfz4_0, hfz4_1, hfz4_2, hfz4_3, hfz4_4, hfz4_5⟩ := cel6 BK101.out))
  go_ret
  exact ⟨by first | rfl | (simp [eNN, eSS] <;> rfl) | (simp [*, eNN, eSS] <;> rfl), by repeat (first | (with_reducible first | exact HB.out | apply bAA | apply bNN | apply bDD | refine bSS ?_ GE101.out) | exact HB.out)⟩
 ·rw [if_neg c2] at H
  have c2b0 := decide_eq_false c2
  have c2b1 : decide (5000 < a0_4.size) = false := decide_eq_false (by omega)
  clear c2
  by_cases c5 : (l0_5.length : Int) > 80
  ·rw [if_pos c5] at H
   have c5b0 := decide_eq_true c5
   have c5b1 : decide (80 < l0_5.length) = true := decide_eq_true (by omega)
   clear c5
   obtain rfl := Option.some.inj H
   go_enter Tryz.func38, Tryz.ntmps38
   go_wp2_with (first | ((with_reducible refine gate_dst (N := 1) rfl ?_); (try (refine gate_guard (by rfl) ?_; dsimp only)); refine box_event ?hg (N := 1) ?hd (cs := #[.string a0_0, .int .i64 a0_1, .bool a0_2, .int .i64 a0_3, .string a0_4, .slice A0_5 l0_5.length c0_5]) (t := 64) ?hr ?_; (case hd => rfl); (case hg => rfl); (case hr => first | (go_simp; done) | (go_simp; rfl)); intro gb101 hg w6 hbox hb; have n0_ := Azz.mk (bTT (by with_reducible repeat first | exact HB.out | apply bAA | apply bNN | apply bDD) hb); have n1_ := Azz.mk (hbox); have n2_ := Azz.mk ((by rw [hg]; exact (bZZ (by with_reducible repeat first | exact HB.out | apply bAA | apply bNN | apply bDD)) : w.heap.size ≤ gb101)); have n3_ := Azz.mk ((by rw [hg]; exact (bZZ (by with_reducible repeat first | exact HB.out | apply bAA | apply bNN | apply bDD)) : w.heap.size ≤ gb101)); clear HB; have HB := n0_; have BK101 := n1_; have GW101 := n2_; have GE101 := n3_; clear n0_ n1_ n2_ n3_; clear hb hbox hg; obtain ⟨hcz7_0, hcz7_1, hcz7_2, hcz7_3, hcz7_4, hcz7_5, hfz7_0, hfz7_1, hfz7_2, hfz7_3, hfz7_4, hfz7_5⟩ := cel6 BK101.out))
   go_ret
   exact ⟨by first | rfl | (simp [eNN, eSS] <;> rfl) | (simp [*, eNN, eSS] <;> rfl), by repeat (first | (with_reducible first | exact HB.out | apply bAA | apply bNN | apply bDD | refine bSS ?_ GE101.out) | exact HB.out)⟩
  ·rw [if_neg c5] at H
   have c5b0 := decide_eq_false c5
   have c5b1 : decide (80 < l0_5.length) = false := decide_eq_false (by omega)
   clear c5
   obtain rfl := Option.some.inj H
   go_enter Tryz.func38, Tryz.ntmps38
   go_wp2_with (first | ((with_reducible refine gate_dst (N := 1) rfl ?_); (try (refine gate_guard (by rfl) ?_; dsimp only)); refine box_event ?hg (N := 1) ?hd (cs := #[.string a0_0, .int .i64 a0_1, .bool a0_2, .int .i64 a0_3, .string a0_4, .slice A0_5 l0_5.length c0_5]) (t := 64) ?hr ?_; (case hd => rfl); (case hg => rfl); (case hr => first | (go_simp; done) | (go_simp; rfl)); intro gb101 hg w8 hbox hb; have n0_ := Azz.mk (bTT (by with_reducible repeat first | exact HB.out | apply bAA | apply bNN | apply bDD) hb); have n1_ := Azz.mk (hbox); have n2_ := Azz.mk ((by rw [hg]; exact (bZZ (by with_reducible repeat first | exact HB.out | apply bAA | apply bNN | apply bDD)) : w.heap.size ≤ gb101)); have n3_ := Azz.mk ((by rw [hg]; exact (bZZ (by with_reducible repeat first | exact HB.out | apply bAA | apply bNN | apply bDD)) : w.heap.size ≤ gb101)); clear HB; have HB := n0_; have BK101 := n1_; have GW101 := n2_; have GE101 := n3_; clear n0_ n1_ n2_ n3_; clear hb hbox hg; obtain ⟨hcz9_0, hcz9_1, hcz9_2, hcz9_3, hcz9_4, hcz9_5, hfz9_0, hfz9_1, hfz9_2, hfz9_3, hfz9_4, hfz9_5⟩ := cel6 BK101.out))
   go_ret
   exact ⟨by first | rfl | (simp [eNN, eSS] <;> rfl) | (simp [*, eNN, eSS] <;> rfl), by repeat (first | (with_reducible first | exact HB.out | apply bAA | apply bNN | apply bDD | refine bSS ?_ GE101.out) | exact HB.out)⟩
end Go.Proofs.YtngmipfodjgmmaaGreatDoor.P
end
