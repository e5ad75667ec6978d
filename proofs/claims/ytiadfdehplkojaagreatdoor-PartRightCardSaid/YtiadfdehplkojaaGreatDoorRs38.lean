/- An argument that is a section, opened: its fields, and its row of relocations, read. -/
import Derived.Test.YtiadfdehplkojaaGreatDoorRs37
import Derived.Test.YtiadfdehplkojaaGreatDoorChecked
import Derived.Lib.SmallJoins
import Derived.Deep.Slices
import Derived.Deep.Fields
import Derived.ChangeSame
import Derived.WideShapes
namespace Go.Proofs.YtiadfdehplkojaaGreatDoor.Opens
open Go Go.RowKit Go.Joins Go.ChangeShapes Go.WideShapes Go.Deep Go.Proofs.YtiadfdehplkojaaGreatDoorW.PrintWords Go.Proofs.YtiadfdehplkojaaGreatDoorW.PrintLast Go.Proofs.YtiadfdehplkojaaGreatDoorW.PrintMore
set_option linter.unusedVariables false
theorem c_rel : Tryz.prog.cellsOf 61 = 4 := by kernel_rfl
theorem c_sec : Tryz.prog.cellsOf 44 = 6 := by kernel_rfl
theorem c_str : Tryz.prog.cellsOf 9 = 1 := by kernel_rfl
theorem c_int : Tryz.prog.cellsOf 3 = 1 := by kernel_rfl
theorem c_bool : Tryz.prog.cellsOf 4 = 1 := by kernel_rfl
theorem c_rels : Tryz.prog.cellsOf 42 = 1 := by kernel_rfl
section
variable {H : Type} {enc : TypeId × Value → H} {W : World} {b0 : Nat}
set_option maxRecDepth 100000 in
theorem open_rel {fuel : Nat} {cs : List Value} {x : DataW H × List MemPlace} (hl : cs.length = 4) (h : DataW.trod enc Tryz.prog W 0 (fun _ => true) true fuel 61 cs = some x) : ∃ z : P.S61, cs = [.int .i64 z.f0, .int .i64 z.f1, .int .i64 z.f2, .int .i64 z.f3] := by
 obtain ⟨ys, m, _, _, _, hyl, hg⟩ := DataW.trod_struct Tryz.underlying61 h
 match cs, hl with
 | [u0, u1, u2, u3], _ =>
  match ys, hyl with
  | [y0, y1, y2, y3], _ =>
   have g0 : DataW.trod enc Tryz.prog W 0 (fun _ => true) true m 3 [u0] = some y0 := by simpa [c_int] using hg 0 _ rfl
   have g1 : DataW.trod enc Tryz.prog W 0 (fun _ => true) true m 3 [u1] = some y1 := by simpa [c_int] using hg 1 _ rfl
   have g2 : DataW.trod enc Tryz.prog W 0 (fun _ => true) true m 3 [u2] = some y2 := by simpa [c_int] using hg 2 _ rfl
   have g3 : DataW.trod enc Tryz.prog W 0 (fun _ => true) true m 3 [u3] = some y3 := by simpa [c_int] using hg 3 _ rfl
   obtain ⟨z0, e0, _⟩ := DataW.trod_int Tryz.underlying3 g0
   obtain ⟨z1, e1, _⟩ := DataW.trod_int Tryz.underlying3 g1
   obtain ⟨z2, e2, _⟩ := DataW.trod_int Tryz.underlying3 g2
   obtain ⟨z3, e3, _⟩ := DataW.trod_int Tryz.underlying3 g3
   obtain rfl := (List.cons.inj e0).1
   obtain rfl := (List.cons.inj e1).1
   obtain rfl := (List.cons.inj e2).1
   obtain rfl := (List.cons.inj e3).1
   exact ⟨⟨z0, z1, z2, z3⟩, rfl⟩
theorem open_rels {fuel : Nat} {v : Value} {x : DataW H × List MemPlace} (h : DataW.trod enc Tryz.prog W 0 (fun _ => true) true fuel 42 [v] = some x) :
 ∃ (A : Option Addr) (c : Nat) (xs : List P.S61), v = .slice A xs.length c ∧ Kd.C P.k61 W A xs.length xs ∧ xs.length ≤ c := by
 rcases open_slice Tryz.underlying42 h with ⟨e, _⟩ | ⟨a, len, cap, mm, nn, D, Pl, e, _, hl, hm, hmm, _, hel⟩
 ·obtain rfl := (List.cons.inj e).1
  exact ⟨none, 0, [], rfl, ⟨rfl, by decide, fun h => absurd h (by decide)⟩, Nat.le_refl _⟩
 ·obtain rfl := (List.cons.inj e).1
  have each : ∀ i, i < len → ∃ z : P.S61, ∀ (q : Nat) (u : Value), ([.int .i64 z.f0, .int .i64 z.f1, .int .i64 z.f2, .int .i64 z.f3] : List Value)[q]? = some u → W.cell? (a.add (i * 4 + q)) = some u := by
   intro i hi
   obtain ⟨cs', hcs, ht⟩ := hel i (by rw [hmm]; simp; omega)
   rw [c_rel] at hcs
   obtain ⟨_, hcl, hat⟩ := World.cells?_some hcs
   obtain ⟨z, rfl⟩ := open_rel hcl ht
   refine ⟨z, fun q u hq => ?_⟩
   have hq4 : q < 4 := (List.getElem?_eq_some_iff.1 hq).1
   rw [← Go.Deep.add_add, hat q hq4]
   exact hq
  let f : Nat → P.S61 := fun i => if h : i < len then Classical.choose (each i h) else P.z61
  have hf : ∀ i, i < len → ∀ (q : Nat) (u : Value), ([.int .i64 (f i).f0, .int .i64 (f i).f1, .int .i64 (f i).f2, .int .i64 (f i).f3] : List Value)[q]? = some u → W.cell? (a.add (i * 4 + q)) = some u := by
   intro i hi
   have e : f i = Classical.choose (each i hi) := dif_pos hi
   rw [e]
   exact Classical.choose_spec (each i hi)
  have hlen : ((List.range len).map f).length = len := by rw [List.length_map, List.length_range]
  have hmax : maxLen ≤ 9223372036854775807 := by decide
  refine ⟨some a, cap, (List.range len).map f, by rw [hlen], ⟨rfl, by rw [hlen]; omega, fun _ => ⟨a, rfl, fun j p hj => ?_⟩⟩, by rw [hlen]; exact hl⟩
  have hj2 : j < len := by
   have := (List.getElem?_eq_some_iff.1 hj).1
   rwa [hlen] at this
  obtain rfl : f j = p := by
   rw [List.getElem?_map, List.getElem?_range hj2] at hj
   exact Option.some.inj hj
  exact ⟨[.int .i64 (f j).f0, .int .i64 (f j).f1, .int .i64 (f j).f2, .int .i64 (f j).f3], rfl, ⟨[.int .i64 (f j).f0], [.int .i64 (f j).f1, .int .i64 (f j).f2, .int .i64 (f j).f3], rfl, rfl, ⟨[.int .i64 (f j).f1], [.int .i64 (f j).f2, .int .i64 (f j).f3], rfl, rfl, ⟨[.int .i64 (f j).f2], [.int .i64 (f j).f3], rfl, rfl, rfl⟩⟩⟩, fun q u hq => hf j hj2 q u hq⟩
set_option maxRecDepth 100000 in
theorem open_sec {v : Value} {d : DataW H} {p : List MemPlace} (hv : Value.okWide Tryz.prog W .any b0 44 v) (h : DataW.Trod enc Tryz.prog W 0 (fun _ => true) true 44 v d p) :
 ∃ (n : ByteArray) (kd : Int) (keep : Bool) (al : Int) (data : ByteArray) (A : Option Addr) (c : Nat) (xs : List P.S61), v = .agg #[.string n, .int .i64 kd, .bool keep, .int .i64 al, .string data, .slice A xs.length c] ∧ Kd.C P.k61 W A xs.length xs ∧ xs.length ≤ c := by
 obtain ⟨cs, rfl, hsz⟩ := okWide_struct Tryz.underlying44 hv
 obtain ⟨l⟩ := cs
 match l, hsz.trans c_sec with
 | [c0, c1, c2, c3, c4, c5], _ =>
  obtain ⟨fuel, hf⟩ := h
  obtain ⟨ys, m, _, _, _, hlen, hg⟩ := DataW.trod_struct Tryz.underlying44 hf
  match ys, hlen with
  | [y0, y1, y2, y3, y4, y5], _ =>
   have g0 : DataW.trod enc Tryz.prog W 0 (fun _ => true) true m 9 [c0] = some y0 := by simpa [Value.cells, c_str] using hg 0 _ rfl
   have g1 : DataW.trod enc Tryz.prog W 0 (fun _ => true) true m 3 [c1] = some y1 := by simpa [Value.cells, c_int] using hg 1 _ rfl
   have g2 : DataW.trod enc Tryz.prog W 0 (fun _ => true) true m 4 [c2] = some y2 := by simpa [Value.cells, c_bool] using hg 2 _ rfl
   have g3 : DataW.trod enc Tryz.prog W 0 (fun _ => true) true m 3 [c3] = some y3 := by simpa [Value.cells, c_int] using hg 3 _ rfl
   have g4 : DataW.trod enc Tryz.prog W 0 (fun _ => true) true m 9 [c4] = some y4 := by simpa [Value.cells, c_str] using hg 4 _ rfl
   have g5 : DataW.trod enc Tryz.prog W 0 (fun _ => true) true m 42 [c5] = some y5 := by simpa [Value.cells, c_rels] using hg 5 _ rfl
   obtain ⟨n, e0, _⟩ := DataW.trod_string Tryz.underlying9 g0
   obtain ⟨kd, e1, _⟩ := DataW.trod_int Tryz.underlying3 g1
   obtain ⟨keep, e2, _⟩ := DataW.trod_bool Tryz.underlying4 g2
   obtain ⟨al, e3, _⟩ := DataW.trod_int Tryz.underlying3 g3
   obtain ⟨data, e4, _⟩ := DataW.trod_string Tryz.underlying9 g4
   obtain ⟨A, c, xs, e5, hC, hc⟩ := open_rels g5
   obtain rfl := (List.cons.inj e0).1
   obtain rfl := (List.cons.inj e1).1
   obtain rfl := (List.cons.inj e2).1
   obtain rfl := (List.cons.inj e3).1
   obtain rfl := (List.cons.inj e4).1
   subst e5
   exact ⟨n, kd, keep, al, data, A, c, xs, rfl, hC, hc⟩
end
end Go.Proofs.YtiadfdehplkojaaGreatDoor.Opens
