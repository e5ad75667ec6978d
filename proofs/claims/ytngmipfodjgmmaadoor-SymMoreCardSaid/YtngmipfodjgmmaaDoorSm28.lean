/- Walks and plain laws of this claim, a part. -/
import Derived.Test.YtngmipfodjgmmaaDoorSm25
import Derived.Test.YtngmipfodjgmmaaDoorSm26
section
namespace Go.Proofs.YtngmipfodjgmmaaDoor.Opens
open Go Go.RowKit Go.Joins Go.ChangeShapes Go.WideShapes Go.Deep Go.Proofs.YtngmipfodjgmmaaDoorW.PrintWords Go.Proofs.YtngmipfodjgmmaaDoorW.PrintLast Go.Proofs.YtngmipfodjgmmaaDoorW.PrintMore
set_option linter.unusedVariables false
theorem c_rel : Tryd.prog.cellsOf 85 = 4 := by kernel_rfl
theorem c_sec : Tryd.prog.cellsOf 71 = 6 := by kernel_rfl
theorem c_sym : Tryd.prog.cellsOf 50 = 4 := by kernel_rfl
theorem c_obj : Tryd.prog.cellsOf 48 = 2 := by kernel_rfl
theorem c_rels : Tryd.prog.cellsOf 69 = 1 := by kernel_rfl
theorem c_secs : Tryd.prog.cellsOf 45 = 1 := by kernel_rfl
theorem c_syms : Tryd.prog.cellsOf 46 = 1 := by kernel_rfl
section
variable {H : Type} {enc : TypeId × Value → H} {W : World} {b0 : Nat}
set_option maxRecDepth 100000 in
theorem open_rel (fuel : Nat) (cs : List Value) (x : DataW H × List MemPlace) (hl : cs.length = 4) (h : DataW.trod enc Tryd.prog W 0 (fun _ => true) true fuel 85 cs = some x) : ∃ z : P.S85, P.k85.K W z cs ∧ (Light Tryd.prog 85 x.1 → True) := by
  obtain ⟨ys, m, _, _, _, hyl, hg⟩ := DataW.trod_struct Tryd.underlying85 h
  match cs, hl with
  | [u0, u1, u2, u3], _ =>
    match ys, hyl with
    | [y0, y1, y2, y3], _ =>
      have g0 : DataW.trod enc Tryd.prog W 0 (fun _ => true) true m 3 [u0] = some y0 := by simpa [c_int] using hg 0 _ rfl
      have g1 : DataW.trod enc Tryd.prog W 0 (fun _ => true) true m 3 [u1] = some y1 := by simpa [c_int] using hg 1 _ rfl
      have g2 : DataW.trod enc Tryd.prog W 0 (fun _ => true) true m 3 [u2] = some y2 := by simpa [c_int] using hg 2 _ rfl
      have g3 : DataW.trod enc Tryd.prog W 0 (fun _ => true) true m 3 [u3] = some y3 := by simpa [c_int] using hg 3 _ rfl
      obtain ⟨z0, e0, _⟩ := DataW.trod_int Tryd.underlying3 g0
      obtain ⟨z1, e1, _⟩ := DataW.trod_int Tryd.underlying3 g1
      obtain ⟨z2, e2, _⟩ := DataW.trod_int Tryd.underlying3 g2
      obtain ⟨z3, e3, _⟩ := DataW.trod_int Tryd.underlying3 g3
      obtain rfl := (List.cons.inj e0).1
      obtain rfl := (List.cons.inj e1).1
      obtain rfl := (List.cons.inj e2).1
      obtain rfl := (List.cons.inj e3).1
      exact ⟨⟨z0, z1, z2, z3⟩, P.k85_mk W ⟨z0, z1, z2, z3⟩, fun _ => trivial⟩
set_option maxRecDepth 100000 in
theorem open_sec2 (fuel : Nat) (cs : List Value) (x : DataW H × List MemPlace) (hl : cs.length = 6) (h : DataW.trod enc Tryd.prog W 0 (fun _ => true) true fuel 71 cs = some x) : ∃ z : P.S71, P.k71.K W z cs ∧ (Light Tryd.prog 71 x.1 → True) := by
  obtain ⟨ys, m, _, _, _, hyl, hg⟩ := DataW.trod_struct Tryd.underlying71 h
  match cs, hl with
  | [u0, u1, u2, u3, u4, u5], _ =>
    match ys, hyl with
    | [y0, y1, y2, y3, y4, y5], _ =>
      have g0 : DataW.trod enc Tryd.prog W 0 (fun _ => true) true m 9 [u0] = some y0 := by simpa [c_str] using hg 0 _ rfl
      have g1 : DataW.trod enc Tryd.prog W 0 (fun _ => true) true m 3 [u1] = some y1 := by simpa [c_int] using hg 1 _ rfl
      have g2 : DataW.trod enc Tryd.prog W 0 (fun _ => true) true m 4 [u2] = some y2 := by simpa [c_bool] using hg 2 _ rfl
      have g3 : DataW.trod enc Tryd.prog W 0 (fun _ => true) true m 3 [u3] = some y3 := by simpa [c_int] using hg 3 _ rfl
      have g4 : DataW.trod enc Tryd.prog W 0 (fun _ => true) true m 9 [u4] = some y4 := by simpa [c_str] using hg 4 _ rfl
      have g5 : DataW.trod enc Tryd.prog W 0 (fun _ => true) true m 69 [u5] = some y5 := by simpa [c_rels] using hg 5 _ rfl
      obtain ⟨z0, e0, _⟩ := DataW.trod_string Tryd.underlying9 g0
      obtain ⟨z1, e1, _⟩ := DataW.trod_int Tryd.underlying3 g1
      obtain ⟨z2, e2, _⟩ := DataW.trod_bool Tryd.underlying4 g2
      obtain ⟨z3, e3, _⟩ := DataW.trod_int Tryd.underlying3 g3
      obtain ⟨z4, e4, _⟩ := DataW.trod_string Tryd.underlying9 g4
      obtain ⟨A5, q5, xs5, e5, hC5, hc5, _⟩ := open_rows2 (d := P.k85) (WF := fun _ => True) P.z85 Tryd.underlying69 c_rel open_rel g5
      obtain rfl := (List.cons.inj e0).1
      obtain rfl := (List.cons.inj e1).1
      obtain rfl := (List.cons.inj e2).1
      obtain rfl := (List.cons.inj e3).1
      obtain rfl := (List.cons.inj e4).1
      subst e5
      exact ⟨⟨z0, z1, z2, z3, z4, xs5⟩, P.k71_mk W ⟨z0, z1, z2, z3, z4, xs5⟩ hc5 hC5, fun _ => trivial⟩
set_option maxRecDepth 100000 in
theorem open_sym (fuel : Nat) (cs : List Value) (x : DataW H × List MemPlace) (hl : cs.length = 4) (h : DataW.trod enc Tryd.prog W 0 (fun _ => true) true fuel 50 cs = some x) : ∃ z : P.S50, P.k50.K W z cs ∧ (Light Tryd.prog 50 x.1 → True) := by
  obtain ⟨ys, m, _, _, _, hyl, hg⟩ := DataW.trod_struct Tryd.underlying50 h
  match cs, hl with
  | [u0, u1, u2, u3], _ =>
    match ys, hyl with
    | [y0, y1, y2, y3], _ =>
      have g0 : DataW.trod enc Tryd.prog W 0 (fun _ => true) true m 9 [u0] = some y0 := by simpa [c_str] using hg 0 _ rfl
      have g1 : DataW.trod enc Tryd.prog W 0 (fun _ => true) true m 3 [u1] = some y1 := by simpa [c_int] using hg 1 _ rfl
      have g2 : DataW.trod enc Tryd.prog W 0 (fun _ => true) true m 3 [u2] = some y2 := by simpa [c_int] using hg 2 _ rfl
      have g3 : DataW.trod enc Tryd.prog W 0 (fun _ => true) true m 3 [u3] = some y3 := by simpa [c_int] using hg 3 _ rfl
      obtain ⟨z0, e0, _⟩ := DataW.trod_string Tryd.underlying9 g0
      obtain ⟨z1, e1, _⟩ := DataW.trod_int Tryd.underlying3 g1
      obtain ⟨z2, e2, _⟩ := DataW.trod_int Tryd.underlying3 g2
      obtain ⟨z3, e3, _⟩ := DataW.trod_int Tryd.underlying3 g3
      obtain rfl := (List.cons.inj e0).1
      obtain rfl := (List.cons.inj e1).1
      obtain rfl := (List.cons.inj e2).1
      obtain rfl := (List.cons.inj e3).1
      exact ⟨⟨z0, z1, z2, z3⟩, P.k50_mk W ⟨z0, z1, z2, z3⟩, fun _ => trivial⟩
set_option maxRecDepth 100000 in
theorem open_obj2 (fuel : Nat) (cs : List Value) (x : DataW H × List MemPlace) (hl : cs.length = 2) (h : DataW.trod enc Tryd.prog W 0 (fun _ => true) true fuel 48 cs = some x) : ∃ z : P.S48, P.k48.K W z cs ∧ (Light Tryd.prog 48 x.1 → True) := by
  obtain ⟨ys, m, _, _, _, hyl, hg⟩ := DataW.trod_struct Tryd.underlying48 h
  match cs, hl with
  | [u0, u1], _ =>
    match ys, hyl with
    | [y0, y1], _ =>
      have g0 : DataW.trod enc Tryd.prog W 0 (fun _ => true) true m 45 [u0] = some y0 := by simpa [c_secs] using hg 0 _ rfl
      have g1 : DataW.trod enc Tryd.prog W 0 (fun _ => true) true m 46 [u1] = some y1 := by simpa [c_syms] using hg 1 _ rfl
      obtain ⟨A0, q0, xs0, e0, hC0, hc0, _⟩ := open_rows2 (d := P.k71) (WF := fun _ => True) P.z71 Tryd.underlying45 c_sec open_sec2 g0
      obtain ⟨A1, q1, xs1, e1, hC1, hc1, _⟩ := open_rows2 (d := P.k50) (WF := fun _ => True) P.z50 Tryd.underlying46 c_sym open_sym g1
      subst e0
      subst e1
      exact ⟨⟨xs0, xs1⟩, P.k48_mk W ⟨xs0, xs1⟩ hc0 hC0 hc1 hC1, fun _ => trivial⟩
set_option maxRecDepth 100000 in
theorem open_objs {v : Value} {d : DataW H} {p : List MemPlace} (hv : Value.okWide Tryd.prog W .any b0 37 v) (h : DataW.Trod enc Tryd.prog W 0 (fun _ => true) true 37 v d p) :
    ∃ (A : Option Addr) (c : Nat) (xs : List P.S48), v = .slice A xs.length c ∧ Kd.C P.k48 W A xs.length xs ∧ xs.length ≤ c ∧ (Light Tryd.prog 37 d → True) := by
  obtain ⟨a, len, cap, rfl⟩ := okWide_slice Tryd.underlying37 hv
  obtain ⟨fuel, hf⟩ := h
  obtain ⟨A, c, xs, h1, h2, h3, h4⟩ := open_rows2 (d := P.k48) (WF := fun z => True) P.z48 Tryd.underlying37 c_obj open_obj2 hf
  exact ⟨A, c, xs, h1, h2, h3, fun _ => trivial⟩
end
end Go.Proofs.YtngmipfodjgmmaaDoor.Opens
end
section
namespace Go.Proofs.YtngmipfodjgmmaaDoor.Opens
open Go Go.RowKit Go.Joins Go.ChangeShapes Go.WideShapes Go.Deep Go.Proofs.YtngmipfodjgmmaaDoorW.PrintWords Go.Proofs.YtngmipfodjgmmaaDoorW.PrintLast Go.Proofs.YtngmipfodjgmmaaDoorW.PrintMore
set_option linter.unusedVariables false
section
variable {H : Type} {enc : TypeId × Value → H} {W : World} {b0 : Nat}
set_option maxRecDepth 100000 in
theorem open_objv {v : Value} {d : DataW H} {p : List MemPlace} (hv : Value.okWide Tryd.prog W .any b0 48 v) (h : DataW.Trod enc Tryd.prog W 0 (fun _ => true) true 48 v d p) :
    ∃ (A : Option Addr) (c : Nat) (B : Option Addr) (e : Nat) (x : P.S48), v = .agg #[.slice A x.f0.length c, .slice B x.f1.length e] ∧ Kd.C P.k71 W A x.f0.length x.f0 ∧ x.f0.length ≤ c ∧ Kd.C P.k50 W B x.f1.length x.f1 ∧ x.f1.length ≤ e := by
  obtain ⟨cs, rfl, hsz⟩ := okWide_struct Tryd.underlying48 hv
  obtain ⟨l⟩ := cs
  match l, hsz.trans c_obj with
  | [c0, c1], _ =>
    obtain ⟨fuel, hf⟩ := h
    obtain ⟨ys, m, _, _, _, hlen, hg⟩ := DataW.trod_struct Tryd.underlying48 hf
    match ys, hlen with
    | [y0, y1], _ =>
      have g0 : DataW.trod enc Tryd.prog W 0 (fun _ => true) true m 45 [c0] = some y0 := by simpa [Value.cells, c_secs] using hg 0 _ rfl
      have g1 : DataW.trod enc Tryd.prog W 0 (fun _ => true) true m 46 [c1] = some y1 := by simpa [Value.cells, c_syms] using hg 1 _ rfl
      obtain ⟨A0, q0, xs0, e0, hC0, hc0, _⟩ := open_rows2 (d := P.k71) (WF := fun _ => True) P.z71 Tryd.underlying45 c_sec open_sec2 g0
      obtain ⟨A1, q1, xs1, e1, hC1, hc1, _⟩ := open_rows2 (d := P.k50) (WF := fun _ => True) P.z50 Tryd.underlying46 c_sym open_sym g1
      subst e0
      subst e1
      exact ⟨A0, q0, A1, q1, ⟨xs0, xs1⟩, rfl, hC0, hc0, hC1, hc1⟩
end
end Go.Proofs.YtngmipfodjgmmaaDoor.Opens
end
