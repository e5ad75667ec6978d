/- Walks and plain laws of this claim, a part. -/
import Derived.Test.YtngmipfodjgmmaaDoorFr59
import Derived.Deep.RegionHeld3
import Derived.Deep.QuietTactic
import Derived.BigQuiet
import Derived.Maps.OwnSet
import Derived.Laws.Rows
import Derived.Laws.Tables
import Derived.DeepKeys4
section
namespace Go.Proofs.YtngmipfodjgmmaaDoor.Pure
open Go Go.RowKit Go.Lib Go.Shelf Go.Proofs.YtngmipfodjgmmaaDoorW.PrintWords Go.Proofs.YtngmipfodjgmmaaDoorW.PrintLast Go.Proofs.YtngmipfodjgmmaaDoorW.PrintMore
open P (Glob UA)
open Folds (gt beginF bg begin_get bg_cases beginF_length Part refineF foldN sig nx)
set_option linter.unusedVariables false
set_option linter.unusedSimpArgs false
abbrev BA (w : World) (A : Option Addr) (xs : List Bool) : Prop := Kd.C Kd.bool w A xs.length xs
theorem bool_at (w : World) (A : Option Addr) (l : List Bool) (hr : BA w A l) (i : Nat) (hi : i < l.length) : ∃ ad, A = some ad ∧ w.cell? (ad.add i) = some (.bool (l.getD i false)) := by
 obtain ⟨ad, c, e, hc, hK, hat⟩ := Kd.C_get hr false i (by omega) (by omega)
 have hK : c = [.bool (l.getD i false)] := by simpa [Kd.bool, Kd.scalar] using hK
 subst hK
 have := hat 0 _ rfl
 exact ⟨ad, e, by simpa [Kd.bool, Kd.scalar] using this⟩
def inn (ins : List Bool) (i : Nat) : Bool := ins.getD i false
def al (us : List P.S36) (i j : Nat) : Bool := alikeU (P.rd_T36 us i) (P.rd_T36 us j)
def rf (us : List P.S36) (i : Nat) : List Nat := (P.rd_T36 us i).f5.map (·.f2.toNat)
/-- A row of numbers of one's own. -/
def IB (w : World) (b : Nat) (l : List Int) : Prop := w.heap[b]? = some (.cells (l.map (Value.int .i64)).toArray 3 (0, 0))
theorem IB.below {w w1 : World} {b : Nat} {l : List Int} (h : IB w b l) (hb : Below w.heap.size w w1) : IB w1 b l := kBB h hb
theorem IB.cell {w : World} {b : Nat} {l : List Int} (h : IB w b l) (k : Nat) (hk : k < l.length) : w.cell? ⟨b, k, none⟩ = some (.int .i64 (l.getD k 0)) := by
 refine (kCC h k).trans ?_
 simp [List.getD_eq_getElem?_getD, List.getElem?_eq_getElem hk]
theorem IB.frozen {w : World} {b : Nat} {l : List Int} (h : IB w b l) (k : Nat) : w.frozen? ⟨b, k, none⟩ = false := kFF h k
theorem IB.set {w : World} {b : Nat} {l : List Int} (h : IB w b l) (k : Nat) (v : Int) : IB (w.setCell ⟨b, k, none⟩ (.int .i64 v)) b (l.set k v) := by
 obtain ⟨hlt, hk2⟩ := Array.getElem?_eq_some_iff.1 h
 show (w.heap.modify b _)[b]? = _
 rw [Array.getElem?_eq_getElem (by rw [Array.size_modify]; exact hlt), Array.getElem_modify_self, hk2]
 simp [List.map_set]
theorem IB.reads {w : World} {b : Nat} {l : List Int} (h : IB w b l) (hl : l.length ≤ 100000) : Kd.C (Kd.int .i64) w (some ⟨b, 0, none⟩) l.length l := ints_read h (by unfold maxLen; omega)
theorem make_ints (n : Nat) (hn : n ≤ 100000) (W : World) : (Instr.makeSlice 25 (.int .i64 (n : Int)) (.int .i64 (n : Int))).run Tryd.prog W = .ok (.slice (some ⟨W.heap.size, 0, none⟩) n n) (W.alloc (.cells (madeCells #[.int .i64 0] n) 3)) :=
 run_make_row' (P := Tryd.prog) 25 3 (.int .i64 0) 8 Tryd.underlying25 P.info_int rfl .i64 .i64 n (by omega) (by omega) W
theorem made_ints (n : Nat) : madeCells #[.int .i64 0] n = ((List.replicate n (0 : Int)).map (Value.int .i64)).toArray := by
 refine Array.ext (by simp [madeCells]) fun i h1 h2 => ?_
 simp [madeCells, Nat.mod_one]
theorem made_ib (n : Nat) (W : World) : IB (W.alloc (.cells (madeCells #[.int .i64 0] n) 3)) W.heap.size (List.replicate n 0) := by
 rw [made_ints]
 exact blk_new _ _
/-- So far: the first i are told, the others are 0. -/
def sofar (p : List Nat) (n : Nat) : List Int := p.map Int.ofNat ++ List.replicate (n - p.length) 0
theorem sofar_length (p : List Nat) (n : Nat) (h : p.length ≤ n) : (sofar p n).length = n := by simp [sofar]; omega
theorem sofar_get (p : List Nat) (n i : Nat) (h : i < p.length) : (sofar p n).getD i 0 = (gt p i : Int) := by
 unfold sofar gt
 rw [List.getD_eq_getElem?_getD, List.getElem?_append_left (by simpa using h), List.getElem?_map, List.getD_eq_getElem?_getD, List.getElem?_eq_getElem h]
 rfl
theorem sofar_set (p : List Nat) (n v : Nat) (h : p.length < n) : (sofar p n).set p.length (v : Int) = sofar (p ++ [v]) n := by
 unfold sofar
 rw [List.set_append_right _ _ (by simp)]
 simp only [List.length_map, Nat.sub_self, List.map_append, List.map_cons, List.map_nil, List.append_assoc, List.length_append, List.length_cons, List.length_nil]
 obtain ⟨d, hd⟩ : ∃ d, n - p.length = d + 1 := ⟨n - p.length - 1, by omega⟩
 have hd2 : n - (p.length + (0 + 1)) = d := by omega
 rw [hd, hd2, List.replicate_succ, List.set_cons_zero]
 rfl
theorem sofar_again (p : List Nat) (n a v : Nat) : (sofar (p ++ [a]) n).set p.length (v : Int) = sofar (p ++ [v]) n := by
 unfold sofar
 simp only [List.map_append, List.map_cons, List.map_nil, List.append_assoc, List.length_append, List.length_cons, List.length_nil]
 rw [List.set_append_right _ _ (by simp)]
 simp
theorem alike_calls (w : World) (x y : P.S36) (A B : Option Addr) (c d : Nat) (hx : Kd.C P.k64 w A x.f5.length x.f5) (hc : x.f5.length ≤ c) (hy : Kd.C P.k64 w B y.f5.length y.f5) (hd : y.f5.length ≤ d) (hl : x.f5.length ≤ 100000) :
 Calls Tryd.prog 36 #[.agg #[.string x.f0, .int .i64 x.f1, .bool x.f2, .int .i64 x.f3, .string x.f4, .slice A x.f5.length c], .agg #[.string y.f0, .int .i64 y.f1, .bool y.f2, .int .i64 y.f3, .string y.f4, .slice B y.f5.length d]] w fun e w' => e = .returned (.bool (alikeU x y)) ∧ Below w.heap.size w w' := by
 obtain ⟨K, hK⟩ := alike_ev x y hl
 exact P.fold_Alike.calls K _ _ _ _ _ A c _ _ _ _ _ _ B d _ _ w hx hc hy hd (hK K (Nat.le_refl _))
/-- No part before j is one's own. -/
def noneF (us : List P.S36) (ins : List Bool) (i j : Nat) : Prop := ∀ k, k < j → (inn ins k && gt (beginF (inn ins) (al us) i) k == k && al us i k) = false
theorem begin_none {us : List P.S36} {ins : List Bool} {i : Nat} (hi : inn ins i = true) (h : noneF us ins i i) : beginF (inn ins) (al us) i ++ [i] = beginF (inn ins) (al us) (i + 1) := by
 show _ = _ ++ [if inn ins i then Folds.first (inn ins) (al us) (beginF (inn ins) (al us) i) i else i]
 rw [if_pos hi]
 unfold Folds.first
 rw [List.find?_eq_none.2 (fun k hk => by have := h k (List.mem_range.1 hk); simp only [Bool.and_eq_true] at this ⊢; rw [Bool.eq_false_iff] at this; simpa using this)]
 rfl
theorem begin_out {us : List P.S36} {ins : List Bool} {i : Nat} (hi : inn ins i = false) : beginF (inn ins) (al us) i ++ [i] = beginF (inn ins) (al us) (i + 1) := by
 show _ = _ ++ [if inn ins i then Folds.first (inn ins) (al us) (beginF (inn ins) (al us) i) i else i]
 rw [hi]
 rfl
theorem begin_found {us : List P.S36} {ins : List Bool} {i j : Nat} (hi : inn ins i = true) (h : noneF us ins i j) (hj : j < i) (hq : (inn ins j && gt (beginF (inn ins) (al us) i) j == j && al us i j) = true) : beginF (inn ins) (al us) i ++ [j] = beginF (inn ins) (al us) (i + 1) := by
 show _ = _ ++ [if inn ins i then Folds.first (inn ins) (al us) (beginF (inn ins) (al us) i) i else i]
 rw [if_pos hi]
 unfold Folds.first
 have e : (List.range i).find? (fun j => inn ins j && gt (beginF (inn ins) (al us) i) j == j && al us i j) = some j := by
  rw [List.find?_range_eq_some]
  exact ⟨hq, List.mem_range.2 hj, fun k hk => by have := h k hk; rw [this]; rfl⟩
 rw [e]
 rfl
end Go.Proofs.YtngmipfodjgmmaaDoor.Pure
end
section
namespace Go.Proofs.YtngmipfodjgmmaaDoor.Pure
open Go Go.RowKit Go.Lib Go.Shelf Go.Maps Go.Proofs.YtngmipfodjgmmaaDoorW.PrintWords Go.Proofs.YtngmipfodjgmmaaDoorW.PrintLast Go.Proofs.YtngmipfodjgmmaaDoorW.PrintMore
open P (Glob UA)
open Folds (gt beginF Part refineF foldN sig nx nx_spec)
set_option linter.unusedVariables false
set_option linter.unusedSimpArgs false
theorem cells97 : Tryd.prog.cellsOf 97 = 66 := by kernel_rfl
theorem cells95 : Tryd.prog.cellsOf 95 = 64 := by kernel_rfl
theorem cells3 : Tryd.prog.cellsOf 3 = 1 := by kernel_rfl
theorem laidB : laidOutB Tryd.prog = true := by kernel_rfl
theorem kt97 : Tryd.prog.keyTypeAt 3 97 = true := by kernel_rfl
theorem kt97' : Tryd.prog.keyType 97 = true := by kernel_rfl
theorem row97 : (97 : TypeId) < Tryd.prog.types.size := of_decide_eq_true (by kernel_rfl)
theorem wide97 : (match Tryd.prog.underlying 97 with | some (.array _ _) | some (.struct _) => true | _ => false) = true := by kernel_rfl
set_option maxRecDepth 100000 in
theorem law97 : Keyed Tryd.prog 97 := Keyed.of_law (deep_law_laid laidB (m := 3) (by omega) row97 kt97 wide97)
theorem zero3 (w : World) : (zeroValue 3).run Tryd.prog w = .ok (.int .i64 0) w := by kernel_rfl
theorem mapM_some {α β : Type} (f : α → Option β) : ∀ (l : List α), (∀ x ∈ l, ∃ y, f x = some y) → ∃ ys, l.mapM f = some ys
 | [], _ => ⟨[], rfl⟩
 | x :: l, h => by
  obtain ⟨y, hy⟩ := h x (by simp)
  obtain ⟨ys, hys⟩ := mapM_some f l (fun z hz => h z (by simp [hz]))
  exact ⟨y :: ys, by rw [List.mapM_cons, hy, hys]; rfl⟩
theorem lits_int (d : Nat) (z : Int) (hw : (Lit.int .i64 z).wf = true) : Tryd.prog.keyLits (d + 1) 3 [.int .i64 z] = some [.int .i64 z] := by
 unfold Program.keyLits
 simp only [Tryd.underlying3, hw, and_self, if_true]
theorem take_one {l : List Int} {i : Nat} (hi : i < l.length) : ((l.map (Value.int .i64)).drop i).take 1 = [.int .i64 l[i]] := by
 rw [List.drop_eq_getElem_cons (by simpa using hi), List.take_succ_cons, List.take_zero, List.getElem_map]
theorem lits_row (d : Nat) (ns : List Int) (hl : ns.length = 64) (hw : ∀ z ∈ ns, (Lit.int .i64 z).wf = true) : ∃ l, Tryd.prog.keyLits (d + 2) 95 (ns.map (Value.int .i64)) = some l := by
 unfold Program.keyLits
 simp only [Tryd.underlying95, cells95, cells3, List.length_map, hl, if_true, Nat.mul_one]
 obtain ⟨ys, hys⟩ := mapM_some (fun i => Tryd.prog.keyLits (d + 1) 3 (List.take 1 (List.drop i (ns.map (Value.int .i64))))) (List.range 64) (fun i hi => by
  have hi2 : i < ns.length := by have := List.mem_range.1 hi; omega
  rw [take_one hi2]
  exact ⟨_, lits_int d _ (hw _ (List.getElem_mem hi2))⟩)
 exact ⟨ys.flatten, by rw [hys]; rfl⟩
theorem sign_key (cs : List Int) (hl : cs.length = 66) (hw : ∀ z ∈ cs, (Lit.int .i64 z).wf = true) : ∃ l, keyOf Tryd.prog 97 (.agg (cs.map (Value.int .i64)).toArray) = some l := by
 have hf : (Value.agg (cs.map (Value.int .i64)).toArray).formed Tryd.prog 97 = true := by
  unfold Value.formed
  simp only [Tryd.underlying97, cells97]
  simp [hl]
 obtain ⟨m, hm⟩ : ∃ m, Tryd.prog.types.size + 1 = m + 3 := ⟨Tryd.prog.types.size - 2, by have h : 97 < Tryd.prog.types.size := row97; omega⟩
 have hk : ∃ l, Tryd.prog.keyLits (Tryd.prog.types.size + 1) 97 (cs.map (Value.int .i64)) = some l := by
  rw [hm]
  unfold Program.keyLits
  simp only [Tryd.underlying97, cells97, List.length_map, hl]
  rw [if_pos ⟨trivial, by kernel_rfl⟩]
  rcases cs with _ | ⟨a, _ | ⟨b, ns⟩⟩
  ·cases hl
  ·cases hl
  have hl : ns.length = 64 := by simp only [List.length_cons] at hl; omega
  obtain ⟨l, hl2⟩ := lits_row m ns hl (fun z hz => hw z (by simp [hz]))
  have h1 := lits_int (m + 1) a (hw a (by simp))
  have h2 := lits_int (m + 1) b (hw b (by simp))
  have h3 : List.take 64 (ns.map (Value.int .i64)) = ns.map (Value.int .i64) := List.take_of_length_le (by rw [List.length_map, hl]; omega)
  simp only [List.mapM_cons, List.mapM_nil, cells3, cells95, List.map_cons, List.drop_zero, List.drop_succ_cons, List.take_succ_cons, List.take_zero, h1, h2, h3, hl2]
  exact ⟨_, rfl⟩
 obtain ⟨l, hl2⟩ := hk
 unfold keyOf
 simp only [Tryd.underlying97, kt97', hf, Bool.and_self, if_true]
 exact ⟨_, by rw [show (Value.agg (cs.map (Value.int .i64)).toArray).cells.toList = cs.map (Value.int .i64) by simp [Value.cells], hl2]; rfl⟩
end Go.Proofs.YtngmipfodjgmmaaDoor.Pure
end
