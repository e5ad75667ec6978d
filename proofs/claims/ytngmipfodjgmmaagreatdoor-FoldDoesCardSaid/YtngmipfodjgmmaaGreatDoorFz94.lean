/- Walks and plain laws of this claim, a part. -/
import Derived.Test.YtngmipfodjgmmaaGreatDoorFz89
import Derived.Maps.OwnOps
import Derived.Maps.OwnSet
import Derived.Deep.QuietTactic
import Derived.BigQuiet
import Derived.Deep.RegionHeld3
import Derived.Laws.Rows
import Derived.Laws.Tables
import Derived.DeepKeys4
import Derived.WalkMore
import Derived.Deep.LoopGhost
set_option maxRecDepth 100000
set_option maxHeartbeats 8000000
set_option linter.unusedVariables false
set_option linter.unusedSimpArgs false
section
namespace Go.Proofs.YtngmipfodjgmmaaGreatDoor.Pure
open Go Go.RowKit Go.Lib Go.Shelf Wa Wb Wc Go.Proofs.YtngmipfodjgmmaaGreatDoor.Reach
open P (Glob UA nd NdOk Rt SpreadPost)
theorem C_block {α : Type} {d : Kd α} {W : World} {g : Nat} {t : TypeId} {xs : List α} {inner : List Value} (hb : W.heap[g]? = some (.cells inner.toArray t (0, 0))) (hr : Reps (d.K W) d.sz xs inner) (hm : xs.length ≤ maxLen) : d.C W (some ⟨g, 0, none⟩) xs.length xs := by
 have ho : W.ownsRow 0 t d.sz (.slice (some ⟨g, 0, none⟩) xs.length xs.length) xs.length inner := ⟨hr.1, .inr ⟨g, xs.length, inner.toArray, rfl, Nat.zero_le _, hb, Nat.le_refl _, hm, by simpa using hr.1, by rw [← hr.1]; simp⟩⟩
 obtain ⟨A, c, e, h⟩ := own_reads_row ho hr rfl
 cases e
 exact h
def UV (w : World) (u : P.S39) (A : Option Addr) (c : Nat) : Prop := Kd.C P.k80 w A u.f5.length u.f5 ∧ u.f5.length ≤ c
theorem UV.below {w w1 : World} {u A c} (h : UV w u A c) (hb : Below w.heap.size w w1) : UV w1 u A c := ⟨Kd.C_below h.1 hb, h.2⟩
theorem UV.K {w : World} {u A c} (h : UV w u A c) : P.k39.K w u [.string u.f0, .int .i64 u.f1, .bool u.f2, .int .i64 u.f3, .string u.f4, .slice A u.f5.length c] := P.k39_mk w u h.2 h.1
def z8 : ByteArray := ⟨#[0, 0, 0, 0, 0, 0, 0, 0]⟩
def ua : P.S39 := ⟨⟨#[97]⟩, 2, false, 0, z8, [⟨0, 1, 2, 0⟩]⟩
def ub : P.S39 := ⟨⟨#[98]⟩, 2, false, 0, z8, [⟨0, 1, 0, 0⟩]⟩
def uc : P.S39 := ⟨⟨#[99]⟩, 2, false, 0, ⟨#[]⟩, []⟩
theorem qa : P.cleatlaw21_quads.f 20 ⟨#[97]⟩ [2] = some (ua.f0, ua.f1, ua.f2, ua.f3, ua.f4, ua.f5) := by kernel_rfl
def u3 : List P.S39 := [ua, ub, uc]
theorem u3_narrow : Narrow u3 := by
 intro _ i h
 have : i = 0 ∨ i = 1 ∨ i = 2 := by have : u3.length = 3 := rfl; omega
 rcases this with rfl | rfl | rfl <;> simp [u3, ua, ub, uc]
theorem bools_read {W : World} {g t : Nat} {l : List Bool} (h : W.heap[g]? = some (.cells (l.map Value.bool).toArray t (0, 0))) (hl : l.length ≤ maxLen) : Kd.C Kd.bool W (some ⟨g, 0, none⟩) l.length l := by
 refine C_block h ⟨by simp [Kd.bool, Kd.scalar], fun j p hj => ?_⟩ hl
 have hj2 : j < l.length := (List.getElem?_eq_some_iff.1 hj).1
 have hp : l[j] = p := (List.getElem?_eq_some_iff.1 hj).2
 show List.take 1 (List.drop (j * 1) (l.map Value.bool)) = [Value.bool p]
 rw [Nat.mul_one, List.drop_eq_getElem_cons (by simpa using hj2)]
 simp [hp]
theorem ints_read {W : World} {g t : Nat} {l : List Int} (h : W.heap[g]? = some (.cells (l.map (Value.int .i64)).toArray t (0, 0))) (hl : l.length ≤ maxLen) : IA W (some ⟨g, 0, none⟩) l := by
 refine C_block h ⟨by simp [Kd.int, Kd.scalar], fun j p hj => ?_⟩ hl
 have hj2 : j < l.length := (List.getElem?_eq_some_iff.1 hj).1
 have hp : l[j] = p := (List.getElem?_eq_some_iff.1 hj).2
 show List.take 1 (List.drop (j * 1) (l.map (Value.int .i64))) = [Value.int .i64 p]
 rw [Nat.mul_one, List.drop_eq_getElem_cons (by simpa using hj2)]
 simp [hp]
theorem reach1 (w : World) (A : Option Addr) (z : Int) (hG : Glob w) (hu : UA w A u3) :
 Calls Tryz.prog 30 #[.slice A 3 3, .slice (some ⟨w.heap.size, 0, none⟩) 1 1] (w.alloc (.cells #[.int .i64 z] 3)) fun e w' => Below w.heap.size w w' ∧ ReachPost u3 [z] (w.alloc (.cells #[.int .i64 z] 3)) e w' := by
 have hb := bAA (Below.refl w.heap.size w) (.cells #[.int .i64 z] 3)
 refine (reach_any _ A (some ⟨w.heap.size, 0, none⟩) u3 [z] 3 1 (hG.below hb) (Kd.C_below hu hb) (by decide) u3_narrow (by decide) (ints_read (l := [z]) (blk_new w (.cells #[.int .i64 z] 3)) (by simp [maxLen])) (by simp)).mono ?_
 intro e w' h
 exact ⟨bTT hb h.1, h⟩
theorem reachB (w : World) (A : Option Addr) (hG : Glob w) (hu : UA w A u3) :
 Calls Tryz.prog 30 #[.slice A 3 3, .slice (some ⟨w.heap.size, 0, none⟩) 1 1] (w.alloc (.cells #[.int .i64 3] 3)) fun e w' => e = .returned (.tuple #[.slice none 0 0, .int .i64 1]) ∧ Below w.heap.size w w' := by
 refine (reach1 w A 3 hG hu).mono ?_
 rintro e w' ⟨hb, _, ⟨_, h⟩ | ⟨_, h, _⟩⟩
 ·exact ⟨h, hb⟩
 have := h 3 (List.mem_singleton.2 rfl)
 exact absurd this.2 (by decide)
end Go.Proofs.YtngmipfodjgmmaaGreatDoor.Pure
end
section
namespace Go.Proofs.YtngmipfodjgmmaaGreatDoor.Pure
open Go Go.RowKit Go.Lib Go.Shelf Wa Wb Wc
open P (Glob UA)
open Folds (gt beginF bg begin_get bg_cases beginF_length Part refineF foldN sig nx)
abbrev BA (w : World) (A : Option Addr) (xs : List Bool) : Prop := Kd.C Kd.bool w A xs.length xs
theorem bool_at (w : World) (A : Option Addr) (l : List Bool) (hr : BA w A l) (i : Nat) (hi : i < l.length) : ∃ ad, A = some ad ∧ w.cell? (ad.add i) = some (.bool (l.getD i false)) := by
 obtain ⟨ad, c, e, hc, hK, hat⟩ := Kd.C_get hr false i (by omega) (by omega)
 have hK : c = [.bool (l.getD i false)] := by simpa [Kd.bool, Kd.scalar] using hK
 subst hK
 have := hat 0 _ rfl
 exact ⟨ad, e, by simpa [Kd.bool, Kd.scalar] using this⟩
def inn (ins : List Bool) (i : Nat) : Bool := ins.getD i false
def al (us : List P.S39) (i j : Nat) : Bool := alikeU (P.rd_T39 us i) (P.rd_T39 us j)
def rf (us : List P.S39) (i : Nat) : List Nat := (P.rd_T39 us i).f5.map (·.f2.toNat)
def IB (w : World) (b : Nat) (l : List Int) : Prop := w.heap[b]? = some (.cells (l.map (Value.int .i64)).toArray 3 (0, 0))
theorem IB.below {w w1 : World} {b : Nat} {l : List Int} (h : IB w b l) (hb : Below w.heap.size w w1) : IB w1 b l := kBB h hb
theorem IB.cell {w : World} {b : Nat} {l : List Int} (h : IB w b l) (k : Nat) (hk : k < l.length) : w.cell? ⟨b, k, none⟩ = some (.int .i64 (l.getD k 0)) := by
 refine (kCC h k).trans ?_
 simp [List.getD_eq_getElem?_getD, List.getElem?_eq_getElem hk]
theorem IB.frozen {w : World} {b : Nat} {l : List Int} (h : IB w b l) (k : Nat) : w.frozen? ⟨b, k, none⟩ = false := kFF h k
theorem IB.set {w : World} {b : Nat} {l : List Int} (h : IB w b l) (k : Nat) (v : Int) : IB (w.setCell ⟨b, k, none⟩ (.int .i64 v)) b (l.set k v) := by
 obtain ⟨hlt, hk2⟩ := Array.getElem?_eq_some_iff.1 h
 show (w.heap.modify b _)[b]? = _
 rw [Array.getElem?_eq_getElem (by rw [Array.size_modify]; exact hlt), Array.getElem_modify_self, hk2]
 simp [List.map_set]
theorem IB.reads {w : World} {b : Nat} {l : List Int} (h : IB w b l) (hl : l.length ≤ 100000) : Kd.C (Kd.int .i64) w (some ⟨b, 0, none⟩) l.length l := ints_read h (by unfold maxLen; omega)
theorem make_ints (n : Nat) (hn : n ≤ 100000) (W : World) : (Instr.makeSlice 26 (.int .i64 (n : Int)) (.int .i64 (n : Int))).run Tryz.prog W = .ok (.slice (some ⟨W.heap.size, 0, none⟩) n n) (W.alloc (.cells (madeCells #[.int .i64 0] n) 3)) :=
 run_make_row' (P := Tryz.prog) 26 3 (.int .i64 0) 8 Tryz.underlying26 P.info_int rfl .i64 .i64 n (by omega) (by omega) W
theorem made_ints (n : Nat) : madeCells #[.int .i64 0] n = ((List.replicate n (0 : Int)).map (Value.int .i64)).toArray := by
 refine Array.ext (by simp [madeCells]) fun i h1 h2 => ?_
 simp [madeCells, Nat.mod_one]
theorem made_ib (n : Nat) (W : World) : IB (W.alloc (.cells (madeCells #[.int .i64 0] n) 3)) W.heap.size (List.replicate n 0) := by
 rw [made_ints]
 exact blk_new _ _
def sofar (p : List Nat) (n : Nat) : List Int := p.map Int.ofNat ++ List.replicate (n - p.length) 0
theorem sofar_length (p : List Nat) (n : Nat) (h : p.length ≤ n) : (sofar p n).length = n := by simp [sofar]; omega
theorem sofar_get (p : List Nat) (n i : Nat) (h : i < p.length) : (sofar p n).getD i 0 = (gt p i : Int) := by
 unfold sofar gt
 rw [List.getD_eq_getElem?_getD, List.getElem?_append_left (by simpa using h), List.getElem?_map, List.getD_eq_getElem?_getD, List.getElem?_eq_getElem h]
 rfl
theorem sofar_set (p : List Nat) (n v : Nat) (h : p.length < n) : (sofar p n).set p.length (v : Int) = sofar (p ++ [v]) n := by
 unfold sofar
 rw [List.set_append_right _ _ (by simp)]
 simp only [List.length_map, Nat.sub_self, List.map_append, List.map_cons, List.map_nil, List.append_assoc, List.length_append, List.length_cons, List.length_nil]
 obtain ⟨d, hd⟩ : ∃ d, n - p.length = d + 1 := ⟨n - p.length - 1, by omega⟩
 have hd2 : n - (p.length + (0 + 1)) = d := by omega
 rw [hd, hd2, List.replicate_succ, List.set_cons_zero]
 rfl
theorem sofar_again (p : List Nat) (n a v : Nat) : (sofar (p ++ [a]) n).set p.length (v : Int) = sofar (p ++ [v]) n := by
 unfold sofar
 simp only [List.map_append, List.map_cons, List.map_nil, List.append_assoc, List.length_append, List.length_cons, List.length_nil]
 rw [List.set_append_right _ _ (by simp)]
 simp
theorem alike_calls (w : World) (x y : P.S39) (A B : Option Addr) (c d : Nat) (hx : Kd.C P.k80 w A x.f5.length x.f5) (hc : x.f5.length ≤ c) (hy : Kd.C P.k80 w B y.f5.length y.f5) (hd : y.f5.length ≤ d) (hl : x.f5.length ≤ 100000) :
 Calls Tryz.prog 17 #[.agg #[.string x.f0, .int .i64 x.f1, .bool x.f2, .int .i64 x.f3, .string x.f4, .slice A x.f5.length c], .agg #[.string y.f0, .int .i64 y.f1, .bool y.f2, .int .i64 y.f3, .string y.f4, .slice B y.f5.length d]] w fun e w' => e = .returned (.bool (alikeU x y)) ∧ Below w.heap.size w w' :=
 alike_callsG w x y A B c d hx hc hy hd (by omega)
def noneF (us : List P.S39) (ins : List Bool) (i j : Nat) : Prop := ∀ k, k < j → (inn ins k && gt (beginF (inn ins) (al us) i) k == k && al us i k) = false
theorem begin_none {us : List P.S39} {ins : List Bool} {i : Nat} (hi : inn ins i = true) (h : noneF us ins i i) : beginF (inn ins) (al us) i ++ [i] = beginF (inn ins) (al us) (i + 1) := by
 show _ = _ ++ [if inn ins i then Folds.first (inn ins) (al us) (beginF (inn ins) (al us) i) i else i]
 rw [if_pos hi]
 unfold Folds.first
 rw [List.find?_eq_none.2 (fun k hk => by have := h k (List.mem_range.1 hk); simp only [Bool.and_eq_true] at this ⊢; rw [Bool.eq_false_iff] at this; simpa using this)]
 rfl
theorem begin_out {us : List P.S39} {ins : List Bool} {i : Nat} (hi : inn ins i = false) : beginF (inn ins) (al us) i ++ [i] = beginF (inn ins) (al us) (i + 1) := by
 show _ = _ ++ [if inn ins i then Folds.first (inn ins) (al us) (beginF (inn ins) (al us) i) i else i]
 rw [hi]
 rfl
theorem begin_found {us : List P.S39} {ins : List Bool} {i j : Nat} (hi : inn ins i = true) (h : noneF us ins i j) (hj : j < i) (hq : (inn ins j && gt (beginF (inn ins) (al us) i) j == j && al us i j) = true) : beginF (inn ins) (al us) i ++ [j] = beginF (inn ins) (al us) (i + 1) := by
 show _ = _ ++ [if inn ins i then Folds.first (inn ins) (al us) (beginF (inn ins) (al us) i) i else i]
 rw [if_pos hi]
 unfold Folds.first
 have e : (List.range i).find? (fun j => inn ins j && gt (beginF (inn ins) (al us) i) j == j && al us i j) = some j := by
  rw [List.find?_range_eq_some]
  exact ⟨hq, List.mem_range.2 hj, fun k hk => by have := h k hk; rw [this]; rfl⟩
 rw [e]
 rfl
end Go.Proofs.YtngmipfodjgmmaaGreatDoor.Pure
end
section
namespace Go.Proofs.YtngmipfodjgmmaaGreatDoor.Pure
open Go Go.RowKit Go.Lib Go.Shelf Go.Maps Wa Wb Wc
open P (Glob UA)
open Folds (gt beginF Part refineF foldN sig nx nx_spec)
theorem cells97 : Tryz.prog.cellsOf 102 = 66 := by kernel_rfl
theorem cells95 : Tryz.prog.cellsOf 100 = 64 := by kernel_rfl
theorem cells3 : Tryz.prog.cellsOf 3 = 1 := by kernel_rfl
theorem laidB : laidOutB Tryz.prog = true := by kernel_rfl
theorem kt97 : Tryz.prog.keyTypeAt 3 102 = true := by kernel_rfl
theorem kt97' : Tryz.prog.keyType 102 = true := by kernel_rfl
theorem row97 : (102 : TypeId) < Tryz.prog.types.size := of_decide_eq_true (by kernel_rfl)
theorem wide97 : (match Tryz.prog.underlying 102 with | some (.array _ _) | some (.struct _) => true | _ => false) = true := by kernel_rfl
theorem law97 : Keyed Tryz.prog 102 := Keyed.of_law (deep_law_laid laidB (m := 3) (by omega) row97 kt97 wide97)
theorem zero3 (w : World) : (zeroValue 3).run Tryz.prog w = .ok (.int .i64 0) w := by kernel_rfl
theorem mapM_some {α β : Type} (f : α → Option β) : ∀ (l : List α), (∀ x ∈ l, ∃ y, f x = some y) → ∃ ys, l.mapM f = some ys
 | [], _ => ⟨[], rfl⟩
 | x :: l, h => by
  obtain ⟨y, hy⟩ := h x (by simp)
  obtain ⟨ys, hys⟩ := mapM_some f l (fun z hz => h z (by simp [hz]))
  exact ⟨y :: ys, by rw [List.mapM_cons, hy, hys]; rfl⟩
theorem lits_int (d : Nat) (z : Int) (hw : (Lit.int .i64 z).wf = true) : Tryz.prog.keyLits (d + 1) 3 [.int .i64 z] = some [.int .i64 z] := by
 unfold Program.keyLits
 simp only [Tryz.underlying3, hw, and_self, if_true]
theorem take_one {l : List Int} {i : Nat} (hi : i < l.length) : ((l.map (Value.int .i64)).drop i).take 1 = [.int .i64 l[i]] := by
 rw [List.drop_eq_getElem_cons (by simpa using hi), List.take_succ_cons, List.take_zero, List.getElem_map]
theorem lits_row (d : Nat) (ns : List Int) (hl : ns.length = 64) (hw : ∀ z ∈ ns, (Lit.int .i64 z).wf = true) : ∃ l, Tryz.prog.keyLits (d + 2) 100 (ns.map (Value.int .i64)) = some l := by
 unfold Program.keyLits
 simp only [Tryz.underlying100, cells95, cells3, List.length_map, hl, if_true, Nat.mul_one]
 obtain ⟨ys, hys⟩ := mapM_some (fun i => Tryz.prog.keyLits (d + 1) 3 (List.take 1 (List.drop i (ns.map (Value.int .i64))))) (List.range 64) (fun i hi => by
  have hi2 : i < ns.length := by have := List.mem_range.1 hi; omega
  rw [take_one hi2]
  exact ⟨_, lits_int d _ (hw _ (List.getElem_mem hi2))⟩)
 exact ⟨ys.flatten, by rw [hys]; rfl⟩
theorem sign_key (cs : List Int) (hl : cs.length = 66) (hw : ∀ z ∈ cs, (Lit.int .i64 z).wf = true) : ∃ l, keyOf Tryz.prog 102 (.agg (cs.map (Value.int .i64)).toArray) = some l := by
 have hf : (Value.agg (cs.map (Value.int .i64)).toArray).formed Tryz.prog 102 = true := by
  unfold Value.formed
  simp only [Tryz.underlying102, cells97]
  simp [hl]
 obtain ⟨m, hm⟩ : ∃ m, Tryz.prog.types.size + 1 = m + 3 := ⟨Tryz.prog.types.size - 2, by have h : 102 < Tryz.prog.types.size := row97; omega⟩
 have hk : ∃ l, Tryz.prog.keyLits (Tryz.prog.types.size + 1) 102 (cs.map (Value.int .i64)) = some l := by
  rw [hm]
  unfold Program.keyLits
  simp only [Tryz.underlying102, cells97, List.length_map, hl]
  rw [if_pos ⟨trivial, by kernel_rfl⟩]
  rcases cs with _ | ⟨a, _ | ⟨b, ns⟩⟩
  ·cases hl
  ·cases hl
  have hl : ns.length = 64 := by simp only [List.length_cons] at hl; omega
  obtain ⟨l, hl2⟩ := lits_row m ns hl (fun z hz => hw z (by simp [hz]))
  have h1 := lits_int (m + 1) a (hw a (by simp))
  have h2 := lits_int (m + 1) b (hw b (by simp))
  have h3 : List.take 64 (ns.map (Value.int .i64)) = ns.map (Value.int .i64) := List.take_of_length_le (by rw [List.length_map, hl]; omega)
  simp only [List.mapM_cons, List.mapM_nil, cells3, cells95, List.map_cons, List.drop_zero, List.drop_succ_cons, List.take_succ_cons, List.take_zero, h1, h2, h3, hl2]
  exact ⟨_, rfl⟩
 obtain ⟨l, hl2⟩ := hk
 unfold keyOf
 simp only [Tryz.underlying102, kt97', hf, Bool.and_self, if_true]
 exact ⟨_, by rw [show (Value.agg (cs.map (Value.int .i64)).toArray).cells.toList = cs.map (Value.int .i64) by simp [Value.cells], hl2]; rfl⟩
end Go.Proofs.YtngmipfodjgmmaaGreatDoor.Pure
end
section
namespace Go.Proofs.YtngmipfodjgmmaaGreatDoor.Pure
open Go Go.RowKit Go.Lib Go.Shelf Go.Maps Wa Wb Wc
open P (Glob UA)
open Folds (gt beginF Part refineF foldN sig nx nx_spec find_range)
def TB (t : TypeId) (w : World) (b : Nat) (l : List Int) : Prop := w.heap[b]? = some (.cells (l.map (Value.int .i64)).toArray t (0, 0))
theorem TB.below {t w w1} {b : Nat} {l : List Int} (h : TB t w b l) (hb : Below w.heap.size w w1) : TB t w1 b l := kBB h hb
theorem TB.cell {t w} {b : Nat} {l : List Int} (h : TB t w b l) (k : Nat) (hk : k < l.length) : w.cell? ⟨b, k, none⟩ = some (.int .i64 (l.getD k 0)) := by
 refine (kCC h k).trans ?_
 simp [List.getD_eq_getElem?_getD, List.getElem?_eq_getElem hk]
theorem TB.frozen {t w} {b : Nat} {l : List Int} (h : TB t w b l) (k : Nat) : w.frozen? ⟨b, k, none⟩ = false := kFF h k
theorem TB.set {t w} {b : Nat} {l : List Int} (h : TB t w b l) (k : Nat) (v : Int) : TB t (w.setCell ⟨b, k, none⟩ (.int .i64 v)) b (l.set k v) := by
 obtain ⟨hlt, hk2⟩ := Array.getElem?_eq_some_iff.1 h
 show (w.heap.modify b _)[b]? = _
 rw [Array.getElem?_eq_getElem (by rw [Array.size_modify]; exact hlt), Array.getElem_modify_self, hk2]
 simp [List.map_set]
theorem TB.grown {t w w1} {b : Nat} {l : List Int} (h : TB t w b l) {r : Option Nat} (hg : w.grownBy w1 r) (hn : some b ≠ r) : TB t w1 b l := by
 have hlt : b < w.heap.size := (Array.getElem?_eq_some_iff.1 h).1
 exact (hg.block b hlt hn).trans h
def keyN (us : List P.S39) (p : List Nat) (i j : Nat) : List Int := (gt p i : Int) :: ((rf us i).length : Int) :: (((rf us i).take j).map (fun q => (gt p q : Int)) ++ List.replicate (64 - j) 0)
def keyL (us : List P.S39) (p : List Nat) (i : Nat) : List Int := keyN us p i (rf us i).length
theorem keyN_length {us p i j} (hj : j ≤ (rf us i).length) (h : (rf us i).length ≤ 64) : (keyN us p i j).length = 66 := by
 simp only [keyN, List.length_cons, List.length_append, List.length_map, List.length_take, List.length_replicate]
 omega
theorem keyN_set {us p i j} (hj : j < (rf us i).length) (h : (rf us i).length ≤ 64) : (keyN us p i j).set (2 + j) (gt p ((rf us i).getD j 0) : Int) = keyN us p i (j + 1) := by
 have e : 2 + j = j + 1 + 1 := by omega
 have hl : (((rf us i).take j).map (fun q => (gt p q : Int))).length = j := by simp; omega
 unfold keyN
 rw [e, List.set_cons_succ, List.set_cons_succ, List.set_append_right _ _ (by omega), hl, Nat.sub_self]
 obtain ⟨d, hd⟩ : ∃ d, 64 - j = d + 1 := ⟨64 - j - 1, by omega⟩
 rw [hd, show 64 - (j + 1) = d by omega, List.replicate_succ, List.set_cons_zero, List.take_succ_eq_append_getElem hj, List.map_append, List.append_assoc]
 rw [List.getD_eq_getElem?_getD, List.getElem?_eq_getElem hj]
 rfl
theorem keyL_sig {us : List P.S39} {p : List Nat} {i k : Nat} : keyL us p i = keyL us p k ↔ sig (rf us) p i = sig (rf us) p k := by
 unfold keyL keyN sig
 constructor
 ·intro h
  injection h with h1 h2
  injection h2 with h2 h3
  have hl : (rf us i).length = (rf us k).length := by omega
  rw [List.take_of_length_le (Nat.le_refl _), List.take_of_length_le (Nat.le_refl _)] at h3
  have h4 := (List.append_inj h3 (by simp [hl])).1
  have h5 : (rf us i).map (gt p) = (rf us k).map (gt p) := by
   have : ((rf us i).map (gt p)).map (Int.ofNat) = ((rf us k).map (gt p)).map (Int.ofNat) := by simpa [List.map_map, Function.comp_def] using h4
   exact (List.map_inj_right (fun a b h => Int.ofNat.inj h)).1 this
  rw [h5, show gt p i = gt p k by omega]
 intro h
 injection h with h1 h2
 have hl : (rf us i).length = (rf us k).length := by have := congrArg List.length h2; simpa using this
 rw [h1, hl, List.take_of_length_le (by omega), List.take_of_length_le (by omega)]
 have : (rf us i).map (fun q => (gt p q : Int)) = (rf us k).map (fun q => (gt p q : Int)) := by
  have := congrArg (List.map Int.ofNat) h2
  simpa [List.map_map, Function.comp_def] using this
 rw [this]
theorem nx_first {n : Nat} {us : List P.S39} {p : List Nat} {i : Nat} (hi : i < n) (h : ∀ k, k < i → sig (rf us) p k ≠ sig (rf us) p i) : nx n (rf us) p i = i := by
 obtain ⟨a, b, _⟩ := nx_spec (rf := rf us) p i hi
 by_cases c : nx n (rf us) p i = i
 ·exact c
 exact absurd b (h _ (by omega))
theorem nx_again {n : Nat} {us : List P.S39} {p : List Nat} {i k : Nat} (hi : i < n) (hk : k < n) (h : sig (rf us) p k = sig (rf us) p i) : nx n (rf us) p k = nx n (rf us) p i := by
 unfold nx
 rw [h]
 rcases find_range (fun q => sig (rf us) p q == sig (rf us) p i) n with ⟨j, h1, _⟩ | ⟨h1, h2⟩
 ·rw [h1]; rfl
 have := h2 i hi
 simp at this
def MapInv (kl : Nat → Lit) (f : Nat → Nat) (D : DataW Unit) (i : Nat) : Prop := IsMap D ∧ (∀ k, k < i → ∀ z, D.atKey (kl k) z = .lit (.int .i64 (f k))) ∧ ∀ l, (∀ k, k < i → kl k ≠ l) → Maps.has D l = false
theorem mi_start (kl f) : MapInv kl f (.map []) 0 := ⟨isMap_empty, fun k h => absurd h (Nat.not_lt_zero _), fun l _ => rfl⟩
theorem mi_found {kl f D i} (h : MapInv kl f D i) {k : Nat} (hk : k < i) (e : kl k = kl i) (ef : f k = f i) : MapInv kl f D (i + 1) ∧ Maps.has D (kl i) = true ∧ ∀ z, D.atKey (kl i) z = .lit (.int .i64 (f i)) := by
 have a : ∀ z, D.atKey (kl i) z = .lit (.int .i64 (f i)) := fun z => by rw [← e, ← ef]; exact h.2.1 k hk z
 refine ⟨⟨h.1, fun q hq z => ?_, fun l hl => h.2.2 l fun q hq => hl q (by omega)⟩, has_true_of_atKey a, a⟩
 rcases Nat.lt_or_ge q i with c | c
 ·exact h.2.1 q c z
 obtain rfl : q = i := by omega
 exact a z
theorem mi_none {kl f D i} (h : MapInv kl f D i) (hn : ∀ k, k < i → kl k ≠ kl i) : Maps.has D (kl i) = false := h.2.2 _ hn
theorem mi_new {kl f D i} (h : MapInv kl f D i) (hn : ∀ k, k < i → kl k ≠ kl i) (hk : WideAt.IsKeyLit (kl i)) (hf : f i = i) : MapInv kl f (D.put (kl i) (.lit (.int .i64 (i : Int)))) (i + 1) := by
 refine ⟨h.1.put _ _, fun q hq z => ?_, fun l hl => ?_⟩
 ·rcases Nat.lt_or_ge q i with c | c
  ·rw [atKey_put_other (hn q c)]
   exact h.2.1 q c z
  obtain rfl : q = i := by omega
  rw [atKey_put_same h.1 hk, hf]
 rw [has_put_other (fun e => hl i (by omega) e.symm)]
 exact h.2.2 l fun q hq => hl q (by omega)
theorem key_all (us : List P.S39) (p : List Nat) (hpl : p.length = us.length) (hul : us.length ≤ 256) (hn : ∀ i, i < us.length → (P.rd_T39 us i).f5.length ≤ 64) (hp : ∀ q, gt p q ≤ 100000) :
 ∃ kl : Nat → Lit, ∀ i, i < us.length → keyOf Tryz.prog 102 (.agg ((keyL us p i).map (Value.int .i64)).toArray) = some (kl i) := by
 have h : ∀ i, ∃ l, i < us.length → keyOf Tryz.prog 102 (.agg ((keyL us p i).map (Value.int .i64)).toArray) = some l := fun i => by
  by_cases c : i < us.length
  ·have hr : (rf us i).length ≤ 64 := by unfold rf; rw [List.length_map]; exact hn i c
   obtain ⟨l, hl⟩ := sign_key (keyL us p i) (keyN_length (Nat.le_refl _) hr) (fun z hz => WalkArith.wf_i64 (by
    have : 0 ≤ z ∧ z ≤ 100000 := by
     unfold keyL keyN at hz
     rcases List.mem_cons.1 hz with rfl | hz
     ·exact ⟨by omega, by have := hp i; omega⟩
     rcases List.mem_cons.1 hz with rfl | hz
     ·exact ⟨by omega, by omega⟩
     rcases List.mem_append.1 hz with hz | hz
     ·obtain ⟨q, _, rfl⟩ := List.mem_map.1 hz
      exact ⟨by omega, by have := hp q; omega⟩
     rw [List.eq_of_mem_replicate hz]
     exact ⟨by omega, by omega⟩
    omega))
   exact ⟨l, fun _ => hl⟩
  exact ⟨.bool true, fun k => absurd k c⟩
 exact ⟨fun i => Classical.choose (h i), fun i hi => Classical.choose_spec (h i) hi⟩
end Go.Proofs.YtngmipfodjgmmaaGreatDoor.Pure
end
section
namespace Go.Proofs.YtngmipfodjgmmaaGreatDoor.Pure
open Go Go.RowKit Go.Lib Go.Shelf Wa Wb Wc
open P (Glob UA)
open Folds (gt beginF bg begin_get bg_cases beginF_length Part refineF foldN sig nx)
theorem keepc {w w1 : World} {p : Addr} {v : Value} (h : w.cell? p = some v) (hb : Below w.heap.size w w1) : w1.cell? p = some v := (hb.cell (World.block_lt_of_cell? _ _ h)).trans h
theorem keep14 {w w1 : World} {p0 p1 p2 p3 p4 p5 p6 p7 p8 p9 p10 p11 p12 p13 : Addr} {v0 v1 v2 v3 v4 v5 v6 v7 v8 v9 v10 v11 v12 v13 : Value} (h : w.cell? p0 = some v0 ∧ w.cell? p1 = some v1 ∧ w.cell? p2 = some v2 ∧ w.cell? p3 = some v3 ∧ w.cell? p4 = some v4 ∧ w.cell? p5 = some v5 ∧ w.cell? p6 = some v6 ∧ w.cell? p7 = some v7 ∧ w.cell? p8 = some v8 ∧ w.cell? p9 = some v9 ∧ w.cell? p10 = some v10 ∧ w.cell? p11 = some v11 ∧ w.cell? p12 = some v12 ∧ w.cell? p13 = some v13) (hb : Below w.heap.size w w1) : w1.cell? p0 = some v0 ∧ w1.cell? p1 = some v1 ∧ w1.cell? p2 = some v2 ∧ w1.cell? p3 = some v3 ∧ w1.cell? p4 = some v4 ∧ w1.cell? p5 = some v5 ∧ w1.cell? p6 = some v6 ∧ w1.cell? p7 = some v7 ∧ w1.cell? p8 = some v8 ∧ w1.cell? p9 = some v9 ∧ w1.cell? p10 = some v10 ∧ w1.cell? p11 = some v11 ∧ w1.cell? p12 = some v12 ∧ w1.cell? p13 = some v13 := by
 obtain ⟨a0, a1, a2, a3, a4, a5, a6, a7, a8, a9, a10, a11, a12, a13⟩ := h
 exact ⟨keepc a0 hb, keepc a1 hb, keepc a2 hb, keepc a3 hb, keepc a4 hb, keepc a5 hb, keepc a6 hb, keepc a7 hb, keepc a8 hb, keepc a9 hb, keepc a10 hb, keepc a11 hb, keepc a12 hb, keepc a13 hb⟩
theorem begin_any (w : World) (A A2 : Option Addr) (us : List P.S39) (ins : List Bool) (c c2 : Nat) (hu : UA w A us) (hc : us.length ≤ c) (hul : us.length ≤ 100000) (hn : ∀ i, i < us.length → (P.rd_T39 us i).f5.length ≤ 100000) (hi : BA w A2 ins) (hil : ins.length = us.length) (hc2 : us.length ≤ c2) :
 Calls Tryz.prog 40 #[.slice A us.length c, .slice A2 us.length c2] w fun e w' => e = .returned (.slice (some ⟨w.heap.size, 0, none⟩) us.length us.length) ∧ IB w' w.heap.size ((beginF (inn ins) (al us) us.length).map Int.ofNat) ∧ Below w.heap.size w w' := by
 have hmk := make_ints us.length hul
 have HU := Azz.mk hu
 have HI := Azz.mk hi
 have HN := Azz.mk hn
 clear hu hi hn
 go_enter Tryz.func40, Tryz.ntmps40
 go_wp2
 go_step3
 go_wp2
 go_step3
 go_wp2
 clear hmk
 go_loopg [13] us.length (fun g v wr => ∃ i : Nat, i + g = us.length ∧ v = .int .i64 i ∧ Azz (IB wr w.heap.size (sofar (beginF (inn ins) (al us) i) us.length)) ∧ Azz (Below w.heap.size w wr))
 case atStart => exact ⟨0, by omega, rfl, ⟨made_ib _ _⟩, ⟨(Below.refl _ _).alloc (Nat.le_refl _) _⟩⟩
 case round =>
  obtain ⟨i, hi, rfl, HP, HB⟩ := hrel
  cases gk with
  | succ g =>
   have hpl : (beginF (inn ins) (al us) i).length = i := beginF_length i
   have HPL := Azz.mk hpl
   have hsl := sofar_length (beginF (inn ins) (al us) i) us.length (by omega)
   obtain ⟨p, hp⟩ : ∃ p, beginF (inn ins) (al us) i = p := ⟨_, rfl⟩
   have HPe := Azz.mk hp
   rw [hp] at HP hpl hsl
   clear hp HPL
   have hlt : (i : Int) < us.length := by omega
   have h0 : (0 : Int) ≤ (i : Int) := by omega
   have fz := HP.out.frozen i
   have cz := HP.out.cell i (by omega)
   have hB2 : Below w.heap.size w (wr.setCell ⟨w.heap.size, i, none⟩ (.int .i64 (i : Int))) := Below.setCell (p := ⟨w.heap.size, i, none⟩) HB.out (Nat.le_refl _) _
   have hP2 : IB (wr.setCell ⟨w.heap.size, i, none⟩ (.int .i64 (i : Int))) w.heap.size (sofar (p ++ [i]) us.length) := by
    rw [← sofar_set p us.length i (by omega), hpl]
    exact HP.out.set i (i : Int)
   obtain ⟨ad2, e2, hin⟩ := bool_at _ A2 ins (Kd.C_below HI.out hB2) i (by omega)
   subst e2
   obtain ⟨bi, hbi⟩ : ∃ b, ins.getD i false = b := ⟨_, rfl⟩
   rw [hbi] at hin
   have HBi := Azz.mk hbi
   have HB2 := Azz.mk hB2
   have HP2 := Azz.mk hP2
   clear hbi hB2 hP2
   cases bi with
   | false =>
    go_wp2
    go_roundg g
    case measure => omega
    case rel => exact ⟨i + 1, by omega, by go_num, ⟨by rw [← begin_out HBi.out, HPe.out]; exact HP2.out⟩, HB2⟩
   | true =>
    go_wp2
    have HFz := Azz.mk fz
    have HCz := Azz.mk cz
    clear fz cz hin
    go_loopg [26] i (fun g2 v wx => ∃ j : Nat, j + g2 = i ∧ v = .int .i64 j ∧ Azz (noneF us ins i j) ∧ Azz (IB wx w.heap.size (sofar (p ++ [i]) us.length)) ∧ Azz (Below w.heap.size w wx))
    case atStart => exact ⟨0, by omega, rfl, ⟨fun k hk => absurd hk (Nat.not_lt_zero _)⟩, HP2, HB2⟩
    case round =>
     clear HP2 HB2 HP HB HFz HCz
     obtain ⟨j, hjg, rfl, HNo, HPx, HBx⟩ := hrel
     cases gk with
     | zero =>
      obtain rfl : j = i := by omega
      go_wp2
      go_roundg g
      case measure => omega
      case rel => exact ⟨j + 1, by omega, by go_num, ⟨by rw [← begin_none HBi.out HNo.out, HPe.out]; exact HPx.out⟩, HBx⟩
     | succ g2 =>
      have hjl : (j : Int) < (i : Int) := by omega
      have hj0 : (0 : Int) ≤ (j : Int) := by omega
      have hju : (j : Int) < us.length := by omega
      obtain ⟨ad, e2, hjn⟩ := bool_at _ (some ad2) ins (Kd.C_below HI.out HBx.out) j (by omega)
      cases e2
      have hpj := HPx.out.cell j (by rw [sofar_length _ _ (by simp; omega)]; omega)
      rw [sofar_get _ _ _ (by simp; omega), show gt (p ++ [i]) j = gt p j by unfold gt; rw [List.getD_eq_getElem?_getD, List.getElem?_append_left (by omega), List.getD_eq_getElem?_getD]] at hpj
      obtain ⟨bj, hbj⟩ : ∃ b, ins.getD j false = b := ⟨_, rfl⟩
      rw [hbj] at hjn
      have HBj := Azz.mk hbj
      obtain ⟨pj, hpe⟩ : ∃ q, gt p j = q := ⟨_, rfl⟩
      rw [hpe] at hpj
      have HPj := Azz.mk hpe
      clear hbj hpe
      have no : (inn ins j && gt (beginF (inn ins) (al us) i) j == j && al us i j) = false → noneF us ins i (j + 1) := fun h k hk => by
       rcases Nat.lt_or_ge k j with c | c
       ·exact HNo.out k c
       obtain rfl : k = j := by omega
       exact h
      have HNo2 := Azz.mk no
      clear no
      cases bj with
      | false =>
       go_wp2
       go_quiet (fail)
       go_wp2
       go_roundg g2
       case measure => omega
       case rel => exact ⟨j + 1, by omega, by go_num, ⟨HNo2.out (by unfold inn; rw [HBj.out]; rfl)⟩, ⟨HPx.out.below (bNN (Below.refl _ _) _)⟩, ⟨bNN HBx.out _⟩⟩
      | true =>
       by_cases hq : pj = j
       rotate_left
       ·have hqq : ((pj : Int) == (j : Int)) = false := bF_ (by omega)
        go_wp2
        go_quiet (fail)
        go_wp2
        go_roundg g2
        case measure => omega
        case rel => exact ⟨j + 1, by omega, by go_num, ⟨HNo2.out (by rw [HPe.out, HPj.out, show (pj == j) = false from bF_ hq]; simp)⟩, ⟨HPx.out.below (bNN (Below.refl _ _) _)⟩, ⟨bNN HBx.out _⟩⟩
       subst hq
       have hqq : ((pj : Int) == (pj : Int)) = true := by simp
       have hUx := Kd.C_below HU.out HBx.out
       obtain ⟨ad3, A5, c5, e3, x0, x1, x2, x3, x4, x5, l5, C5⟩ := P.at_T39 hUx i (by omega) (by omega)
       subst e3
       obtain ⟨ad4, B5, d5, e4, y0, y1, y2, y3, y4, y5, m5, D5⟩ := P.at_T39 hUx pj (by omega) (by omega)
       cases e4
       clear hUx
       rw [Int.toNat_natCast] at x0 x1 x2 x3 x4 x5 y0 y1 y2 y3 y4 y5
       have hli := HN.out i (by omega)
       have HAl : Azz (al us i pj = alikeU (P.rd_T39 us i) (P.rd_T39 us pj)) := ⟨rfl⟩
       obtain ⟨x, hx⟩ : ∃ x, P.rd_T39 us i = x := ⟨_, rfl⟩
       obtain ⟨y, hy⟩ : ∃ y, P.rd_T39 us pj = y := ⟨_, rfl⟩
       rw [hx, hy] at HAl
       rw [hx] at x0 x1 x2 x3 x4 x5 l5 C5 hli
       rw [hy] at y0 y1 y2 y3 y4 y5 m5 D5
       clear hx hy
       have HA : Azz (∀ W, Below wr.heap.size wr W → Calls Tryz.prog 17 #[.agg #[.string x.f0, .int .i64 x.f1, .bool x.f2, .int .i64 x.f3, .string x.f4, .slice A5 x.f5.length c5], .agg #[.string y.f0, .int .i64 y.f1, .bool y.f2, .int .i64 y.f3, .string y.f4, .slice B5 y.f5.length d5]] W fun e w' => e = .returned (.bool (alikeU x y)) ∧ Below W.heap.size W w') :=
        ⟨fun W hW => alike_calls W x y A5 B5 c5 d5 (Kd.C_below C5 hW) l5 (Kd.C_below D5 hW) m5 hli⟩
       clear C5 D5 l5 m5 hli
       obtain ⟨b, hb⟩ : ∃ b, alikeU x y = b := ⟨_, rfl⟩
       rw [hb] at HA HAl
       clear hb
       have HB0 := Azz.mk (Below.refl wr.heap.size wr)
       go_wp2
       go_region_held3 (fun w' => w'.cell? (ad2.add pj) = some (.bool true) ∧ w'.cell? ⟨w.heap.size, pj, none⟩ = some (.int .i64 (pj : Int)) ∧ w'.cell? (ad3.add (i * 6)) = some (.string x.f0) ∧ w'.cell? ⟨(ad3.add (i * 6)).block, (ad3.add (i * 6)).off + 1, none⟩ = some (.int .i64 x.f1) ∧ w'.cell? ⟨(ad3.add (i * 6)).block, (ad3.add (i * 6)).off + 2, none⟩ = some (.bool x.f2) ∧ w'.cell? ⟨(ad3.add (i * 6)).block, (ad3.add (i * 6)).off + 3, none⟩ = some (.int .i64 x.f3) ∧ w'.cell? ⟨(ad3.add (i * 6)).block, (ad3.add (i * 6)).off + 4, none⟩ = some (.string x.f4) ∧ w'.cell? ⟨(ad3.add (i * 6)).block, (ad3.add (i * 6)).off + 5, none⟩ = some (.slice A5 x.f5.length c5) ∧ w'.cell? (ad3.add (pj * 6)) = some (.string y.f0) ∧ w'.cell? ⟨(ad3.add (pj * 6)).block, (ad3.add (pj * 6)).off + 1, none⟩ = some (.int .i64 y.f1) ∧ w'.cell? ⟨(ad3.add (pj * 6)).block, (ad3.add (pj * 6)).off + 2, none⟩ = some (.bool y.f2) ∧ w'.cell? ⟨(ad3.add (pj * 6)).block, (ad3.add (pj * 6)).off + 3, none⟩ = some (.int .i64 y.f3) ∧ w'.cell? ⟨(ad3.add (pj * 6)).block, (ad3.add (pj * 6)).off + 4, none⟩ = some (.string y.f4) ∧ w'.cell? ⟨(ad3.add (pj * 6)).block, (ad3.add (pj * 6)).off + 5, none⟩ = some (.slice B5 y.f5.length d5)) (first | go_keep | exact keep14 (by assumption) hb) (first | (go_at_call 17; (with_reducible refine (HA.out _ ?gb).mono ?_); (case gb => repeat (first | exact Below.refl _ _ | apply bDD | apply bNN | (refine bTT ?_ (by assumption)))); rintro e w2 ⟨rfl, hb⟩))
       have HW := Azz.mk (show Below wr.heap.size wr w2 by repeat (first | exact Below.refl _ _ | apply bDD | apply bNN | (refine bTT ?_ (by assumption))))
       clear hb
       have HBw := Azz.mk (bTT HBx.out HW.out)
       have HPw := Azz.mk (HPx.out.below HW.out)
       clear HA HBx HPx HB0 x0 x1 x2 x3 x4 x5 y0 y1 y2 y3 y4 y5 hjn hpj
       cases b with
       | false =>
        go_wp2
        go_roundg g2
        case measure => omega
        case rel => exact ⟨pj + 1, by omega, by go_num, ⟨HNo2.out (by rw [HAl.out]; simp)⟩, HPw, HBw⟩
       | true =>
        have fz := HPw.out.frozen i
        have cz := HPw.out.cell i (by rw [sofar_length _ _ (by simp; omega)]; omega)
        go_wp2
        go_roundg g
        case measure => omega
        case rel => exact ⟨i + 1, by omega, by go_num, ⟨by
         rw [← begin_found HBi.out HNo.out (j := pj) (by omega) (by rw [show inn ins pj = true from HBj.out, HPe.out, HPj.out, HAl.out]; simp), HPe.out, ← sofar_again p us.length i pj, hpl]
         exact HPw.out.set i (pj : Int)⟩, ⟨Below.setCell (p := ⟨w.heap.size, i, none⟩) HBw.out (Nat.le_refl _) _⟩⟩
  | zero =>
   obtain rfl : i = us.length := by omega
   go_wp2
   try rw [Exit.noGoto_ret]
   go_ret
   exact ⟨rfl, by have := HP.out; unfold sofar at this; rw [beginF_length, Nat.sub_self] at this; simpa using this, HB.out⟩
end Go.Proofs.YtngmipfodjgmmaaGreatDoor.Pure
end
