/- Parting again: the key of a unit, and the map of the least ones. -/
import Derived.Test.YtngmipfodjgmmaaDoorFr61
namespace Go.Proofs.YtngmipfodjgmmaaDoor.Pure
open Go Go.RowKit Go.Lib Go.Shelf Go.Maps Go.Proofs.YtngmipfodjgmmaaDoorW.PrintWords Go.Proofs.YtngmipfodjgmmaaDoorW.PrintLast Go.Proofs.YtngmipfodjgmmaaDoorW.PrintMore
open P (Glob UA)
open Folds (gt beginF Part refineF foldN sig nx nx_spec find_range)
set_option linter.unusedVariables false
set_option linter.unusedSimpArgs false
/-- A block of numbers, of type t. -/
def TB (t : TypeId) (w : World) (b : Nat) (l : List Int) : Prop := w.heap[b]? = some (.cells (l.map (Value.int .i64)).toArray t (0, 0))
theorem TB.below {t w w1} {b : Nat} {l : List Int} (h : TB t w b l) (hb : Below w.heap.size w w1) : TB t w1 b l := kBB h hb
theorem TB.cell {t w} {b : Nat} {l : List Int} (h : TB t w b l) (k : Nat) (hk : k < l.length) : w.cell? ⟨b, k, none⟩ = some (.int .i64 (l.getD k 0)) := by
 refine (kCC h k).trans ?_
 simp [List.getD_eq_getElem?_getD, List.getElem?_eq_getElem hk]
theorem TB.frozen {t w} {b : Nat} {l : List Int} (h : TB t w b l) (k : Nat) : w.frozen? ⟨b, k, none⟩ = false := kFF h k
theorem TB.set {t w} {b : Nat} {l : List Int} (h : TB t w b l) (k : Nat) (v : Int) : TB t (w.setCell ⟨b, k, none⟩ (.int .i64 v)) b (l.set k v) := by
 obtain ⟨hlt, hk2⟩ := Array.getElem?_eq_some_iff.1 h
 show (w.heap.modify b _)[b]? = _
 rw [Array.getElem?_eq_getElem (by rw [Array.size_modify]; exact hlt), Array.getElem_modify_self, hk2]
 simp [List.map_set]
theorem TB.grown {t w w1} {b : Nat} {l : List Int} (h : TB t w b l) {r : Option Nat} (hg : w.grownBy w1 r) (hn : some b ≠ r) : TB t w1 b l := by
 have hlt : b < w.heap.size := (Array.getElem?_eq_some_iff.1 h).1
 exact (hg.block b hlt hn).trans h
/-- The key of unit i, where its first j needs are told. -/
def keyN (us : List P.S36) (p : List Nat) (i j : Nat) : List Int := (gt p i : Int) :: ((rf us i).length : Int) :: (((rf us i).take j).map (fun q => (gt p q : Int)) ++ List.replicate (64 - j) 0)
def keyL (us : List P.S36) (p : List Nat) (i : Nat) : List Int := keyN us p i (rf us i).length
theorem keyN_length {us p i j} (hj : j ≤ (rf us i).length) (h : (rf us i).length ≤ 64) : (keyN us p i j).length = 66 := by
 simp only [keyN, List.length_cons, List.length_append, List.length_map, List.length_take, List.length_replicate]
 omega
theorem keyN_set {us p i j} (hj : j < (rf us i).length) (h : (rf us i).length ≤ 64) : (keyN us p i j).set (2 + j) (gt p ((rf us i).getD j 0) : Int) = keyN us p i (j + 1) := by
 have e : 2 + j = j + 1 + 1 := by omega
 have hl : (((rf us i).take j).map (fun q => (gt p q : Int))).length = j := by simp; omega
 unfold keyN
 rw [e, List.set_cons_succ, List.set_cons_succ, List.set_append_right _ _ (by omega), hl, Nat.sub_self]
 obtain ⟨d, hd⟩ : ∃ d, 64 - j = d + 1 := ⟨64 - j - 1, by omega⟩
 rw [hd, show 64 - (j + 1) = d by omega, List.replicate_succ, List.set_cons_zero, List.take_succ_eq_append_getElem hj, List.map_append, List.append_assoc]
 rw [List.getD_eq_getElem?_getD, List.getElem?_eq_getElem hj]
 rfl
theorem keyL_sig {us : List P.S36} {p : List Nat} {i k : Nat} : keyL us p i = keyL us p k ↔ sig (rf us) p i = sig (rf us) p k := by
 unfold keyL keyN sig
 constructor
 ·intro h
  injection h with h1 h2
  injection h2 with h2 h3
  have hl : (rf us i).length = (rf us k).length := by omega
  rw [List.take_of_length_le (Nat.le_refl _), List.take_of_length_le (Nat.le_refl _)] at h3
  have h4 := (List.append_inj h3 (by simp [hl])).1
  have h5 : (rf us i).map (gt p) = (rf us k).map (gt p) := by
   have : ((rf us i).map (gt p)).map (Int.ofNat) = ((rf us k).map (gt p)).map (Int.ofNat) := by simpa [List.map_map, Function.comp_def] using h4
   exact (List.map_inj_right (fun a b h => Int.ofNat.inj h)).1 this
  rw [h5, show gt p i = gt p k by omega]
 ·intro h
  injection h with h1 h2
  have hl : (rf us i).length = (rf us k).length := by have := congrArg List.length h2; simpa using this
  rw [h1, hl, List.take_of_length_le (by omega), List.take_of_length_le (by omega)]
  have : (rf us i).map (fun q => (gt p q : Int)) = (rf us k).map (fun q => (gt p q : Int)) := by
   have := congrArg (List.map Int.ofNat) h2
   simpa [List.map_map, Function.comp_def] using this
  rw [this]
theorem nx_first {n : Nat} {us : List P.S36} {p : List Nat} {i : Nat} (hi : i < n) (h : ∀ k, k < i → sig (rf us) p k ≠ sig (rf us) p i) : nx n (rf us) p i = i := by
 obtain ⟨a, b, _⟩ := nx_spec (rf := rf us) p i hi
 by_cases c : nx n (rf us) p i = i
 ·exact c
 ·exact absurd b (h _ (by omega))
theorem nx_again {n : Nat} {us : List P.S36} {p : List Nat} {i k : Nat} (hi : i < n) (hk : k < n) (h : sig (rf us) p k = sig (rf us) p i) : nx n (rf us) p k = nx n (rf us) p i := by
 unfold nx
 rw [h]
 rcases find_range (fun q => sig (rf us) p q == sig (rf us) p i) n with ⟨j, h1, _⟩ | ⟨h1, h2⟩
 ·rw [h1]; rfl
 ·have := h2 i hi
  simp at this
/-- The map of the least ones, of the first i units. -/
def MapInv (kl : Nat → Lit) (f : Nat → Nat) (D : DataW Unit) (i : Nat) : Prop := IsMap D ∧ (∀ k, k < i → ∀ z, D.atKey (kl k) z = .lit (.int .i64 (f k))) ∧ ∀ l, (∀ k, k < i → kl k ≠ l) → Maps.has D l = false
theorem mi_start (kl f) : MapInv kl f (.map []) 0 := ⟨isMap_empty, fun k h => absurd h (Nat.not_lt_zero _), fun l _ => rfl⟩
theorem mi_found {kl f D i} (h : MapInv kl f D i) {k : Nat} (hk : k < i) (e : kl k = kl i) (ef : f k = f i) : MapInv kl f D (i + 1) ∧ Maps.has D (kl i) = true ∧ ∀ z, D.atKey (kl i) z = .lit (.int .i64 (f i)) := by
 have a : ∀ z, D.atKey (kl i) z = .lit (.int .i64 (f i)) := fun z => by rw [← e, ← ef]; exact h.2.1 k hk z
 refine ⟨⟨h.1, fun q hq z => ?_, fun l hl => h.2.2 l fun q hq => hl q (by omega)⟩, has_true_of_atKey a, a⟩
 rcases Nat.lt_or_ge q i with c | c
 ·exact h.2.1 q c z
 ·obtain rfl : q = i := by omega
  exact a z
theorem mi_none {kl f D i} (h : MapInv kl f D i) (hn : ∀ k, k < i → kl k ≠ kl i) : Maps.has D (kl i) = false := h.2.2 _ hn
theorem mi_new {kl f D i} (h : MapInv kl f D i) (hn : ∀ k, k < i → kl k ≠ kl i) (hk : WideAt.IsKeyLit (kl i)) (hf : f i = i) : MapInv kl f (D.put (kl i) (.lit (.int .i64 (i : Int)))) (i + 1) := by
 refine ⟨h.1.put _ _, fun q hq z => ?_, fun l hl => ?_⟩
 ·rcases Nat.lt_or_ge q i with c | c
  ·rw [atKey_put_other (hn q c)]
   exact h.2.1 q c z
  ·obtain rfl : q = i := by omega
   rw [atKey_put_same h.1 hk, hf]
 ·rw [has_put_other (fun e => hl i (by omega) e.symm)]
  exact h.2.2 l fun q hq => hl q (by omega)
theorem key_all (us : List P.S36) (p : List Nat) (hpl : p.length = us.length) (hul : us.length ≤ 256) (hn : ∀ i, i < us.length → (P.rd_T36 us i).f5.length ≤ 64) (hp : ∀ q, gt p q ≤ 100000) :
 ∃ kl : Nat → Lit, ∀ i, i < us.length → keyOf Tryd.prog 97 (.agg ((keyL us p i).map (Value.int .i64)).toArray) = some (kl i) := by
 have h : ∀ i, ∃ l, i < us.length → keyOf Tryd.prog 97 (.agg ((keyL us p i).map (Value.int .i64)).toArray) = some l := fun i => by
  by_cases c : i < us.length
  ·have hr : (rf us i).length ≤ 64 := by unfold rf; rw [List.length_map]; exact hn i c
   obtain ⟨l, hl⟩ := sign_key (keyL us p i) (keyN_length (Nat.le_refl _) hr) (fun z hz => WalkArith.wf_i64 (by
    have : 0 ≤ z ∧ z ≤ 100000 := by
     unfold keyL keyN at hz
     rcases List.mem_cons.1 hz with rfl | hz
     ·exact ⟨by omega, by have := hp i; omega⟩
     rcases List.mem_cons.1 hz with rfl | hz
     ·exact ⟨by omega, by omega⟩
     rcases List.mem_append.1 hz with hz | hz
     ·obtain ⟨q, _, rfl⟩ := List.mem_map.1 hz
      exact ⟨by omega, by have := hp q; omega⟩
     ·rw [List.eq_of_mem_replicate hz]
      exact ⟨by omega, by omega⟩
    omega))
   exact ⟨l, fun _ => hl⟩
  ·exact ⟨.bool true, fun k => absurd k c⟩
 exact ⟨fun i => Classical.choose (h i), fun i hi => Classical.choose_spec (h i) hi⟩
end Go.Proofs.YtngmipfodjgmmaaDoor.Pure
