/- Walks and plain laws of this claim, a part. -/
import Derived.Test.YtngmipfodjgmmaaDoorSm68
import Derived.Deep.QuietTactic
import Derived.BigQuiet
section
namespace Go.Proofs.YtngmipfodjgmmaaDoor.Pure
open Go Go.RowKit Go.Proofs.YtngmipfodjgmmaaDoorW.PrintWords Go.Proofs.YtngmipfodjgmmaaDoorW.PrintLast Go.Proofs.YtngmipfodjgmmaaDoorW.PrintMore
set_option linter.unusedVariables false
set_option linter.unusedSimpArgs false
/-- An object whose symbols are local ones. -/
def Loc (o : Ob) : Prop := ∀ k, k < o.f1.length → (smN o k).f1 = 1
theorem obN_old {os : List Ob} {o : Ob} {i : Nat} (hi : i < os.length) : obN (os ++ [o]) i = obN os i := by
  unfold obN P.rd_T48
  rw [Int.toNat_natCast, List.getD_eq_getElem?_getD, List.getD_eq_getElem?_getD, List.getElem?_append_left hi]
theorem obN_new {os : List Ob} {o : Ob} : obN (os ++ [o]) os.length = o := by
  unfold obN P.rd_T48
  rw [Int.toNat_natCast, List.getD_eq_getElem?_getD, List.getElem?_append_right (Nat.le_refl _)]
  simp
theorem syN_old {os : List Ob} {o : Ob} {i : Nat} (hi : i < os.length) (k : Nat) : syN (os ++ [o]) i k = syN os i k := by
  unfold syN
  rw [obN_old hi]
theorem syN_new {os : List Ob} {o : Ob} (k : Nat) : syN (os ++ [o]) os.length k = smN o k := by
  unfold syN smN
  rw [obN_new]
theorem nsy_old {os : List Ob} {o : Ob} {i : Nat} (hi : i < os.length) : nsy (os ++ [o]) i = nsy os i := by
  unfold nsy
  rw [obN_old hi]
theorem nsy_new {os : List Ob} {o : Ob} : nsy (os ++ [o]) os.length = o.f1.length := by
  unfold nsy
  rw [obN_new]
theorem row_old {os : List Ob} {o : Ob} {i : Nat} (hi : i < os.length) (k : Nat) : rowS (os ++ [o]) i k = rowS os i k := by
  unfold rowS
  exact List.map_congr_left fun j _ => by rw [syN_old hi]
theorem flat_old {os : List Ob} {o : Ob} : ∀ {i : Nat}, i ≤ os.length → flatS (os ++ [o]) i = flatS os i
  | 0, _ => rfl
  | i + 1, h => by
    show flatS (os ++ [o]) i ++ rowS (os ++ [o]) i (nsy (os ++ [o]) i) = flatS os i ++ rowS os i (nsy os i)
    rw [flat_old (by omega), row_old (by omega), nsy_old (by omega)]
theorem pre_old {os : List Ob} {o : Ob} {i : Nat} (hi : i < os.length) (k : Nat) : preS (os ++ [o]) i k = preS os i k := by
  unfold preS
  rw [flat_old (by omega), row_old hi]
theorem len_more {os : List Ob} {o : Ob} : (os ++ [o]).length = os.length + 1 := by simp
theorem allS_more {os : List Ob} {o : Ob} : allS (os ++ [o]) = allS os ++ rowS (os ++ [o]) os.length (nsy (os ++ [o]) os.length) := by
  unfold allS
  rw [len_more]
  show flatS (os ++ [o]) os.length ++ _ = _
  rw [flat_old (Nat.le_refl _)]
theorem first_more {os : List Ob} {o : Ob} {q : Sy → Bool} (hq : ∀ s : Sy, s.f1 = 1 → q s = false) (hl : Loc o) (n : ByteArray) : firstS q (allS (os ++ [o])) n = firstS q (allS os) n := by
  have no : (rowS (os ++ [o]) os.length (nsy (os ++ [o]) os.length)).find? (hit q n) = none := by
    rw [List.find?_eq_none]
    intro t ht
    obtain ⟨j, hj, rfl⟩ := mem_row.1 ht
    rw [nsy_new] at hj
    have h1 : (syN (os ++ [o]) os.length j).f1 = 1 := by rw [syN_new]; exact hl j hj
    simp [hit, hq _ h1]
  unfold firstS
  rw [allS_more, List.find?_append, no, Option.or_none]
theorem strong_loc {s : Sy} (h : s.f1 = 1) : strongQ s = false := by simp [strongQ, h]
theorem weak_loc {s : Sy} (h : s.f1 = 1) : weakQ s = false := by simp [weakQ, h]
theorem placeT_more {os : List Ob} {o : Ob} (hl : Loc o) (n : ByteArray) : placeT (os ++ [o]) n = placeT os n := by
  unfold placeT
  rw [first_more (fun _ => strong_loc) hl, first_more (fun _ => weak_loc) hl]
theorem plS_more {os : List Ob} {o : Ob} (hl : Loc o) {i : Nat} (hi : i < os.length) (k : Nat) : plS (os ++ [o]) i k = plS os i k := by
  unfold plS placeS
  rw [syN_old hi, placeT_more hl]
theorem plRow_more {os : List Ob} {o : Ob} (hl : Loc o) {i : Nat} (hi : i < os.length) (k : Nat) : plRow (os ++ [o]) i k = plRow os i k := by
  unfold plRow
  exact List.map_congr_left fun j _ => plS_more hl hi j
theorem rowsOf_more {os : List Ob} {o : Ob} (hl : Loc o) : rowsOf (os ++ [o]) = rowsOf os ++ [plRow (os ++ [o]) os.length o.f1.length] := by
  unfold rowsOf
  rw [len_more, List.range_succ, List.map_append]
  congr 1
  · exact List.map_congr_left fun i hi => by
      have hi := List.mem_range.1 hi
      rw [nsy_old hi, plRow_more hl hi]
  · simp [nsy_new]
theorem tw_old {os : List Ob} {o : Ob} {i : Nat} (hi : i < os.length) (j : Nat) : Tw (preS (os ++ [o]) i j) (syN (os ++ [o]) i j) ↔ Tw (preS os i j) (syN os i j) := by rw [pre_old hi, syN_old hi]
theorem tw_new {os : List Ob} {o : Ob} (hl : Loc o) {j : Nat} (hj : j < nsy (os ++ [o]) os.length) : ¬ Tw (preS (os ++ [o]) os.length j) (syN (os ++ [o]) os.length j) := by
  rintro ⟨h, _⟩
  rw [nsy_new] at hj
  rw [syN_new, strong_loc (hl j hj)] at h
  cases h
theorem lost_old {os : List Ob} {o : Ob} (hl : Loc o) {i : Nat} (hi : i < os.length) (j : Nat) : Lost (os ++ [o]) (syN (os ++ [o]) i j) ↔ Lost os (syN os i j) := by
  unfold Lost
  rw [syN_old hi, placeT_more hl]
theorem lost_new {os : List Ob} {o : Ob} (hl : Loc o) {j : Nat} (hj : j < nsy (os ++ [o]) os.length) : ¬ Lost (os ++ [o]) (syN (os ++ [o]) os.length j) := by
  rintro ⟨h, _⟩
  rw [nsy_new] at hj
  rw [syN_new] at h
  exact h (hl j hj)
theorem noTw_old {os : List Ob} {o : Ob} {i k : Nat} (hi : i < os.length) (h : NoTw os i k) : NoTw (os ++ [o]) i k := by
  intro a b hl hb
  have ha : a < os.length := by rcases hl with c | ⟨c, _⟩ <;> omega
  rw [nsy_old ha] at hb
  rw [tw_old ha]
  exact h a b hl hb
theorem noLost_old {os : List Ob} {o : Ob} (hl : Loc o) {i k : Nat} (hi : i < os.length) (h : NoLost os i k) : NoLost (os ++ [o]) i k := by
  intro a b hx hb
  have ha : a < os.length := by rcases hx with c | ⟨c, _⟩ <;> omega
  rw [nsy_old ha] at hb
  rw [lost_old hl ha]
  exact h a b hx hb
theorem noTw_all {os : List Ob} {o : Ob} (hl : Loc o) (h : NoTw os os.length 0) : NoTw (os ++ [o]) (os ++ [o]).length 0 := by
  intro a b hx hb
  have ha : a < os.length + 1 := by rw [len_more] at hx; rcases hx with c | ⟨_, c⟩ <;> omega
  by_cases c : a < os.length
  · rw [nsy_old c] at hb
    rw [tw_old c]
    exact h a b (.inl c) hb
  · obtain rfl : a = os.length := by omega
    exact tw_new hl hb
theorem noLost_all {os : List Ob} {o : Ob} (hl : Loc o) (h : NoLost os os.length 0) : NoLost (os ++ [o]) (os ++ [o]).length 0 := by
  intro a b hx hb
  have ha : a < os.length + 1 := by rw [len_more] at hx; rcases hx with c | ⟨_, c⟩ <;> omega
  by_cases c : a < os.length
  · rw [nsy_old c] at hb
    rw [lost_old hl c]
    exact h a b (.inl c) hb
  · obtain rfl : a = os.length := by omega
    exact lost_new hl hb
theorem allOk_more {os : List Ob} {o : Ob} (ho : ObOk o) (hn : os.length < 8) : AllOkO (os ++ [o]) ↔ AllOkO os := by
  constructor
  · rintro ⟨_, h⟩
    exact ⟨by omega, fun i hi => by have := h i (by rw [len_more]; omega); rwa [obN_old hi] at this⟩
  · rintro ⟨_, h⟩
    refine ⟨by rw [len_more]; omega, fun i hi => ?_⟩
    rw [len_more] at hi
    by_cases c : i < os.length
    · rw [obN_old c]
      exact h i c
    · obtain rfl : i = os.length := by omega
      rw [obN_new]
      exact ho
/-- A fault is told alike. -/
theorem flt_more {os : List Ob} {o : Ob} (ho : ObOk o) (hl : Loc o) (hn : os.length < 8) {c a b : Int} (h : Flt os c a b) : Flt (os ++ [o]) c a b := by
  rcases h with ⟨h1, h2, h3, h4⟩ | ⟨h1, i, j, ⟨g1, g2, g3, g4⟩, h2⟩ | ⟨h1, ht, i, j, ⟨g1, g2, g3, g4⟩, h2⟩
  · refine .inl ⟨fun k => h1 ((allOk_more ho hn).1 k), ?_, h3, h4⟩
    rcases h2 with ⟨a, _⟩ | ⟨a, b, c⟩ | ⟨a, _⟩
    · omega
    · refine .inr (.inl ⟨by rw [len_more]; omega, b, fun k => c fun i hi => ?_⟩)
      have := k i (by rw [len_more]; omega)
      rwa [obN_old hi] at this
    · exact absurd a h1
  · exact .inr (.inl ⟨(allOk_more ho hn).2 h1, i, j, ⟨by rw [len_more]; omega, by rw [nsy_old g1]; exact g2, (tw_old g1 j).2 g3, noTw_old g1 g4⟩, h2⟩)
  · exact .inr (.inr ⟨(allOk_more ho hn).2 h1, noTw_all hl ht, i, j, ⟨by rw [len_more]; omega, by rw [nsy_old g1]; exact g2, (lost_old hl g1 j).2 g3, noLost_old hl g1 g4⟩, h2⟩)
theorem flt_tw {os : List Ob} {i j : Nat} (h : AtTw os i j) : ¬ NoTw os os.length 0 := fun g => g i j (.inl h.1) h.2.1 h.2.2.1
theorem flt_lost {os : List Ob} {i j : Nat} (h : AtLost os i j) : ¬ NoLost os os.length 0 := fun g => g i j (.inl h.1) h.2.1 h.2.2.1
theorem flt_one {os : List Ob} {c a b c' a' b' : Int} (h : Flt os c a b) (g : Flt os c' a' b') : c' = c ∧ a' = a ∧ b' = b := by
  rcases h with ⟨h1, h2, rfl, rfl⟩ | ⟨h1, i, j, h2, rfl, rfl, rfl⟩ | ⟨h1, ht, i, j, h2, rfl, rfl, rfl⟩ <;> rcases g with ⟨g1, g2, rfl, rfl⟩ | ⟨g1, p, q, g2, rfl, rfl, rfl⟩ | ⟨g1, gt, p, q, g2, rfl, rfl, rfl⟩
  · exact ⟨g2.one h2, rfl, rfl⟩
  · exact absurd g1 h1
  · exact absurd g1 h1
  · exact absurd h1 g1
  · obtain ⟨rfl, rfl⟩ := h2.one g2
    exact ⟨rfl, rfl, rfl⟩
  · exact absurd gt (flt_tw h2)
  · exact absurd h1 g1
  · exact absurd ht (flt_tw g2)
  · obtain ⟨rfl, rfl⟩ := h2.one g2
    exact ⟨rfl, rfl, rfl⟩
theorem flt_not {os : List Ob} {c a b : Int} (h : Flt os c a b) (h1 : AllOkO os) (h2 : NoTw os os.length 0) (h3 : NoLost os os.length 0) : False := by
  rcases h with ⟨g, _⟩ | ⟨_, i, j, g, _⟩ | ⟨_, _, i, j, g, _⟩
  · exact g h1
  · exact flt_tw g h2
  · exact flt_lost g h3
end Go.Proofs.YtngmipfodjgmmaaDoor.Pure
end
section
namespace Go.Proofs.YtngmipfodjgmmaaDoor.Pure
open Go Go.RowKit Go.Lib Go.Shelf Go.Maps Go.Proofs.YtngmipfodjgmmaaDoorW.PrintWords Go.Proofs.YtngmipfodjgmmaaDoorW.PrintLast Go.Proofs.YtngmipfodjgmmaaDoorW.PrintMore
open P (Glob)
set_option linter.unusedVariables false
set_option linter.unusedSimpArgs false
theorem alone_few {o : Ob} (h : FewL [o]) : FewO o := h.2 0 (by decide : 0 < 1)
theorem big_ev_calls {os : List Ob} {b : Bool} (hb : Ev (fun k => P.cleatref20_Big.f k os) b) (W : World) (A : Option Addr) (c : Nat) (h : OA W A os) (hc : os.length ≤ c) : Calls Tryd.prog 18 #[.slice A os.length c] W fun x w' => x = .returned (.bool b) ∧ Below W.heap.size W w' := by
  obtain ⟨K, hK⟩ := hb
  exact P.cleatref20_Big.calls K A c os b W h hc (hK K (Nat.le_refl _))
theorem obv_parts {w : World} {o : Ob} {A0 A1 : Option Addr} {c0 c1 : Nat} (h : ObV w o A0 A1 c0 c1) : SeA w A0 o.f0 ∧ o.f0.length ≤ c0 ∧ SyA w A1 o.f1 ∧ o.f1.length ≤ c1 := h
theorem big1 {o : Ob} {b : Bool} (hb : Ev (fun k => P.cleatref20_Big.f k [o]) b) (W : World) (A : Option Addr) (c : Nat) (h : OA W A [o]) (hc : 1 ≤ c) : Calls Tryd.prog 18 #[.slice A 1 c] W fun x w' => x = .returned (.bool b) ∧ Below W.heap.size W w' := big_ev_calls hb W A c h hc
end Go.Proofs.YtngmipfodjgmmaaDoor.Pure
end
