/- Walks and plain laws of this claim, a part. -/
import Derived.Test.YtngmipfodjgmmaaGreatDoorFz104
set_option maxRecDepth 100000
set_option maxHeartbeats 8000000
set_option linter.unusedVariables false
set_option linter.unusedSimpArgs false
section
namespace Go.Proofs.YtngmipfodjgmmaaGreatDoor.Pure
open Go Go.RowKit Go.Lib Go.Shelf Wa Wb Wc
open Folds (put put_true put_self cnt cnt_put Apt OneP Part refineF gt foldN)
theorem rf_ltA {us : List P.S39} (h : UOk us) (i : Nat) (hi : i < us.length) : ∀ j ∈ rf us i, j < us.length := by
 intro j hj
 unfold rf at hj
 obtain ⟨r, hr, rfl⟩ := List.mem_map.1 hj
 have := (nd_64 h i hi).2 r.f2 (by unfold P.ndI; exact List.mem_map_of_mem hr)
 omega
theorem ref_atA {us : List P.S39} (h : UOk us) {i j : Nat} (hi : i < us.length) (hj : j < (P.rd_T39 us i).f5.length) : ∃ q : Nat, (P.rd_T80 (P.rd_T39 us i).f5 j).f2 = (q : Int) ∧ q < us.length ∧ (rf us i).getD j 0 = q := by
 have e : P.rd_T80 (P.rd_T39 us i).f5 (j : Int) = (P.rd_T39 us i).f5[j] := rd_get _ _ _ hj
 have h2 := (nd_64 h i hi).2 ((P.rd_T39 us i).f5[j]).f2 (by unfold P.ndI; exact List.mem_map_of_mem (List.getElem_mem hj))
 rw [e]
 refine ⟨((P.rd_T39 us i).f5[j]).f2.toNat, by omega, by omega, ?_⟩
 unfold rf
 rw [List.getD_eq_getElem?_getD, List.getElem?_map, List.getElem?_eq_getElem hj]
 rfl
def Lex3 (a b q i k j : Nat) : Prop := a < i ∨ (a = i ∧ (b < k ∨ (b = k ∧ q < j)))
def NoNeed (rf : Nat → List Nat) (m : Nat → Nat → Bool) (a b q : Nat) : Prop := m a b = false → q < (rf a).length → m ((rf a).getD q 0) ((rf b).getD q 0) = false
structure Trn (us : List P.S39) (ins : List Bool) (m0 : Nat → Nat → Bool) (i k j : Nat) (m : Nat → Nat → Bool) (t : Bool) : Prop where
 apt : Apt us.length (inn ins) (al us) (foldP us ins) m
 less : t = true → cnt us.length m < cnt us.length m0
 same : t = false → m = m0
 le : cnt us.length m ≤ cnt us.length m0
 done : t = false → ∀ a b q, a < us.length → b < us.length → Lex3 a b q i k j → NoNeed (rf us) m a b q
variable {us : List P.S39} {ins : List Bool} {m0 m : Nat → Nat → Bool} {i k j : Nat} {t : Bool}
theorem Trn.start (h : Apt us.length (inn ins) (al us) (foldP us ins) m0) : Trn us ins m0 0 0 0 m0 false :=
 ⟨h, fun h => (by cases h), fun _ => rfl, Nat.le_refl _, fun _ a b q _ _ h => absurd h (by unfold Lex3; omega)⟩
theorem Trn.stepJ (h : Trn us ins m0 i k j m t) (hn : NoNeed (rf us) m i k j) : Trn us ins m0 i k (j + 1) m t :=
 ⟨h.apt, h.less, h.same, h.le, fun e a b q ha hb hl => by
  by_cases c : Lex3 a b q i k j
  ·exact h.done e a b q ha hb c
  obtain ⟨rfl, rfl, rfl⟩ : a = i ∧ b = k ∧ q = j := by unfold Lex3 at hl c; omega
  exact hn⟩
theorem Trn.endJ (h : Trn us ins m0 i k j m t) (hn : m i k = true ∨ (rf us i).length ≤ j) : Trn us ins m0 i (k + 1) 0 m t :=
 ⟨h.apt, h.less, h.same, h.le, fun e a b q ha hb hl => by
  by_cases c : Lex3 a b q i k j
  ·exact h.done e a b q ha hb c
  obtain ⟨rfl, rfl, hq⟩ : a = i ∧ b = k ∧ j ≤ q := by unfold Lex3 at hl c; omega
  intro h1 h2
  rcases hn with hn | hn
  ·rw [hn] at h1; cases h1
  omega⟩
theorem Trn.endK (h : Trn us ins m0 i us.length 0 m t) : Trn us ins m0 (i + 1) 0 0 m t :=
 ⟨h.apt, h.less, h.same, h.le, fun e a b q ha hb hl => h.done e a b q ha hb (by unfold Lex3 at hl ⊢; omega)⟩
theorem Trn.put (hok : UOk us) (h : Trn us ins m0 i k j m t) (hi : i < us.length) (hk : k < us.length) (hm : m i k = false) (hj : j < (rf us i).length) (hjk : j < (rf us k).length) (ht : m ((rf us i).getD j 0) ((rf us k).getD j 0) = true) : Trn us ins m0 i k (j + 1) (put m i k) true := by
 have hlt := cnt_put hi hk hm
 have hle := h.le
 obtain ⟨hp, hs⟩ := fold_part us ins
 exact ⟨h.apt.put hp hs (fun i hi => rf_ltA hok i hi) hi hk hj hjk ht, fun _ => by omega, fun e => (by cases e), by omega, fun e => (by cases e)⟩
theorem Trn.closed (h : Trn us ins m0 us.length 0 0 m false) : ∀ i k, i < us.length → k < us.length → m i k = false → ∀ j, j < (rf us i).length → m ((rf us i).getD j 0) ((rf us k).getD j 0) = false :=
 fun i k hi hk h1 j hj => h.done rfl i k j hi hk (.inl hi) h1 hj
theorem rf_length (us : List P.S39) (i : Nat) : (rf us i).length = (P.rd_T39 us i).f5.length := by simp [rf]
theorem al_len (i k : Nat) (h : al us i k = true) : (rf us i).length = (rf us k).length := by
 rw [rf_length, rf_length]
 exact alikeU_length h
theorem apt_len (h : Apt us.length (inn ins) (al us) (foldP us ins) m) (hi : i < us.length) (hk : k < us.length) (hm : m i k = false) : (rf us i).length = (rf us k).length := by
 rcases h.al i k hi hk hm with rfl | ⟨_, _, a⟩
 ·rfl
 exact al_len i k a
theorem apt_end (hok : UOk us) (h : Apt us.length (inn ins) (al us) (foldP us ins) m) (hd : ∀ i k, i < us.length → k < us.length → m i k = false → ∀ j, j < (rf us i).length → m ((rf us i).getD j 0) ((rf us k).getD j 0) = false) : ∀ i k, i < us.length → k < us.length → (m i k = false ↔ OneP (inn ins) (foldP us ins) i k) :=
 fun i k hi hk => Apt.done (al_symm us) (al_trans us) (al_len (us := us)) (fun i hi => rf_ltA hok i hi) h hd hi hk
end Go.Proofs.YtngmipfodjgmmaaGreatDoor.Pure
end
section
namespace Go.Proofs.YtngmipfodjgmmaaGreatDoor.Pure
open Go Go.RowKit Go.Lib Go.Shelf Wa Wb Wc
open P (UA)
def Held (us : List P.S39) : Prop := us.length ≤ 2000000000000 ∧ ∀ u ∈ us, u.f5.length ≤ 4398046510976
def Few (us : List P.S39) : Prop := us.length ≤ 300 ∧ (us.length ≤ 256 → us.length ≤ 40 ∧ ∀ u ∈ us, u.f4.size ≤ 5000 ∧ u.f5.length ≤ 80 ∧ u.f0.size ≤ 100)
def bigB (u : P.S39) : Bool := decide (¬ (u.f4.size ≤ 5000 ∧ u.f5.length ≤ 80 ∧ u.f0.size ≤ 100))
def bigsB (us : List P.S39) : Bool := if us.length ≤ 40 then us.any bigB else decide (us.length ≤ 256 ∨ 300 < us.length)
theorem big_one (u : P.S39) : P.cleatref16_Big.f u.f0 u.f1 u.f2 u.f3 u.f4 (u.f5.map relOf) = some (bigB u) := by
 unfold P.cleatref16_Big.f bigB
 rw [List.length_map]
 split
 ·rw [dT_ (by omega)]
 split
 ·rw [dT_ (by omega)]
 congr 1
 rw [Bool.eq_iff_iff, decide_eq_true_iff, decide_eq_true_iff]
 omega
theorem bigs_few {us : List P.S39} (h : bigsB us = false) : Few us := by
 unfold bigsB at h
 split at h
 ·rename_i c
  refine ⟨by omega, fun _ => ⟨c, fun u hu => ?_⟩⟩
  have := List.any_eq_false.1 h u hu
  unfold bigB at this
  simpa using this
 have := of_decide_eq_false h
 exact ⟨by omega, fun _ => by omega⟩
theorem big_any (us : List P.S39) (hh : Held us) (w : World) (A : Option Addr) (c : Nat) (hu : UA w A us) :
 Calls Tryz.prog 7 #[.slice A us.length c] w (fun x w' => x = .returned (.bool (bigsB us)) ∧ Below w.heap.size w w') := by
 have HU := Azz.mk hu
 have HH := Azz.mk hh
 clear hu hh
 go_enter Tryz.func7, Tryz.ntmps7
 by_cases c40 : us.length ≤ 40
 rotate_left
 ·have b40 : decide ((us.length : Int) ≤ 40) = false := dF_ (by omega)
  have i1 : decide ((0 : Int) < us.length) = true := dT_ (by omega)
  have b1 : decide ((40 : Int) < us.length) = true := dT_ (by omega)
  go_wp2
  go_loopw [3] (fun v wr => v = .int .i64 0 ∧ w = wr) (fun _ _ => 0)
  case atStart => exact ⟨rfl, rfl⟩
  case round =>
   obtain ⟨rfl, rfl⟩ := hrel
   by_cases h1 : us.length ≤ 256
   ·have b2 : decide ((us.length : Int) ≤ 256) = true := dT_ (by omega)
    go_wp2
    go_ret
    refine ⟨?_, Below.refl _ _⟩
    have : bigsB us = true := by
     unfold bigsB
     rw [if_neg c40]
     exact dT_ (.inl h1)
    rw [this]
    rfl
   have b2 : decide ((us.length : Int) ≤ 256) = false := dF_ (by omega)
   obtain ⟨b, hb⟩ : ∃ b, decide ((300 : Int) < us.length) = b := ⟨_, rfl⟩
   have HBb := Azz.mk hb
   go_wp2
   go_ret
   refine ⟨?_, Below.refl _ _⟩
   have : bigsB us = b := by
    unfold bigsB
    rw [if_neg c40, ← HBb.out, Bool.eq_iff_iff, decide_eq_true_iff, decide_eq_true_iff]
    omega
   rw [this]
   rfl
 have b40 : decide ((us.length : Int) ≤ 40) = true := dT_ (by omega)
 go_wp2
 go_loopw [3] (fun v wr => ∃ i : Nat, i ≤ us.length ∧ v = .int .i64 i ∧ Azz (∀ q, q < i → (h : q < us.length) → bigB us[q] = false) ∧ Azz (Below w.heap.size w wr)) (fun v _ => us.length - (RowKit.intOf v).toNat)
 case atStart => exact ⟨0, Nat.zero_le _, rfl, ⟨fun q h => absurd h (Nat.not_lt_zero _)⟩, ⟨Below.refl _ _⟩⟩
 case round =>
  obtain ⟨i, hi, rfl, HQ, HB⟩ := hrel
  by_cases hlt : i < us.length
  rotate_left
  ·obtain rfl : i = us.length := by omega
   have b1 : decide ((40 : Int) < us.length) = false := dF_ (by omega)
   have b2 : decide ((300 : Int) < us.length) = false := dF_ (by omega)
   go_wp2
   go_ret
   refine ⟨?_, HB.out⟩
   have : bigsB us = false := by
    unfold bigsB
    rw [if_pos c40]
    refine List.any_eq_false.2 fun u hu => ?_
    obtain ⟨q, hq, rfl⟩ := List.getElem_of_mem hu
    rw [HQ.out q hq hq]
    decide
   rw [this]
   rfl
  obtain ⟨ad, A5, c5, ea, y0, y1, y2, y3, y4, y5, l5, g5⟩ := P.at_T39 (Kd.C_below HU.out HB.out) i (by omega) (by omega)
  subst ea
  rw [Int.toNat_natCast] at y0 y1 y2 y3 y4 y5
  have e2 : P.rd_T39 us (i : Int) = us[i] := rd_get _ _ _ hlt
  obtain ⟨u, hu⟩ : ∃ u, us[i] = u := ⟨_, rfl⟩
  rw [e2, hu] at y0 y1 y2 y3 y4 y5 l5 g5
  have hnw : u.f5.length ≤ 4398046510976 := by rw [← hu]; exact HH.out.2 _ (List.getElem_mem hlt)
  have HUe := Azz.mk hu
  have HS := Azz.mk (rsec_any u hnw wr A5 c5 g5 l5)
  have i0 : (0 : Int) ≤ (i : Int) := by omega
  have i1 : (i : Int) < us.length := by omega
  clear e2 hu g5 l5 hnw
  go_wp2_with fail
  (with_reducible refine HS.out.mono ?_)
  rintro en w2 ⟨A', c', rfl, hl', hC', hbw⟩
  have HB2 := Azz.mk (bTT HB.out hbw)
  have HBg := P.cleatref16_Big.calls u.f0 u.f1 u.f2 u.f3 u.f4 A' c' (u.f5.map relOf) (bigB u) w2 (by simpa using hC') (by simpa using hl') (big_one u)
  rw [List.length_map] at HBg
  have HBg := Azz.mk HBg
  clear hC' hl' hbw HB HS y0 y1 y2 y3 y4 y5
  go_wp2_with fail
  (with_reducible refine HBg.out.mono ?_)
  rintro en w3 ⟨rfl, hbw⟩
  have HB3 := Azz.mk (bTT HB2.out hbw)
  clear hbw HB2 HBg
  obtain ⟨bb, hbb⟩ : ∃ b, bigB u = b := ⟨_, rfl⟩
  rw [hbb]
  have HBb := Azz.mk hbb
  clear hbb
  cases bb with
  | true =>
   go_wp2
   go_ret
   refine ⟨?_, HB3.out⟩
   have : bigsB us = true := by
    unfold bigsB
    rw [if_pos c40]
    exact List.any_eq_true.2 ⟨us[i], List.getElem_mem hlt, by rw [HUe.out]; exact HBb.out⟩
   rw [this]
   rfl
  | false =>
   go_wp2
   go_roundw
   case rel =>
    refine ⟨i + 1, by omega, by go_num, ⟨fun q hq h => ?_⟩, HB3⟩
    rcases Nat.eq_or_lt_of_le (Nat.le_of_lt_succ hq) with rfl | hq
    ·rw [HUe.out]; exact HBb.out
    exact HQ.out q hq h
   case measure => simp [RowKit.intOf]; omega
theorem bigU_calls (us : List P.S39) (hh : Held us) (W : World) (A : Option Addr) (c : Nat) (h : UA W A us) (hc : us.length ≤ c) :
 ∃ b, Calls Tryz.prog 7 #[.slice A us.length c] W (fun x w' => x = .returned (.bool b) ∧ Below W.heap.size W w') ∧ (b = false → Few us) :=
 ⟨bigsB us, big_any us hh W A c h, bigs_few⟩
end Go.Proofs.YtngmipfodjgmmaaGreatDoor.Pure
end
section
namespace Go.Proofs.YtngmipfodjgmmaaGreatDoor.P
open Go.RowKit Wa Wb Wc
attribute [local go_sem] max2_int min2_int max_two min_two max_three min_three max_four min_four
theorem eqA98 (d : Nat) (w : World) (x0 y0 : Int) (x1 y1 : Int) (x2 y2 : Int) (x3 y3 : Int) :
 (Op.equalIn (d + 2) 98 (.agg #[.int .i64 x0, .int .i64 x1, .int .i64 x2, .int .i64 x3]) (.agg #[.int .i64 y0, .int .i64 y1, .int .i64 y2, .int .i64 y3])).run Tryz.prog w = .ok (x0 == y0 && (x1 == y1 && (x2 == y2 && (x3 == y3)))) w := by
 refine eqA_of Tryz.underlying98 (by kernel_rfl) ?_
 refine eqf_cons (by rfl) (by go_simp; rfl) (by go_simp; rfl) (by go_simp) ?_
 refine eqf_cons (by rfl) (by go_simp; rfl) (by go_simp; rfl) (by go_simp) ?_
 refine eqf_cons (by rfl) (by go_simp; rfl) (by go_simp; rfl) (by go_simp) ?_
 exact eqf_last (by rfl) (by go_simp; rfl) (by go_simp; rfl) (by go_simp)
attribute [local go_sem high] eqA98
def cleatref16_SameRels.l0 : Nat → List (S98) → List (S98) → Int → Option (Bool)
 | 0, _, _, _ => none
 | k + 1, x0, x1, x5 => if x5 < (x0.length : Int) then (if 0 ≤ x5 then (if x5 < (x1.length : Int) then (if (!(((rd_T98 x0 x5).f0) == ((rd_T98 x1 x5).f0)) || (!(((rd_T98 x0 x5).f1) == ((rd_T98 x1 x5).f1)) || (!(((rd_T98 x0 x5).f2) == ((rd_T98 x1 x5).f2)) || (!(((rd_T98 x0 x5).f3) == ((rd_T98 x1 x5).f3)))))) = true then (some false) else (cleatref16_SameRels.l0 k x0 x1 (wrap64 (x5 + 1)))) else (none)) else (none)) else (some true)
def cleatref16_SameRels.f (k : Nat) (l0 : List (S98)) (l1 : List (S98)) : Option (Bool) := if (l0.length : Int) = (l1.length : Int) then (cleatref16_SameRels.l0 k l0 l1 0) else (some false)
theorem cleatref16_SameRels.calls (k : Nat) (A0 : Option Addr) (c0 : Nat) (l0 : List (S98)) (A1 : Option Addr) (c1 : Nat) (l1 : List (S98)) (r : Bool) (w : World) (hr0 : Kd.C k98 w A0 l0.length l0) (hc0 : l0.length ≤ c0) (hr1 : Kd.C k98 w A1 l1.length l1) (hc1 : l1.length ≤ c1) (h : cleatref16_SameRels.f k l0 l1 = some r) :
 Calls Tryz.prog 62 #[.slice A0 l0.length c0, .slice A1 l1.length c1] w fun e w' => e = .returned (.bool r) ∧ Drawn0 w w' := by
 have hu98 := Tryz.underlying98
 have HR0 := Azz.mk hr0
 have HC0 := Azz.mk hc0
 clear hr0 hc0
 have HR1 := Azz.mk hr1
 have HC1 := Azz.mk hc1
 clear hr1 hc1
 have H : (if (l0.length : Int) = (l1.length : Int) then (cleatref16_SameRels.l0 k l0 l1 0) else (some false)) = some r := h
 clear h
 by_cases c3 : (l0.length : Int) = (l1.length : Int)
 rotate_left
 ·rw [if_neg c3] at H
  obtain ⟨c3b0, c3b1⟩ := bn_ c3
  have c3b2 : (l0.length == l1.length) = false := by first | simpa using c3 | (simp at c3 ⊢; omega)
  obtain rfl := sI H
  go_enter Tryz.func62, Tryz.ntmps62
  go_wp2
  repeat (go_quiet (fail); try go_wp2)
  go_ret
  exact ⟨by first | rfl | (simp; done) | (simp [*]; done), d0S⟩
 rw [if_pos c3] at H
 obtain ⟨c3b0, c3b1⟩ := be_ c3
 have c3b2 : (l0.length == l1.length) = true := by first | simpa using c3 | (simp at c3 ⊢; omega)
 clear c3
 have H' := Azz.mk H
 clear H
 go_enter Tryz.func62, Tryz.ntmps62
 go_wp2
 repeat (go_quiet (fail); try go_wp2)
 go_loopg [5] k (fun kq v5 w' => ∃ (x5_1 : Int), v5 = .int .i64 x5_1 ∧ Azz (cleatref16_SameRels.l0 kq l0 l1 x5_1 = some r) ∧ Azz (kq ≤ k) ∧ Drawn0 w w')
 case atStart => exact ⟨(0), eqS, H', ⟨Nat.le_refl _⟩, d0S⟩
 case round =>
  clear H'
  try clear c1
  try clear p2
  try clear c3
  try clear c3b0
  try clear c3b1
  try clear c3b2
  obtain ⟨x5_1, rfl, HA, HK1, ⟨m1, rfl⟩⟩ := hrel
  cases gk with
  | zero => exact absurd HA.out (by simp [cleatref16_SameRels.l0])
  | succ k1 =>
   have H := HA.out
   clear HA
   simp only [cleatref16_SameRels.l0] at H
   by_cases c4 : x5_1 < (l0.length : Int)
   rotate_left
   ·rw [if_neg c4] at H
    have c4b0 := dF_ c4
    clear c4
    obtain rfl := sI H
    go_wp2
    repeat (go_quiet (fail); try go_wp2)
    go_ret
    exact ⟨by first | rfl | (simp; done) | (simp [*]; done), d0S⟩
   rw [if_pos c4] at H
   have c4b0 := dT_ c4
   clear c4
   by_cases c5 : 0 ≤ x5_1
   rotate_left
   ·rw [if_neg c5] at H
    exact absurd H (by simp)
   rw [if_pos c5] at H
   have c5b0 := dT_ c5
   clear c5
   by_cases c6 : x5_1 < (l1.length : Int)
   rotate_left
   ·rw [if_neg c6] at H
    exact absurd H (by simp)
   rw [if_pos c6] at H
   have c6b0 := dT_ c6
   clear c6
   by_cases c7 : (!(((rd_T98 l0 x5_1).f0) == ((rd_T98 l1 x5_1).f0)) || (!(((rd_T98 l0 x5_1).f1) == ((rd_T98 l1 x5_1).f1)) || (!(((rd_T98 l0 x5_1).f2) == ((rd_T98 l1 x5_1).f2)) || (!(((rd_T98 l0 x5_1).f3) == ((rd_T98 l1 x5_1).f3)))))) = true
   ·rw [if_pos c7] at H
    have c7b0 : (!(((rd_T98 l0 x5_1).f0) == ((rd_T98 l1 x5_1).f0)) || (!(((rd_T98 l0 x5_1).f1) == ((rd_T98 l1 x5_1).f1)) || (!(((rd_T98 l0 x5_1).f2) == ((rd_T98 l1 x5_1).f2)) || (!(((rd_T98 l0 x5_1).f3) == ((rd_T98 l1 x5_1).f3)))))) = true := c7
    clear c7
    obtain rfl := sI H
    have p451 : 0 ≤ (x5_1 : Int) := of_decide_eq_true (by first | (with_reducible assumption) | assumption)
    have q451 : x5_1 < (l0.length : Int) := of_decide_eq_true (by first | (with_reducible assumption) | assumption)
    obtain ⟨ad451, e451, hx451_0, hx451_1, hx451_2, hx451_3⟩ := at_T98 HR0.out x5_1 p451 q451
    cases e451
    replace p451 := eq_true p451
    replace q451 := eq_true q451
    have p452 : 0 ≤ (x5_1 : Int) := of_decide_eq_true (by first | (with_reducible assumption) | assumption)
    have q452 : x5_1 < (l1.length : Int) := of_decide_eq_true (by first | (with_reducible assumption) | assumption)
    obtain ⟨ad452, e452, hx452_0, hx452_1, hx452_2, hx452_3⟩ := at_T98 HR1.out x5_1 p452 q452
    cases e452
    replace p452 := eq_true p452
    replace q452 := eq_true q452
    go_wp2
    repeat (go_quiet (fail); try go_wp2)
    go_ret
    exact ⟨by first | rfl | (simp; done) | (simp [*]; done), d0S⟩
   rw [if_neg c7] at H
   have c7b0 : (!(((rd_T98 l0 x5_1).f0) == ((rd_T98 l1 x5_1).f0)) || (!(((rd_T98 l0 x5_1).f1) == ((rd_T98 l1 x5_1).f1)) || (!(((rd_T98 l0 x5_1).f2) == ((rd_T98 l1 x5_1).f2)) || (!(((rd_T98 l0 x5_1).f3) == ((rd_T98 l1 x5_1).f3)))))) = false := by simpa using c7
   clear c7
   have H' := Azz.mk H
   clear H
   have p451 : 0 ≤ (x5_1 : Int) := of_decide_eq_true (by first | (with_reducible assumption) | assumption)
   have q451 : x5_1 < (l0.length : Int) := of_decide_eq_true (by first | (with_reducible assumption) | assumption)
   obtain ⟨ad451, e451, hx451_0, hx451_1, hx451_2, hx451_3⟩ := at_T98 HR0.out x5_1 p451 q451
   cases e451
   replace p451 := eq_true p451
   replace q451 := eq_true q451
   have p452 : 0 ≤ (x5_1 : Int) := of_decide_eq_true (by first | (with_reducible assumption) | assumption)
   have q452 : x5_1 < (l1.length : Int) := of_decide_eq_true (by first | (with_reducible assumption) | assumption)
   obtain ⟨ad452, e452, hx452_0, hx452_1, hx452_2, hx452_3⟩ := at_T98 HR1.out x5_1 p452 q452
   cases e452
   replace p452 := eq_true p452
   replace q452 := eq_true q452
   go_wp2
   repeat (go_quiet (fail); try go_wp2)
   go_roundg k1
   case measure => have := HK1.out; omega
   case rel => exact ⟨(wrap64 (x5_1 + 1)), eqS, H', ⟨by have := HK1.out; omega⟩, d0S⟩
end Go.Proofs.YtngmipfodjgmmaaGreatDoor.P
end
