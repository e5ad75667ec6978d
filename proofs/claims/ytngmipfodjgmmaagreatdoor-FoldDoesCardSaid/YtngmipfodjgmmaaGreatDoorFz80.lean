/- Walks and plain laws of this claim, a part. -/
import Derived.Test.YtngmipfodjgmmaaGreatDoorFz75
set_option maxRecDepth 100000
set_option maxHeartbeats 8000000
set_option linter.unusedVariables false
set_option linter.unusedSimpArgs false
section
namespace Go.Proofs.YtngmipfodjgmmaaGreatDoor.Pure
open Go Go.RowKit Go.Lib Go.Shelf Wa Wb Wc
open P (Glob UA)
def RuPost (us : List P.S39) (w : World) (e : Ending) (w' : World) : Prop := ∃ b, e = .returned (.bool b) ∧ (b = true ↔ UOk us) ∧ Below w.heap.size w w'
theorem ris_units (us : List P.S39) (A : Option Addr) (c : Nat) (w : World) (hu : UA w A us) (hc : us.length ≤ c) (hn : Narrow us) (hul : us.length ≤ 100000) : Calls Tryz.prog 34 #[.slice A us.length c] w (RuPost us w) := by
 have HU := Azz.mk hu
 have HN := Azz.mk hn
 clear hu hn
 by_cases hb : us.length ≤ 256
 rotate_left
 ·have b0 : decide ((us.length : Int) ≤ 256) = false := dF_ (by omega)
  have i1 : decide ((0 : Int) < us.length) = true := dT_ (by omega)
  go_enter Tryz.func34, Tryz.ntmps34
  go_wp2
  go_loopw [3] (fun v wr => v = .int .i64 0 ∧ w = wr) (fun _ _ => 0)
  case atStart => exact ⟨rfl, rfl⟩
  case round =>
   obtain ⟨rfl, rfl⟩ := hrel
   go_wp2
   go_ret
   exact ⟨false, rfl, ⟨fun h => absurd h (by decide), fun h => absurd h.1 hb⟩, Below.refl _ _⟩
 have b0 : decide ((us.length : Int) ≤ 256) = true := dT_ (by omega)
 go_enter Tryz.func34, Tryz.ntmps34
 go_wp2
 go_loopw [3] (fun v wr => ∃ i : Nat, i ≤ us.length ∧ v = .int .i64 i ∧ Azz (∀ q, q < i → (h : q < us.length) → IsB (secOf us[q]) true ∧ ∀ j, (h2 : j < us[q].f5.length) → us[q].f5[j].f2 < us.length) ∧ Azz (Below w.heap.size w wr)) (fun v _ => us.length - (RowKit.intOf v).toNat)
 case atStart => exact ⟨0, Nat.zero_le _, rfl, ⟨fun q h => absurd h (Nat.not_lt_zero _)⟩, ⟨Below.refl _ _⟩⟩
 case round =>
  obtain ⟨i, hi, rfl, HQ, HB⟩ := hrel
  by_cases hlt : i < us.length
  rotate_left
  ·obtain rfl : i = us.length := by omega
   go_wp2
   go_ret
   exact ⟨true, rfl, ⟨fun _ => ⟨hb, fun q h => HQ.out q h h⟩, fun _ => rfl⟩, HB.out⟩
  obtain ⟨ad, A5, c5, ea, y0, y1, y2, y3, y4, y5, l5, g5⟩ := P.at_T39 (Kd.C_below HU.out HB.out) i (by omega) (by omega)
  subst ea
  rw [Int.toNat_natCast] at y0 y1 y2 y3 y4 y5
  have e2 : P.rd_T39 us (i : Int) = us[i] := rd_get _ _ _ hlt
  obtain ⟨u, hu⟩ : ∃ u, us[i] = u := ⟨_, rfl⟩
  rw [e2, hu] at y0 y1 y2 y3 y4 y5 l5 g5
  have hnw : u.f5.length ≤ 100000 := by rw [← hu]; exact HN.out hb i hlt
  have HUe := Azz.mk hu
  have HC5 := Azz.mk g5
  have i0 : (0 : Int) ≤ (i : Int) := by omega
  have i1 : (i : Int) < us.length := by omega
  clear e2 hu g5
  go_wp2_with fail
  (with_reducible refine (rsec_any u (by omega) _ A5 c5 HC5.out l5).mono ?_)
  rintro en w2 ⟨A', c', rfl, hl', hC', hbw⟩
  have HB2 := Azz.mk (bTT HB.out hbw)
  replace y5 := kp1 y5 hbw
  replace HC5 := Azz.mk (Kd.C_below HC5.out hbw)
  have HIs := ris_sec (secOf u) A' c' w2 (by simpa [secOf] using hl') (by simpa [secOf] using hC')
  have HIs := Azz.mk (show Calls Tryz.prog 60 #[.agg #[.string u.f0, .int .i64 u.f1, .bool u.f2, .int .i64 u.f3, .string u.f4, .slice A' u.f5.length c']] w2 (RIsPost (secOf u) w2) from by simpa [secOf] using HIs)
  clear hC' hl' hbw HB y0 y1 y2 y3 y4
  go_wp2_with fail
  (with_reducible refine HIs.out.mono ?_)
  rintro en w3 ⟨b, rfl, hib, hbw⟩
  have HB3 := Azz.mk (bTT HB2.out hbw)
  replace y5 := kp1 y5 hbw
  replace HC5 := Azz.mk (Kd.C_below HC5.out hbw)
  have HIb := Azz.mk hib
  clear hbw HB2 hib HIs
  cases b with
  | false =>
   go_wp2
   go_ret
   refine ⟨false, rfl, ⟨fun h => absurd h (by decide), fun h => ?_⟩, HB3.out⟩
   have := (h.2 i hlt).1
   rw [HUe.out] at this
   exact absurd (isB_one HIb.out this) (by decide)
  | true =>
   go_wp2
   go_loopw [4] (fun v wr => ∃ j : Nat, j ≤ u.f5.length ∧ v = .int .i64 j ∧ Azz (∀ q, q < j → (h : q < u.f5.length) → u.f5[q].f2 < us.length) ∧ w3 = wr) (fun v _ => u.f5.length - (RowKit.intOf v).toNat)
   case atStart => exact ⟨0, Nat.zero_le _, rfl, ⟨fun q h => absurd h (Nat.not_lt_zero _)⟩, rfl⟩
   case round =>
    obtain ⟨j, hj, rfl, HJ, rfl⟩ := hrel
    by_cases hjl : j < u.f5.length
    rotate_left
    ·obtain rfl : j = u.f5.length := by omega
     go_wp2
     go_roundw
     case rel =>
      refine ⟨i + 1, by omega, by go_num, ⟨fun q hq h => ?_⟩, HB3⟩
      rcases Nat.eq_or_lt_of_le (Nat.le_of_lt_succ hq) with rfl | hq
      ·have hx : ∀ v, us[q] = v → v = u → IsB (secOf v) true ∧ ∀ j, (h2 : j < v.f5.length) → v.f5[j].f2 < us.length := fun v hv hv2 => by subst hv2; exact ⟨HIb.out, fun j hj => HJ.out j hj hj⟩
       exact hx _ rfl HUe.out
      exact HQ.out q hq h
     case measure => simp [RowKit.intOf]; omega
    obtain ⟨ad5, ea, x0, x1, x2, x3⟩ := P.at_T80 HC5.out j (by omega) (by omega)
    subst ea
    rw [Int.toNat_natCast] at x2
    have e2 : P.rd_T80 u.f5 (j : Int) = u.f5[j] := rd_get _ _ _ hjl
    obtain ⟨z, hz⟩ : ∃ z, u.f5[j].f2 = z := ⟨_, rfl⟩
    rw [e2, hz] at x2
    have hz0 : 0 ≤ z := by
     have hR := (is_iff _).1 HIb.out
     have := rels_syms _ _ _ _ hR.each (relOf u.f5[j]) (List.mem_map_of_mem (List.getElem_mem hjl))
     rw [← hz]
     exact this
    have HZ := Azz.mk hz
    have k0 : (0 : Int) ≤ (j : Int) := by omega
    have k1 : (j : Int) < u.f5.length := by omega
    have b1 : decide (z < 0) = false := dF_ (by omega)
    clear e2 hz x0 x1 x3
    by_cases c1 : (us.length : Int) ≤ z
    ·have b2 : decide ((us.length : Int) ≤ z) = true := dT_ c1
     have HC1 := Azz.mk c1
     clear c1 hz0
     go_wp2
     go_ret
     refine ⟨false, rfl, ⟨fun h => absurd h (by decide), fun h => ?_⟩, HB3.out⟩
     have hx : ∀ v, us[i] = v → (h2 : j < v.f5.length) → v.f5[j].f2 < us.length := fun v hv h2 => by subst hv; exact (h.2 i hlt).2 j h2
     have := hx u HUe.out hjl
     rw [HZ.out] at this
     have := HC1.out
     omega
    have b2 : decide ((us.length : Int) ≤ z) = false := dF_ c1
    have HC1 := Azz.mk c1
    clear c1 hz0
    go_wp2
    go_roundw
    case rel =>
     refine ⟨j + 1, by omega, by go_num, ⟨fun q hq h => ?_⟩, trivial⟩
     rcases Nat.eq_or_lt_of_le (Nat.le_of_lt_succ hq) with rfl | hq
     ·rw [HZ.out]
      have := HC1.out
      omega
     exact HJ.out q hq h
    case measure => simp [RowKit.intOf]; omega
def GuPost (us : List P.S39) (w : World) (e : Ending) (w' : World) : Prop := ∃ b, e = .returned (.bool b) ∧ (b = true ↔ UOk us) ∧ Below w.heap.size w w'
theorem gis_units (us : List P.S39) (A : Option Addr) (c : Nat) (w : World) (hG : Glob w) (hu : UA w A us) (hc : us.length ≤ c) (hn : Narrow us) : Calls Tryz.prog 33 #[.slice A us.length c] w (GuPost us w) := by
 have HU := Azz.mk hu
 have HN := Azz.mk hn
 have HG := Azz.mk hG
 clear hu hn hG
 by_cases hb : us.length ≤ 256
 rotate_left
 ·have b0 : decide ((256 : Int) < us.length) = true := dT_ (by omega)
  go_enter Tryz.func33, Tryz.ntmps33
  go_wp2
  go_ret
  exact ⟨false, rfl, ⟨fun h => absurd h (by decide), fun h => absurd h.1 hb⟩, Below.refl _ _⟩
 have b0 : decide ((256 : Int) < us.length) = false := dF_ (by omega)
 go_enter Tryz.func33, Tryz.ntmps33
 go_wp2
 go_loopw [12] (fun v wr => ∃ i : Nat, i ≤ us.length ∧ v = .int .i64 i ∧ Azz (∀ q, q < i → (h : q < us.length) → IsB (secOf us[q]) true ∧ ∀ j, (h2 : j < us[q].f5.length) → us[q].f5[j].f2 < us.length) ∧ Azz (Below w.heap.size w wr)) (fun v _ => us.length - (RowKit.intOf v).toNat)
 case atStart => exact ⟨0, Nat.zero_le _, rfl, ⟨fun q h => absurd h (Nat.not_lt_zero _)⟩, ⟨Below.refl _ _⟩⟩
 case round =>
  obtain ⟨i, hi, rfl, HQ, HB⟩ := hrel
  by_cases hlt : i < us.length
  rotate_left
  ·obtain rfl : i = us.length := by omega
   go_wp2
   go_ret
   exact ⟨true, rfl, ⟨fun _ => ⟨hb, fun q h => HQ.out q h h⟩, fun _ => rfl⟩, HB.out⟩
  obtain ⟨ad, A5, c5, ea, y0, y1, y2, y3, y4, y5, l5, g5⟩ := P.at_T39 (Kd.C_below HU.out HB.out) i (by omega) (by omega)
  subst ea
  rw [Int.toNat_natCast] at y0 y1 y2 y3 y4 y5
  have e2 : P.rd_T39 us (i : Int) = us[i] := rd_get _ _ _ hlt
  obtain ⟨u, hu⟩ : ∃ u, us[i] = u := ⟨_, rfl⟩
  rw [e2, hu] at y0 y1 y2 y3 y4 y5 l5 g5
  have hnw : u.f5.length ≤ 100000 := by rw [← hu]; exact HN.out hb i hlt
  have HUe := Azz.mk hu
  have HBa := Azz.mk (bAA HB.out (.cells #[.string u.f0, .int .i64 u.f1, .bool u.f2, .int .i64 u.f3, .string u.f4, .slice A5 u.f5.length c5] 39))
  have HX := Azz.mk (blk_new wr (.cells #[.string u.f0, .int .i64 u.f1, .bool u.f2, .int .i64 u.f3, .string u.f4, .slice A5 u.f5.length c5] 39))
  have HC5 := Azz.mk (Kd.C_below g5 (bAA (Below.refl _ wr) (.cells #[.string u.f0, .int .i64 u.f1, .bool u.f2, .int .i64 u.f3, .string u.f4, .slice A5 u.f5.length c5] 39)))
  have i0 : (0 : Int) ≤ (i : Int) := by omega
  have i1 : (i : Int) < us.length := by omega
  clear e2 hu g5
  go_wp2_with fail
  (with_reducible refine (section_any u (by omega) _ A5 c5 HC5.out l5).mono ?_)
  rintro en w2 ⟨A', c', rfl, hl', hC', hbw⟩
  have HB2 := Azz.mk (bTT HBa.out hbw)
  replace HX := Azz.mk (kBB HX.out hbw)
  replace HC5 := Azz.mk (Kd.C_below HC5.out hbw)
  have HIs := pis_sec (secOf u) A' c' w2 (HG.out.below HB2.out) (by simpa [secOf] using hl') (by simpa [secOf] using hC')
  have HIs := Azz.mk (show Calls Tryz.prog 58 #[.agg #[.string u.f0, .int .i64 u.f1, .bool u.f2, .int .i64 u.f3, .string u.f4, .slice A' u.f5.length c']] w2 (RIsPost (secOf u) w2) from by simpa [secOf] using HIs)
  clear hC' hl' hbw HB HBa y0 y1 y2 y3 y4 y5
  go_wp2_with fail
  (with_reducible refine HIs.out.mono ?_)
  rintro en w3 ⟨b, rfl, hib, hbw⟩
  have HB3 := Azz.mk (bTT HB2.out hbw)
  obtain ⟨q0, q1, q2, q3, q4, q5⟩ := cl6 (kBB HX.out hbw)
  clear q0 q1 q2 q3 q4 HX
  replace HC5 := Azz.mk (Kd.C_below HC5.out hbw)
  have HIb := Azz.mk hib
  clear hbw HB2 hib HIs
  cases b with
  | false =>
   go_wp2
   go_ret
   refine ⟨false, rfl, ⟨fun h => absurd h (by decide), fun h => ?_⟩, HB3.out⟩
   have := (h.2 i hlt).1
   rw [HUe.out] at this
   exact absurd (isB_one HIb.out this) (by decide)
  | true =>
   go_wp2
   go_loopw [23] (fun v wr => ∃ j : Nat, j ≤ u.f5.length ∧ v = .int .i64 j ∧ Azz (∀ q, q < j → (h : q < u.f5.length) → u.f5[q].f2 < us.length) ∧ Azz (Below w3.heap.size w3 wr)) (fun v _ => u.f5.length - (RowKit.intOf v).toNat)
   case atStart => exact ⟨0, Nat.zero_le _, rfl, ⟨fun q h => absurd h (Nat.not_lt_zero _)⟩, ⟨Below.refl _ _⟩⟩
   case round =>
    obtain ⟨j, hj, rfl, HJ, HBj⟩ := hrel
    by_cases hjl : j < u.f5.length
    rotate_left
    ·obtain rfl : j = u.f5.length := by omega
     go_wp2
     go_roundw
     case rel =>
      refine ⟨i + 1, by omega, by go_num, ⟨fun q hq h => ?_⟩, ⟨bTT HB3.out HBj.out⟩⟩
      rcases Nat.eq_or_lt_of_le (Nat.le_of_lt_succ hq) with rfl | hq
      ·have hx : ∀ v, us[q] = v → v = u → IsB (secOf v) true ∧ ∀ j, (h2 : j < v.f5.length) → v.f5[j].f2 < us.length := fun v hv hv2 => by subst hv2; exact ⟨HIb.out, fun j hj => HJ.out j hj hj⟩
       exact hx _ rfl HUe.out
      exact HQ.out q hq h
     case measure => simp [RowKit.intOf]; omega
    obtain ⟨ad5, ea, x0, x1, x2, x3⟩ := P.at_T80 (Kd.C_below HC5.out HBj.out) j (by omega) (by omega)
    subst ea
    rw [Int.toNat_natCast] at x0 x1 x2 x3
    have e2 : P.rd_T80 u.f5 (j : Int) = u.f5[j] := rd_get _ _ _ hjl
    obtain ⟨z, hz⟩ : ∃ z, u.f5[j].f2 = z := ⟨_, rfl⟩
    rw [e2, hz] at x2
    have hz0 : 0 ≤ z := by
     have hR := (is_iff _).1 HIb.out
     have := rels_syms _ _ _ _ hR.each (relOf u.f5[j]) (List.mem_map_of_mem (List.getElem_mem hjl))
     rw [← hz]
     exact this
    have HZ := Azz.mk hz
    have k0 : (0 : Int) ≤ (j : Int) := by omega
    have k1 : (j : Int) < u.f5.length := by omega
    have b1 : decide (z < 0) = false := dF_ (by omega)
    clear e2 hz
    by_cases c1 : (us.length : Int) ≤ z
    ·have b2 : decide ((us.length : Int) ≤ z) = true := dT_ c1
     have HC1 := Azz.mk c1
     clear c1 hz0
     go_wp2
     go_ret
     refine ⟨false, rfl, ⟨fun h => absurd h (by decide), fun h => ?_⟩, bAA (bTT HB3.out HBj.out) _⟩
     have hx : ∀ v, us[i] = v → (h2 : j < v.f5.length) → v.f5[j].f2 < us.length := fun v hv h2 => by subst hv; exact (h.2 i hlt).2 j h2
     have := hx u HUe.out hjl
     rw [HZ.out] at this
     have := HC1.out
     omega
    have b2 : decide ((us.length : Int) ≤ z) = false := dF_ c1
    have HC1 := Azz.mk c1
    clear c1 hz0
    go_wp2
    go_roundw
    case rel =>
     refine ⟨j + 1, by omega, by go_num, ⟨fun q hq h => ?_⟩, ⟨bAA HBj.out _⟩⟩
     rcases Nat.eq_or_lt_of_le (Nat.le_of_lt_succ hq) with rfl | hq
     ·rw [HZ.out]
      have := HC1.out
      omega
     exact HJ.out q hq h
    case measure => simp [RowKit.intOf]; omega
theorem isU_calls {us : List P.S39} {b : Bool} (hp : IsU us b) (W : World) (A : Option Addr) (c : Nat) (hG : Glob W) (h : UA W A us) (hc : us.length ≤ c) (hn : Narrow us) :
 Calls Tryz.prog 33 #[.slice A us.length c] W fun x w' => x = .returned (.bool b) ∧ Below W.heap.size W w' := by
 refine (gis_units us A c W hG h hc hn).mono ?_
 rintro e w' ⟨b', rfl, hi, hb⟩
 obtain ⟨b2, h2, hi2⟩ := isU_ends us hn
 have := isU_one hp h2
 subst this
 have e : b' = b := by cases b <;> cases b' <;> simp_all
 subst e
 exact ⟨rfl, hb⟩
end Go.Proofs.YtngmipfodjgmmaaGreatDoor.Pure
end
section
namespace Go.Proofs.YtngmipfodjgmmaaGreatDoor.Pure
open Go Go.RowKit Go.Lib Go.Shelf Wa Wb Wc Go.Proofs.YtngmipfodjgmmaaGreatDoor.Reach
open P (Glob UA nd NdOk Rt SpreadPost spread_in root_at)
abbrev IA (w : World) (A : Option Addr) (xs : List Int) : Prop := Kd.C (Kd.int .i64) w A xs.length xs
theorem spread_calls (w : World) (A A2 : Option Addr) (us : List P.S39) (roots : List Int) (c c2 : Nat) (hu : UA w A us) (hn : NdOk us) (hr : IA w A2 roots) (hrl : roots.length ≤ 100000) (hR : ∀ z ∈ roots, 0 ≤ z ∧ z < us.length) :
 Calls Tryz.prog 56 #[.iface 94 (.slice A us.length c), .slice A2 roots.length c2] w (SpreadPost us roots w) :=
 callsIn_wide.1 (spread_in w A A2 us roots c c2 hu hn hr hrl hR)
def ROk (us : List P.S39) (roots : List Int) : Prop := ∀ z ∈ roots, 0 ≤ z ∧ z < us.length
def ReachPost (us : List P.S39) (roots : List Int) (w : World) (e : Ending) (w' : World) : Prop :=
 Below w.heap.size w w' ∧ ((¬ (UOk us ∧ ROk us roots) ∧ e = .returned (.tuple #[.slice none 0 0, .int .i64 1])) ∨
 (UOk us ∧ ROk us roots ∧ ∃ (sb : Nat) (seen : List Bool), e = .returned (.tuple #[.slice (some ⟨sb, 0, none⟩) seen.length seen.length, .int .i64 0]) ∧ seen.length = us.length ∧ (∀ i, sn seen i ↔ RS (nd us) (Rt roots) i) ∧ w'.heap[sb]? = some (.cells (seen.map Value.bool).toArray 4 (0, 0)) ∧ w.heap.size ≤ sb))
theorem reach_bad {us roots} {w w' : World} (h : ¬ (UOk us ∧ ROk us roots)) (hb : Below w.heap.size w w') : ReachPost us roots w (.returned (.tuple #[.slice none 0 0, .int .i64 1])) w' := ⟨hb, .inl ⟨h, rfl⟩⟩
theorem reach_any (w : World) (A A2 : Option Addr) (us : List P.S39) (roots : List Int) (c c2 : Nat) (hG : Glob w) (hu : UA w A us) (hc : us.length ≤ c) (hn : Narrow us) (hul : us.length ≤ 100000) (hr : IA w A2 roots) (hrl : roots.length ≤ 100000) :
 Calls Tryz.prog 30 #[.slice A us.length c, .slice A2 roots.length c2] w (ReachPost us roots w) := by
 obtain ⟨b, hb, hbi⟩ := isU_ends us hn
 have HI := Azz.mk (isU_calls hb w A c hG hu hc hn)
 have HU := Azz.mk hu
 have HR := Azz.mk hr
 have HBi := Azz.mk hbi
 clear hb hbi hG hu hr hn hc
 cases b with
 | false =>
  go_enter Tryz.func30, Tryz.ntmps30
  go_wp2_with (go_at_call 33; (with_reducible refine HI.out.mono ?_); rintro e w1 ⟨rfl, hb⟩; have HB := Azz.mk hb; clear hb)
  go_ret2
  exact reach_bad (fun h => absurd (HBi.out.2 h.1) (by decide)) HB.out
 | true =>
  have hok : UOk us := HBi.out.1 rfl
  have HN := Azz.mk hok
  clear hok HBi
  go_enter Tryz.func30, Tryz.ntmps30
  go_wp2_with (go_at_call 33; (with_reducible refine HI.out.mono ?_); rintro e w1 ⟨rfl, hb⟩; have HB := Azz.mk hb; clear hb HI)
  go_loopw [13] (fun v wr => ∃ i : Nat, i ≤ roots.length ∧ v = .int .i64 i ∧ Azz (∀ j, j < i → 0 ≤ roots.getD j 0 ∧ roots.getD j 0 < us.length) ∧ w1 = wr) (fun v _ => roots.length - (RowKit.intOf v).toNat)
  case atStart => exact ⟨0, Nat.zero_le _, rfl, ⟨fun j hj => absurd hj (Nat.not_lt_zero _)⟩, rfl⟩
  case round =>
   obtain ⟨i, hi, rfl, HP, rfl⟩ := hrel
   by_cases hlt : i < roots.length
   ·obtain ⟨ad, e, hx⟩ := root_at w1 A2 roots (Kd.C_below HR.out HB.out) i hlt
    cases e
    obtain ⟨z, hz⟩ : ∃ z, roots.getD i 0 = z := ⟨_, rfl⟩
    have hm : z ∈ roots := by rw [← hz, List.getD_eq_getElem?_getD, List.getElem?_eq_getElem hlt]; exact List.getElem_mem hlt
    have HZ := Azz.mk (And.intro hz hm)
    rw [hz] at hx
    clear hz hm
    by_cases h1 : z < 0
    ·go_wp2
     go_ret2
     exact reach_bad (fun h => by have := h.2 z HZ.out.2; omega) HB.out
    by_cases h2 : (us.length : Int) ≤ z
    ·go_wp2
     go_ret2
     exact reach_bad (fun h => by have := h.2 z HZ.out.2; omega) HB.out
    go_wp2
    go_roundw
    case rel =>
     refine ⟨i + 1, by omega, by go_num, ⟨fun j hj => ?_⟩, trivial⟩
     by_cases e : j = i
     ·rw [e, HZ.out.1]; omega
     exact HP.out j (by omega)
    case measure => simp [RowKit.intOf]; omega
   obtain rfl : i = roots.length := by omega
   have HRk : Azz (ROk us roots) := ⟨fun z hz => by
    obtain ⟨j, hj, e⟩ := List.getElem_of_mem hz
    have := HP.out j hj
    rw [List.getD_eq_getElem?_getD, List.getElem?_eq_getElem hj, Option.getD_some, e] at this
    exact this⟩
   have HS := Azz.mk (spread_calls w1 A A2 us roots c c2 (Kd.C_below HU.out HB.out) (nd_ok HN.out) (Kd.C_below HR.out HB.out) hrl HRk.out)
   clear HP hlt hi
   go_wp2_with (go_at_call 56; (with_reducible refine HS.out.mono ?_); rintro e w2 ⟨sb, seen, rfl, h1, h2, h3, h4, h5⟩; have HX := Azz.mk (And.intro h1 (And.intro h2 (And.intro h3 (And.intro h4 h5)))); clear h1 h2 h3 h4 h5)
   go_ret2
   obtain ⟨h1, h2, h3, h4, h5⟩ := HX.out
   exact ⟨bTT HB.out h4, .inr ⟨HN.out, HRk.out, sb, seen, rfl, h1, h2, h3, Nat.le_trans HB.out.size h5⟩⟩
end Go.Proofs.YtngmipfodjgmmaaGreatDoor.Pure
end
section
namespace Go.Proofs.YtngmipfodjgmmaaGreatDoor.P
open Go.RowKit Wa Wb Wc
attribute [local go_sem] max2_int min2_int max_two min_two max_three min_three max_four min_four
def cleatlaw21_quads.l0 : Nat → List Int → Int → ByteArray → Int → Bool → Int → ByteArray → List (S80) → Option (ByteArray × Int × Bool × Int × ByteArray × (List (S80)))
 | 0, _, _, _, _, _, _, _, _ => none
 | k + 1, x1, x6, x521000, x521001, x521002, x521003, x521004, x521005 => if x6 < (x1.length : Int) then (if x521004.size + 8 ≤ 9223372036854775807 then (if 0 ≤ x6 then (if x521005.length < 4398046511104 then (cleatlaw21_quads.l0 k x1 (wrap64 (x6 + 1)) x521000 x521001 x521002 x521003 (x521004 ++ (⟨#[0, 0, 0, 0, 0, 0, 0, 0]⟩ : ByteArray)) (x521005 ++ [(⟨wrap64 (8 * x6), 1, rd x1 x6, 0⟩ : S80)])) else (none)) else (none)) else (none)) else (some (x521000, x521001, x521002, x521003, x521004, x521005))
def cleatlaw21_quads.f (k : Nat) (a0 : ByteArray) (l1 : List Int) : Option (ByteArray × Int × Bool × Int × ByteArray × (List (S80))) := cleatlaw21_quads.l0 k l1 0 a0 2 false 0 (⟨#[]⟩ : ByteArray) ([] : List (S80))
end Go.Proofs.YtngmipfodjgmmaaGreatDoor.P
end
section
namespace Go.Proofs.YtngmipfodjgmmaaGreatDoor.Pure
open Go Go.RowKit Go.Lib Go.Shelf Wa Wb Wc Go.Proofs.YtngmipfodjgmmaaGreatDoor.Reach
open P (Glob UA nd ndI NdOk Rt root_at)
def BB (w : World) (b : Nat) (l : List Bool) : Prop := w.heap[b]? = some (.cells (l.map Value.bool).toArray 4 (0, 0))
theorem BB.below {w w1 : World} {b : Nat} {l : List Bool} (h : BB w b l) (hb : Below w.heap.size w w1) : BB w1 b l := kBB h hb
theorem BB.cell {w : World} {b : Nat} {l : List Bool} (h : BB w b l) (k : Nat) (hk : k < l.length) : w.cell? ⟨b, k, none⟩ = some (.bool (l.getD k false)) := by
 refine (kCC h k).trans ?_
 simp [List.getD_eq_getElem?_getD, List.getElem?_eq_getElem hk]
theorem BB.frozen {w : World} {b : Nat} {l : List Bool} (h : BB w b l) (k : Nat) : w.frozen? ⟨b, k, none⟩ = false := kFF h k
theorem BB.set {w : World} {b : Nat} {l : List Bool} (h : BB w b l) (k : Nat) (v : Bool) : BB (w.setCell ⟨b, k, none⟩ (.bool v)) b (l.set k v) := by
 obtain ⟨hlt, hk2⟩ := Array.getElem?_eq_some_iff.1 h
 show (w.heap.modify b _)[b]? = _
 rw [Array.getElem?_eq_getElem (by rw [Array.size_modify]; exact hlt), Array.getElem_modify_self, hk2]
 simp [List.map_set]
theorem info_bool1 : (Tryz.prog.info? 4).map (fun i => (i.zero, i.size, i.bytes)) = some (some (.bool false), 1, 1) := by kernel_rfl
theorem make_bools (n : Nat) (hn : n ≤ 100000) (W : World) : (Instr.makeSlice 23 (.int .i64 (n : Int)) (.int .i64 (n : Int))).run Tryz.prog W = .ok (.slice (some ⟨W.heap.size, 0, none⟩) n n) (W.alloc (.cells (madeCells #[.bool false] n) 4)) :=
 run_make_row' (P := Tryz.prog) 23 4 (.bool false) 1 Tryz.underlying23 info_bool1 rfl .i64 .i64 n (by omega) (by omega) W
theorem made_bb (n : Nat) (W : World) : BB (W.alloc (.cells (madeCells #[.bool false] n) 4)) W.heap.size (List.replicate n false) := by
 have : madeCells #[.bool false] n = ((List.replicate n false).map Value.bool).toArray := by
  refine Array.ext (by simp [madeCells]) fun i h1 h2 => ?_
  simp [madeCells, Nat.mod_one]
 rw [this]
 exact blk_new _ _
structure Sd (nd : Nat → List Nat) (R : Nat → Prop) (n : Nat) (bl : List Bool) : Prop where
 len : bl.length = n
 sound : ∀ i, sn bl i → RS nd R i
def Cl (nd : Nat → List Nat) (bl : List Bool) : Prop := ∀ i, sn bl i → ∀ j ∈ nd i, sn bl j
theorem Sd.done {nd R n bl} (h : Sd nd R n bl) (hr : ∀ i, R i → sn bl i) (hc : Cl nd bl) (i : Nat) : sn bl i ↔ RS nd R i := by
 refine ⟨h.sound i, fun k => ?_⟩
 induction k with
 | root k => exact hr _ k
 | step _ hj ih => exact hc _ ih _ hj
theorem Sd.set {nd R n bl k} (h : Sd nd R n bl) (hk : k < n) (hr : RS nd R k) : Sd nd R n (bl.set k true) :=
 ⟨by rw [List.length_set]; exact h.len, fun i hi => ((sn_set (by rw [h.len]; exact hk) i).1 hi).elim (fun e => e ▸ hr) (h.sound i)⟩
theorem Sd.start (nd R n) : Sd nd R n (List.replicate n false) := ⟨List.length_replicate, fun i h => by
 unfold sn at h
 rw [List.getD_eq_getElem?_getD, List.getElem?_replicate] at h
 split at h <;> cases h⟩
structure Go1 (us : List P.S39) (roots : List Int) (b0 : List Bool) (i k : Nat) (bl : List Bool) (t : Bool) : Prop where
 sd : Sd (nd us) (Rt roots) us.length bl
 up : ∀ j, sn b0 j → sn bl j
 less : t = true → bl.count false < b0.count false
 same : t = false → bl = b0
 done : t = false → (∀ a, a < i → sn bl a → ∀ j ∈ nd us a, sn bl j) ∧ ∀ q, q < k → sn bl i → sn bl ((nd us i).getD q 0)
 cnt : bl.count false ≤ b0.count false
theorem Go1.start {us roots b0} (h : Sd (nd us) (Rt roots) us.length b0) : Go1 us roots b0 0 0 b0 false :=
 ⟨h, fun _ h => h, fun h => (by cases h), fun _ => rfl, fun _ => ⟨fun a h => absurd h (Nat.not_lt_zero _), fun q h => absurd h (Nat.not_lt_zero _)⟩, Nat.le_refl _⟩
theorem Go1.next {us roots b0 i bl t} (h : Go1 us roots b0 i (nd us i).length bl t) : Go1 us roots b0 (i + 1) 0 bl t :=
 ⟨h.sd, h.up, h.less, h.same, fun e => ⟨fun a ha hs j hj => by
  rcases Nat.eq_or_lt_of_le (Nat.le_of_lt_succ ha) with rfl | c
  ·obtain ⟨q, hq, rfl⟩ := List.getElem_of_mem hj
   have := (h.done e).2 q hq hs
   rw [List.getD_eq_getElem?_getD, List.getElem?_eq_getElem hq] at this
   exact this
  exact (h.done e).1 a c hs j hj, fun q h => absurd h (Nat.not_lt_zero _)⟩, h.cnt⟩
theorem Go1.new {us roots b0 i k bl t} (h : Go1 us roots b0 i k bl t) (hk : k < (nd us i).length) (hz : (nd us i).getD k 0 < us.length) (h1 : sn bl i) (h2 : ¬ sn bl ((nd us i).getD k 0)) : Go1 us roots b0 i (k + 1) (bl.set ((nd us i).getD k 0) true) true := by
 have hm : (nd us i).getD k 0 ∈ nd us i := by rw [List.getD_eq_getElem?_getD, List.getElem?_eq_getElem hk]; exact List.getElem_mem hk
 have hl : (nd us i).getD k 0 < bl.length := by rw [h.sd.len]; exact hz
 have hc := count_set hl h2
 exact ⟨h.sd.set hz (.step (h.sd.sound i h1) hm), fun j hj => (sn_set hl j).2 (.inr (h.up j hj)), fun _ => (by have := h.cnt; omega), fun e => (by cases e), fun e => (by cases e), by have := h.cnt; omega⟩
theorem Go1.closed {us roots b0 bl} (h : Go1 us roots b0 us.length 0 bl false) : Cl (nd us) bl := fun i hi j hj => (h.done rfl).1 i (by have := sn_lt hi; rw [h.sd.len] at this; exact this) hi j hj
end Go.Proofs.YtngmipfodjgmmaaGreatDoor.Pure
end
