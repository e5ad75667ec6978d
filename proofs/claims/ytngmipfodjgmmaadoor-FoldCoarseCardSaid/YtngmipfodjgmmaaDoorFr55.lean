/- Walks and plain laws of this claim, a part. -/
import Derived.Test.YtngmipfodjgmmaaDoorFr50
import Derived.Test.YtngmipfodjgmmaaDoorFr51
import Derived.Test.YtngmipfodjgmmaaDoorFr52
import Derived.Test.YtngmipfodjgmmaaDoorFr53
section
namespace Go.Proofs.YtngmipfodjgmmaaDoor.Pure
open Go Go.RowKit Go.Proofs.YtngmipfodjgmmaaDoorW.PrintWords Go.Proofs.YtngmipfodjgmmaaDoorW.PrintLast Go.Proofs.YtngmipfodjgmmaaDoorW.PrintMore
set_option linter.unusedVariables false
set_option linter.unusedSimpArgs false
def rkey (r : P.S64) : Int × Int × Int := (r.f0, r.f1, r.f3)
/-- Two units are alike. -/
def alikeU (x y : P.S36) : Bool := decide (x.f1 = 1 ∧ y.f1 = 1 ∧ x.f4.toList = y.f4.toList ∧ x.f5.map rkey = y.f5.map rkey)
theorem alikeU_iff {x y : P.S36} : alikeU x y = true ↔ x.f1 = 1 ∧ y.f1 = 1 ∧ x.f4.toList = y.f4.toList ∧ x.f5.map rkey = y.f5.map rkey := decide_eq_true_iff
theorem alikeU_symm {x y : P.S36} (h : alikeU x y = true) : alikeU y x = true := by
 rw [alikeU_iff] at h ⊢
 exact ⟨h.2.1, h.1, h.2.2.1.symm, h.2.2.2.symm⟩
theorem alikeU_trans {x y z : P.S36} (h : alikeU x y = true) (k : alikeU y z = true) : alikeU x z = true := by
 rw [alikeU_iff] at h k ⊢
 exact ⟨h.1, k.2.1, h.2.2.1.trans k.2.2.1, h.2.2.2.trans k.2.2.2⟩
theorem alikeU_length {x y : P.S36} (h : alikeU x y = true) : x.f5.length = y.f5.length := by
 have := congrArg List.length (alikeU_iff.1 h).2.2.2
 simpa using this
theorem alike_ev (x y : P.S36) (hx : x.f5.length ≤ 100000) : Ev (fun k => P.fold_Alike.f k x.f0 x.f1 x.f2 x.f3 x.f4 x.f5 y.f0 y.f1 y.f2 y.f3 y.f4 y.f5) (alikeU x y) := by
 have no : ∀ (h : alikeU x y = false), Ev (fun k => P.fold_Alike.j0 k true x.f0 x.f1 x.f2 x.f3 x.f4 x.f5 y.f0 y.f1 y.f2 y.f3 y.f4 y.f5) (alikeU x y) := fun h => by
  rw [h]
  exact Ev.step (fun k => P.fold_Alike.j0.eq_2 _ _ _ _ _ _ _ _ _ _ _ _ _ _) (Ev.congr (fun k => if_pos rfl) (Ev.now _))
 unfold P.fold_Alike.f
 by_cases h1 : x.f1 = 1
 ·by_cases h2 : y.f1 = 1
  ·by_cases h3 : x.f4.toList = y.f4.toList
   ·by_cases h4 : x.f5.length = y.f5.length
    ·have go : ∀ (d i : Nat), i + d = x.f5.length → Ev (fun k => P.fold_Alike.l0 k x.f5 (x.f5.length : Int) (i : Int) y.f0 y.f1 y.f2 y.f3 y.f4 y.f5) (decide ((x.f5.drop i).map rkey = (y.f5.drop i).map rkey)) := by
      intro d
      induction d with
      | zero =>
       intro i hi
       refine Ev.step (fun k => P.fold_Alike.l0.eq_2 _ _ _ _ _ _ _ _ _ _) (Ev.congr (fun k => if_neg (by omega)) ?_)
       rw [List.drop_of_length_le (by omega), List.drop_of_length_le (by omega)]
       exact Ev.now _
      | succ d ih =>
       intro i hi
       have e1 : wrap64 ((i : Int) + 1) = ((i + 1 : Nat) : Int) := by rw [wrap64_small _ (by omega) (by omega)]; rfl
       have hx1 : i < x.f5.length := by omega
       have hy1 : i < y.f5.length := by omega
       have e2 : P.rd_T64 x.f5 (i : Int) = x.f5[i] := rd_get _ _ _ hx1
       have e3 : P.rd_T64 y.f5 (i : Int) = y.f5[i] := rd_get _ _ _ hy1
       refine Ev.step (fun k => P.fold_Alike.l0.eq_2 _ _ _ _ _ _ _ _ _ _) (Ev.congr (fun k => if_pos (by omega)) (Ev.congr (fun k => if_pos (by omega)) (Ev.congr (fun k => if_pos (by omega)) (Ev.congr (fun k => if_pos (by omega)) ?_))))
       rw [e1, e2, e3, List.drop_eq_getElem_cons hx1, List.drop_eq_getElem_cons hy1]
       have off : rkey x.f5[i] ≠ rkey y.f5[i] → Ev (fun _ => some false) (decide ((x.f5[i] :: x.f5.drop (i + 1)).map rkey = (y.f5[i] :: y.f5.drop (i + 1)).map rkey)) := fun hne => by
        rw [List.map_cons, List.map_cons, decide_eq_false (fun h => hne (List.cons.inj h).1)]
        exact Ev.now _
       by_cases a : (x.f5[i]).f0 = (y.f5[i]).f0
       ·refine Ev.congr (fun k => if_pos a) ?_
        by_cases b : (x.f5[i]).f1 = (y.f5[i]).f1
        ·refine Ev.congr (fun k => if_pos b) ?_
         by_cases c : (x.f5[i]).f3 = (y.f5[i]).f3
         ·refine Ev.congr (fun k => if_pos c) ?_
          have e : decide ((x.f5[i] :: x.f5.drop (i + 1)).map rkey = (y.f5[i] :: y.f5.drop (i + 1)).map rkey) = decide ((x.f5.drop (i + 1)).map rkey = (y.f5.drop (i + 1)).map rkey) := by
           have hk : rkey x.f5[i] = rkey y.f5[i] := by unfold rkey; rw [a, b, c]
           rw [List.map_cons, List.map_cons, hk]
           exact decide_eq_decide.2 ⟨fun h => (List.cons.inj h).2, fun h => by rw [h]⟩
          rw [e]
          exact ih (i + 1) (by omega)
         ·exact Ev.congr (fun k => if_neg c) (off (fun h => c (congrArg (·.2.2) h)))
        ·exact Ev.congr (fun k => if_neg b) (off (fun h => b (congrArg (·.2.1) h)))
       ·exact Ev.congr (fun k => if_neg a) (off (fun h => a (congrArg (·.1) h)))
     have h5 : ((x.f5.length : Int) != (y.f5.length : Int)) = false := by rw [h4]; simp
     refine Ev.congr (fun k => if_pos h1) (Ev.congr (fun k => if_pos h2) (Ev.congr (fun k => if_pos h3) ?_))
     rw [h5]
     refine Ev.step (fun k => P.fold_Alike.j0.eq_2 _ _ _ _ _ _ _ _ _ _ _ _ _ _) (Ev.congr (fun k => if_neg (by decide)) ?_)
     have e : alikeU x y = decide ((x.f5.drop 0).map rkey = (y.f5.drop 0).map rkey) := by
      unfold alikeU
      exact decide_eq_decide.2 ⟨fun h => h.2.2.2, fun h => ⟨h1, h2, h3, h⟩⟩
     rw [e]
     exact go x.f5.length 0 (by omega)
    ·have h5 : ((x.f5.length : Int) != (y.f5.length : Int)) = true := bne_iff_ne.mpr (by omega)
     refine Ev.congr (fun k => if_pos h1) (Ev.congr (fun k => if_pos h2) (Ev.congr (fun k => if_pos h3) ?_))
     rw [h5]
     exact no (Bool.eq_false_iff.2 fun h => h4 (alikeU_length h))
   ·exact Ev.congr (fun k => if_pos h1) (Ev.congr (fun k => if_pos h2) (Ev.congr (fun k => if_neg h3) (no (Bool.eq_false_iff.2 fun h => h3 (alikeU_iff.1 h).2.2.1))))
  ·exact Ev.congr (fun k => if_pos h1) (Ev.congr (fun k => if_neg h2) (no (Bool.eq_false_iff.2 fun h => h2 (alikeU_iff.1 h).2.1)))
 ·exact Ev.congr (fun k => if_neg h1) (no (Bool.eq_false_iff.2 fun h => h1 (alikeU_iff.1 h).1))
/-- Two rows of numbers are one. -/
theorem equal_ev (a b : List Int) (hl : a.length ≤ 100000) : Ev (fun k => P.slices_Equal_int_int.f k a b) (decide (a = b)) := by
 unfold P.slices_Equal_int_int.f
 by_cases h : a.length = b.length
 ·have go : ∀ (d i : Nat), i + d = a.length → Ev (fun k => P.slices_Equal_int_int.l0 k a b (a.length : Int) (i : Int)) (decide (a.drop i = b.drop i)) := by
   intro d
   induction d with
   | zero =>
    intro i hi
    refine Ev.step (fun k => P.slices_Equal_int_int.l0.eq_2 _ _ _ _ _) (Ev.congr (fun k => if_neg (by omega)) ?_)
    rw [List.drop_of_length_le (by omega), List.drop_of_length_le (by omega)]
    exact Ev.now _
   | succ d ih =>
    intro i hi
    have e1 : wrap64 ((i : Int) + 1) = ((i + 1 : Nat) : Int) := by rw [wrap64_small _ (by omega) (by omega)]; rfl
    have hx1 : i < a.length := by omega
    have hy1 : i < b.length := by omega
    have e2 : rd a (i : Int) = a[i] := rd_get _ _ _ hx1
    have e3 : rd b (i : Int) = b[i] := rd_get _ _ _ hy1
    refine Ev.step (fun k => P.slices_Equal_int_int.l0.eq_2 _ _ _ _ _) (Ev.congr (fun k => if_pos (by omega)) (Ev.congr (fun k => if_pos (by omega)) (Ev.congr (fun k => if_pos (by omega)) (Ev.congr (fun k => if_pos (by omega)) ?_))))
    rw [e1, e2, e3, List.drop_eq_getElem_cons hx1, List.drop_eq_getElem_cons hy1]
    by_cases c : a[i] = b[i]
    ·refine Ev.congr (fun k => if_pos c) ?_
     rw [c, decide_eq_decide.2 (⟨fun h => (List.cons.inj h).2, fun h => by rw [h]⟩ : (b[i] :: a.drop (i + 1) = b[i] :: b.drop (i + 1)) ↔ a.drop (i + 1) = b.drop (i + 1))]
     exact ih (i + 1) (by omega)
    ·refine Ev.congr (fun k => if_neg c) ?_
     rw [decide_eq_false (fun h => c (List.cons.inj h).1)]
     exact Ev.now _
  exact Ev.congr (fun k => if_pos (by omega)) (go a.length 0 (by omega))
 ·refine Ev.congr (fun k => if_neg (by omega)) ?_
  rw [decide_eq_false (fun e => h (by rw [e]))]
  exact Ev.now _
end Go.Proofs.YtngmipfodjgmmaaDoor.Pure
end
section
namespace Go.Proofs.YtngmipfodjgmmaaDoor.Pure
open Go Go.RowKit Go.Lib Go.Shelf Go.Proofs.YtngmipfodjgmmaaDoorW.PrintWords Go.Proofs.YtngmipfodjgmmaaDoorW.PrintLast Go.Proofs.YtngmipfodjgmmaaDoorW.PrintMore Go.Proofs.YtngmipfodjgmmaaDoor.Reach
open P (Glob UA nd NdOk Rt SpreadPost spread_in root_at)
set_option linter.unusedVariables false
set_option linter.unusedSimpArgs false
abbrev IA (w : World) (A : Option Addr) (xs : List Int) : Prop := Kd.C (Kd.int .i64) w A xs.length xs
theorem isU_calls {us : List P.S36} {b : Bool} (hp : IsU us b) (W : World) (A : Option Addr) (c : Nat) (hG : Glob W) (h : UA W A us) (hc : us.length ≤ c) :
 Calls Tryd.prog 15 #[.slice A us.length c] W fun x w' => x = .returned (.bool b) ∧ Below W.heap.size W w' := by
 obtain ⟨K, hK⟩ := hp
 exact P.graph_Is.calls K A c us b W hG h hc (hK K (Nat.le_refl _))
theorem spread_calls (w : World) (A A2 : Option Addr) (us : List P.S36) (roots : List Int) (c c2 : Nat) (hu : UA w A us) (hn : NdOk us) (hr : IA w A2 roots) (hrl : roots.length ≤ 100000) (hR : ∀ z ∈ roots, 0 ≤ z ∧ z < us.length) :
 Calls Tryd.prog 47 #[.iface 89 (.slice A us.length c), .slice A2 roots.length c2] w (SpreadPost us roots w) :=
 callsIn_wide.1 (spread_in w A A2 us roots c c2 hu hn hr hrl hR)
/-- The roots are units. -/
def ROk (us : List P.S36) (roots : List Int) : Prop := ∀ z ∈ roots, 0 ≤ z ∧ z < us.length
def ReachPost (us : List P.S36) (roots : List Int) (w : World) (e : Ending) (w' : World) : Prop :=
 Below w.heap.size w w' ∧ ((¬ (UOk us ∧ ROk us roots) ∧ e = .returned (.tuple #[.slice none 0 0, .int .i64 1])) ∨
 (UOk us ∧ ROk us roots ∧ ∃ (sb : Nat) (seen : List Bool), e = .returned (.tuple #[.slice (some ⟨sb, 0, none⟩) seen.length seen.length, .int .i64 0]) ∧ seen.length = us.length ∧ (∀ i, sn seen i ↔ RS (nd us) (Rt roots) i) ∧ w'.heap[sb]? = some (.cells (seen.map Value.bool).toArray 4 (0, 0)) ∧ w.heap.size ≤ sb))
theorem reach_bad {us roots} {w w' : World} (h : ¬ (UOk us ∧ ROk us roots)) (hb : Below w.heap.size w w') : ReachPost us roots w (.returned (.tuple #[.slice none 0 0, .int .i64 1])) w' := ⟨hb, .inl ⟨h, rfl⟩⟩
set_option maxRecDepth 100000 in
set_option maxHeartbeats 2000000 in
theorem reach_any (w : World) (A A2 : Option Addr) (us : List P.S36) (roots : List Int) (c c2 : Nat) (hG : Glob w) (hu : UA w A us) (hc : us.length ≤ c) (hn : Narrow us) (hul : us.length ≤ 100000) (hr : IA w A2 roots) (hrl : roots.length ≤ 100000) :
 Calls Tryd.prog 26 #[.slice A us.length c, .slice A2 roots.length c2] w (ReachPost us roots w) := by
 obtain ⟨b, hb, hbi⟩ := isU_ends us hn
 have HI := Azz.mk (isU_calls hb w A c hG hu hc)
 have HU := Azz.mk hu
 have HR := Azz.mk hr
 have HBi := Azz.mk hbi
 clear hb hbi hG hu hr hn hc
 cases b with
 | false =>
  go_enter Tryd.func26, Tryd.ntmps26
  go_wp2_with (go_at_call 15; (with_reducible refine HI.out.mono ?_); rintro e w1 ⟨rfl, hb⟩; have HB := Azz.mk hb; clear hb)
  go_ret2
  exact reach_bad (fun h => absurd (HBi.out.2 h.1) (by decide)) HB.out
 | true =>
  have hok : UOk us := HBi.out.1 rfl
  have HN := Azz.mk hok
  clear hok HBi
  go_enter Tryd.func26, Tryd.ntmps26
  go_wp2_with (go_at_call 15; (with_reducible refine HI.out.mono ?_); rintro e w1 ⟨rfl, hb⟩; have HB := Azz.mk hb; clear hb HI)
  go_loopw [13] (fun v wr => ∃ i : Nat, i ≤ roots.length ∧ v = .int .i64 i ∧ Azz (∀ j, j < i → 0 ≤ roots.getD j 0 ∧ roots.getD j 0 < us.length) ∧ w1 = wr) (fun v _ => roots.length - (RowKit.intOf v).toNat)
  case atStart => exact ⟨0, Nat.zero_le _, rfl, ⟨fun j hj => absurd hj (Nat.not_lt_zero _)⟩, rfl⟩
  case round =>
   obtain ⟨i, hi, rfl, HP, rfl⟩ := hrel
   by_cases hlt : i < roots.length
   ·obtain ⟨ad, e, hx⟩ := root_at w1 A2 roots (Kd.C_below HR.out HB.out) i hlt
    cases e
    obtain ⟨z, hz⟩ : ∃ z, roots.getD i 0 = z := ⟨_, rfl⟩
    have hm : z ∈ roots := by rw [← hz, List.getD_eq_getElem?_getD, List.getElem?_eq_getElem hlt]; exact List.getElem_mem hlt
    have HZ := Azz.mk (And.intro hz hm)
    rw [hz] at hx
    clear hz hm
    by_cases h1 : z < 0
    ·go_wp2
     go_ret2
     exact reach_bad (fun h => by have := h.2 z HZ.out.2; omega) HB.out
    ·by_cases h2 : (us.length : Int) ≤ z
     ·go_wp2
      go_ret2
      exact reach_bad (fun h => by have := h.2 z HZ.out.2; omega) HB.out
     ·go_wp2
      go_roundw
      case rel =>
       refine ⟨i + 1, by omega, by go_num, ⟨fun j hj => ?_⟩, trivial⟩
       by_cases e : j = i
       ·rw [e, HZ.out.1]; omega
       ·exact HP.out j (by omega)
      case measure => simp [RowKit.intOf]; omega
   ·obtain rfl : i = roots.length := by omega
    have HRk : Azz (ROk us roots) := ⟨fun z hz => by
     obtain ⟨j, hj, e⟩ := List.getElem_of_mem hz
     have := HP.out j hj
     rw [List.getD_eq_getElem?_getD, List.getElem?_eq_getElem hj, Option.getD_some, e] at this
     exact this⟩
    have HS := Azz.mk (spread_calls w1 A A2 us roots c c2 (Kd.C_below HU.out HB.out) (nd_ok HN.out) (Kd.C_below HR.out HB.out) hrl HRk.out)
    clear HP hlt hi
    go_wp2_with (go_at_call 47; (with_reducible refine HS.out.mono ?_); rintro e w2 ⟨sb, seen, rfl, h1, h2, h3, h4, h5⟩; have HX := Azz.mk (And.intro h1 (And.intro h2 (And.intro h3 (And.intro h4 h5)))); clear h1 h2 h3 h4 h5)
    go_ret2
    obtain ⟨h1, h2, h3, h4, h5⟩ := HX.out
    exact ⟨bTT HB.out h4, .inr ⟨HN.out, HRk.out, sb, seen, rfl, h1, h2, h3, Nat.le_trans HB.out.size h5⟩⟩
end Go.Proofs.YtngmipfodjgmmaaDoor.Pure
end
