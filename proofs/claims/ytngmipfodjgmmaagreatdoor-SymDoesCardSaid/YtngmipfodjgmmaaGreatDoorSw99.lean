/- Walks and plain laws of this claim, a part. -/
import Derived.Test.YtngmipfodjgmmaaGreatDoorSw95
import Derived.Test.YtngmipfodjgmmaaGreatDoorChecked
import Derived.Test.YtngmipfodjgmmaaGreatDoorRows
import Derived.LaidMore
import Derived.LaidLaws
import Derived.MakeChecks
import Derived.Lib.LaidU8
set_option maxRecDepth 100000
set_option maxHeartbeats 8000000
set_option linter.unusedVariables false
set_option linter.unusedSimpArgs false
section
namespace Go.Proofs.YtngmipfodjgmmaaGreatDoor.Pure
open Go Go.RowKit Go.Lib Go.Shelf YtngmipfodjgmmaaGreatDoorW.PrintWords YtngmipfodjgmmaaGreatDoorW.PrintLast YtngmipfodjgmmaaGreatDoorW.PrintMore
def RResPost (os : List Ob) (w : World) (e : Ending) (w' : World) : Prop := Below w.heap.size w w' ∧ ((∃ c o k, Flt os c o k ∧ e = .returned (.tuple #[.slice none 0 0, .agg #[.int .i64 c, .int .i64 o, .int .i64 k]])) ∨
 (AllOkO os ∧ NoTw os os.length 0 ∧ NoLost os os.length 0 ∧ ∃ A cp, e = .returned (.tuple #[.slice A os.length cp, .agg #[.int .i64 0, .int .i64 0, .int .i64 0]]) ∧ os.length ≤ cp ∧ Kd.C kRows w' A os.length (rowsOf os)))
theorem rres_bad {os : List Ob} {c o k : Int} (h : Flt os c o k) {w w' : World} (hb : Below w.heap.size w w') : RResPost os w (.returned (.tuple #[.slice none 0 0, .agg #[.int .i64 c, .int .i64 o, .int .i64 k]])) w' := ⟨hb, .inl ⟨c, o, k, h, rfl⟩⟩
def rowsTo (os : List Ob) (i : Nat) : List (List Pl) := (List.range i).map fun i => plRow os i (nsy os i)
theorem rowsTo_succ (os : List Ob) (i : Nat) : rowsTo os (i + 1) = rowsTo os i ++ [plRow os i (nsy os i)] := by
 unfold rowsTo
 rw [List.range_succ, List.map_append]
 rfl
theorem rowsTo_len (os : List Ob) (i : Nat) : (rowsTo os i).length = i := by simp [rowsTo]
abbrev RowsR (W : World) (B : Nat) (v : Value) (l : List (List Pl)) : Prop := Kd.R kRows 90 W B (fun _ => True) v l
theorem plS_own {os : List Ob} {o k : Nat} {s : Sy} (h : syN os o k = s) (hb : s.f1 = 1) : plS os o k = ⟨(o : Int), s.f2, s.f3⟩ := by unfold plS; rw [h, if_pos hb]
theorem plS_far {os : List Ob} {o k : Nat} {s : Sy} (h : syN os o k = s) (hb : s.f1 ≠ 1) : plS os o k = ((placeT os s.f0).map plOf).getD ⟨0, 0, 0⟩ := by unfold plS placeS; rw [h, if_neg hb]
theorem R_set3 {α : Type} {d : Kd α} {e B : Nat} {ok : Nat → Prop} {v : Value} {xs : List α} {W : World} (h : d.R e W B ok v xs) {g : Nat} {a b c : Value} (hb : W.heap[g]? = some (.cells #[a, b, c] 45 (0, 0))) (ht : ∀ q, q ∈ e :: d.E → q ≠ 45) (x y z : Value) : d.R e (((W.setCell ⟨g, 0, none⟩ x).setCell ⟨g, 1, none⟩ y).setCell ⟨g, 2, none⟩ z) B ok v xs := by
 have one : ∀ (w : World) (cs : Array Value) (i : Nat) (v : Value), w.heap[g]? = some (.cells cs 45 (0, 0)) → (w.setCell ⟨g, i, none⟩ v).heap[g]? = some (.cells (cs.setIfInBounds i v) 45 (0, 0)) := by
  intro w cs i v h
  obtain ⟨hlt, hk2⟩ := Array.getElem?_eq_some_iff.1 h
  show (w.heap.modify g _)[g]? = _
  rw [Array.getElem?_eq_getElem (by rw [Array.size_modify]; exact hlt), Array.getElem_modify_self, hk2]
  simp
 exact Kd.R_set (Kd.R_set (Kd.R_set h hb ht 0 x) (one _ _ 0 x hb) ht 1 y) (one _ _ 1 y (one _ _ 0 x hb)) ht 2 z
theorem rresolve_any (w : World) (A : Option Addr) (c : Nat) (os : List Ob) (hos : OA w A os) (hc : os.length ≤ c) (hf : FewL os) :
 Calls Tryz.prog 21 #[.slice A os.length c] w (RResPost os w) := by
 have HO := Azz.mk hos
 have HF := Azz.mk hf
 have hol := hf.1
 have HB0 := Azz.mk ((Below.refl w.heap.size w).alloc (Nat.le_refl _) (.cells #[.int .i64 0, .int .i64 0, .int .i64 0] 45))
 clear hos hf
 go_enter Tryz.func21, Tryz.ntmps21
 go_wp2_with fail
 (with_reducible refine (rchk_any _ A c os (Kd.C_below HO.out HB0.out) HF.out).mono ?_)
 rintro e w2 ⟨m, rfl, hm, hw⟩
 have HB2 := Azz.mk (bTT HB0.out hw)
 have HR2 := Azz.mk (kBB (blk_new w _) hw)
 have HM := Azz.mk hm
 clear hw hm
 by_cases hm0 : m = 0
 ·subst hm0
  have HOk := Azz.mk (HM.out.ok.1 rfl)
  clear HM
  go_wp2
  go_loopw [5] (fun v wr => ∃ i : Nat, i ≤ os.length ∧ v = .int .i64 i ∧ Azz (NoTw os i 0) ∧ Azz (FB wr w.heap.size 0 0 0) ∧ Azz (Below w.heap.size w wr)) (fun v _ => os.length - (RowKit.intOf v).toNat)
  case atStart => exact ⟨0, Nat.zero_le _, rfl, ⟨lex_zero⟩, HR2, HB2⟩
  case round =>
   clear HR2 HB2
   obtain ⟨i, hi, rfl, HN, HR, HB⟩ := hrel
   obtain ⟨w3, hw3⟩ : ∃ x, x = wr := ⟨_, rfl⟩
   subst hw3
   by_cases hlt : i < os.length
   ·obtain ⟨ad, A1, c1, e, x1, l1, C1⟩ := ob_at (Kd.C_below HO.out HB.out) hlt (by omega)
    cases e
    have hny : nsy os i ≤ 140 := (HF.out.2 i hlt).syms
    unfold nsy at hny
    obtain ⟨o, ho⟩ : ∃ o, obN os i = o := ⟨_, rfl⟩
    have HSe := Azz.mk ho
    rw [ho] at x1 l1 C1 hny
    have HC1 := Azz.mk C1
    have HX1 := Azz.mk x1
    have HHl := Azz.mk hlt
    have i0 : (0 : Int) ≤ (i : Int) := by omega
    have i1 : (i : Int) < os.length := by omega
    clear C1 ho x1
    go_wp2
    go_loopw [6] (fun v wk => ∃ k : Nat, k ≤ o.f1.length ∧ v = .int .i64 k ∧ Azz (NoTw os i k) ∧ Azz (FB wk w.heap.size 0 0 0) ∧ Azz (Below w3.heap.size w3 wk)) (fun v _ => o.f1.length - (RowKit.intOf v).toNat)
    case atStart => exact ⟨0, Nat.zero_le _, rfl, HN, HR, ⟨Below.refl _ _⟩⟩
    case round =>
     clear HN HR
     obtain ⟨k, hk, rfl, HN, HR, HBk⟩ := hrel
     have x1 := fun o => kp1 HX1.out (HBk.out.alloc HBk.out.size o)
     have x1' := kp1 HX1.out HBk.out
     have HB3 := Azz.mk (bTT HB.out HBk.out)
     by_cases hkl : k < o.f1.length
     ·obtain ⟨ad1, e, s0, s1, s2, s3⟩ := P.at_T85 (Kd.C_below HC1.out HBk.out) k (by omega) (by omega)
      cases e
      rw [Int.toNat_natCast] at s0 s1 s2 s3
      obtain ⟨s, hs⟩ : ∃ s, P.rd_T85 o.f1 (k : Int) = s := ⟨_, rfl⟩
      have HSy : Azz (syN os i k = s) := ⟨by unfold syN; rw [HSe.out]; exact hs⟩
      have HTw : Azz (Tw (preS os i k) s ↔ strongQ s = true ∧ ∃ t, firstS strongQ (allS os) s.f0 = some t ∧ t.1 < i) := ⟨by have := tw_iff HOk.out HHl.out (k := k) (by unfold nsy; rw [HSe.out]; exact hkl); rw [HSy.out] at this; exact this⟩
      rw [hs] at s0 s1 s2 s3
      clear hs
      obtain ⟨nm, bd, sc, off⟩ := s
      dsimp only at s0 s1 s2 s3
      have k0 : (0 : Int) ≤ (k : Int) := by omega
      have k1 : (k : Int) < o.f1.length := by omega
      go_wp2_with fail
      (with_reducible refine (rfirst_calls _ _ c os nm 2 (Kd.C_below HO.out (HB3.out.alloc HB3.out.size _)) hc HF.out).mono ?_)
      rintro e w4 ⟨rfl, hw⟩
      have HB4 := Azz.mk (bTT (HB3.out.alloc HB3.out.size _) hw)
      have HBk4 := Azz.mk (bTT (HBk.out.alloc HBk.out.size _) hw)
      have HR4 := Azz.mk (kBB (kAA HR.out _) hw)
      have HS4 := Azz.mk (kBB (blk_new wr (.cells #[.string nm, .int .i64 bd, .int .i64 sc, .int .i64 off] 85)) hw)
      clear hw s0 s1 s2 s3 x1 x1'
      rw [bindQ_strong]
      obtain ⟨r, hr⟩ : ∃ r, firstS strongQ (allS os) nm = r := ⟨_, rfl⟩
      have HFr := Azz.mk hr
      rw [hr]
      clear hr
      have z := fun o => cl4 (kAA HS4.out o)
      have HYes := Azz.mk (fun (h : ¬ Tw (preS os i k) ⟨nm, bd, sc, off⟩) => (lex_succ HN.out (by rw [HSy.out]; exact h) : NoTw os i (k + 1)))
      cases r with
      | none =>
       unfold tgE plV
       obtain ⟨z0, z1, z2, z3⟩ := z (.cells #[.int .i64 0, .int .i64 0, .int .i64 0] 49)
       clear z
       have HNt := Azz.mk (HYes.out (fun h => by obtain ⟨_, t, ht, _⟩ := HTw.out.1 h; rw [HFr.out] at ht; cases ht))
       by_cases c1 : bd = 2
       ·have b1 : (bd == 2) = true := beq_iff_eq.mpr c1
        by_cases c2 : 0 ≤ sc
        ·have b2 : decide (0 ≤ sc) = true := decide_eq_true c2
         go_wp2
         go_roundw
         case rel => exact ⟨k + 1, by omega, by go_num, HNt, ⟨kAA HR4.out _⟩, ⟨HBk4.out.alloc HBk4.out.size _⟩⟩
         case measure => simp [RowKit.intOf]; omega
        ·have b2 : decide (0 ≤ sc) = false := decide_eq_false c2
         go_wp2
         go_roundw
         case rel => exact ⟨k + 1, by omega, by go_num, HNt, ⟨kAA HR4.out _⟩, ⟨HBk4.out.alloc HBk4.out.size _⟩⟩
         case measure => simp [RowKit.intOf]; omega
       ·have b1 : (bd == 2) = false := beq_eq_false_iff_ne.mpr c1
        go_wp2
        go_roundw
        case rel => exact ⟨k + 1, by omega, by go_num, HNt, ⟨kAA HR4.out _⟩, ⟨HBk4.out.alloc HBk4.out.size _⟩⟩
        case measure => simp [RowKit.intOf]; omega
      | some t =>
       obtain ⟨t0, t1, t2⟩ := t
       unfold tgE plV
       dsimp only [Option.map_some, Option.getD_some, plOf, Option.isSome_some]
       obtain ⟨z0, z1, z2, z3⟩ := z (.cells #[.int .i64 (t0 : Int), .int .i64 t2.f2, .int .i64 t2.f3] 49)
       clear z
       by_cases c1 : bd = 2
       ·have b1 : (bd == 2) = true := beq_iff_eq.mpr c1
        by_cases c2 : 0 ≤ sc
        ·have b2 : decide (0 ≤ sc) = true := decide_eq_true c2
         by_cases c3 : (t0 : Int) < i
         ·have b3 : decide ((t0 : Int) < i) = true := decide_eq_true c3
          have HTt : Azz (AtTw os i k) := ⟨HHl.out, by unfold nsy; rw [HSe.out]; exact hkl, by rw [HSy.out]; exact HTw.out.2 ⟨strong_iff.2 ⟨c1, c2⟩, _, HFr.out, by show t0 < i; omega⟩, HN.out⟩
          obtain ⟨y0, y1, y2⟩ := cq3 (kAA HR4.out (.cells #[.int .i64 (t0 : Int), .int .i64 t2.f2, .int .i64 t2.f3] 49))
          have yf := frzq (kAA HR4.out (.cells #[.int .i64 (t0 : Int), .int .i64 t2.f2, .int .i64 t2.f3] 49))
          go_wp2
          refine bodyPost_ret (v := .tuple #[.slice none 0 0, .agg #[.int .i64 7, .int .i64 (i : Int), .int .i64 (k : Int)]]) (by simp [results, Tryz.results21, go_sem, y0, y1, y2]) rfl (rres_bad (.inr (.inl ⟨HOk.out, i, k, HTt.out, rfl, rfl, rfl⟩)) ?_)
          exact below_set3 (HB4.out.alloc HB4.out.size _) (Nat.le_refl _) _ _ _
         ·have b3 : decide ((t0 : Int) < i) = false := decide_eq_false c3
          have HNt := Azz.mk (HYes.out (fun h => by obtain ⟨_, u, hu, hl⟩ := HTw.out.1 h; rw [HFr.out] at hu; cases hu; exact c3 (by have : t0 < i := hl; omega)))
          go_wp2
          go_roundw
          case rel => exact ⟨k + 1, by omega, by go_num, HNt, ⟨kAA HR4.out _⟩, ⟨HBk4.out.alloc HBk4.out.size _⟩⟩
          case measure => simp [RowKit.intOf]; omega
        ·have b2 : decide (0 ≤ sc) = false := decide_eq_false c2
         have HNt := Azz.mk (HYes.out (fun h => c2 (strong_iff.1 (HTw.out.1 h).1).2))
         go_wp2
         go_roundw
         case rel => exact ⟨k + 1, by omega, by go_num, HNt, ⟨kAA HR4.out _⟩, ⟨HBk4.out.alloc HBk4.out.size _⟩⟩
         case measure => simp [RowKit.intOf]; omega
       ·have b1 : (bd == 2) = false := beq_eq_false_iff_ne.mpr c1
        have HNt := Azz.mk (HYes.out (fun h => c1 (strong_iff.1 (HTw.out.1 h).1).1))
        go_wp2
        go_roundw
        case rel => exact ⟨k + 1, by omega, by go_num, HNt, ⟨kAA HR4.out _⟩, ⟨HBk4.out.alloc HBk4.out.size _⟩⟩
        case measure => simp [RowKit.intOf]; omega
     ·obtain rfl : k = o.f1.length := by omega
      have en : nsy os i = o.f1.length := by unfold nsy; rw [HSe.out]
      have HNn : Azz (NoTw os (i + 1) 0) := ⟨lex_next (n := nsy os) (by rw [en]; exact HN.out)⟩
      clear en
      go_wp2
      go_roundw
      case rel => exact ⟨i + 1, by have := HHl.out; omega, by go_num, HNn, HR, HB3⟩
      case measure => have := HHl.out; simp [RowKit.intOf]; omega
   ·obtain rfl : i = os.length := by omega
    have HNt := HN
    clear HN
    go_wp2
    go_loopw [10, 11] (fun v10 v wr2 => ∃ i : Nat, i ≤ os.length ∧ v = .int .i64 i ∧ Azz (RowsR wr2 w.heap.size v10 (rowsTo os i)) ∧ Azz (NoLost os i 0) ∧ Azz (FB wr2 w.heap.size 0 0 0) ∧ Azz (Below w.heap.size w wr2)) (fun _ v _ => os.length - (RowKit.intOf v).toNat)
    case atStart => exact ⟨0, Nat.zero_le _, rfl, ⟨Kd.R_nil _ _ _ _ _⟩, ⟨lex_zero⟩, HR, HB⟩
    case round =>
     clear HR HB
     obtain ⟨i, hi, rfl, HV, HN, HR, HB⟩ := hrel
     obtain ⟨wi, hwi⟩ : ∃ x, x = wr := ⟨_, rfl⟩
     subst hwi
     by_cases hlt : i < os.length
     ·obtain ⟨ad, A1, c1, e, x1, l1, C1⟩ := ob_at (Kd.C_below HO.out HB.out) hlt (by omega)
      cases e
      have hny : nsy os i ≤ 140 := (HF.out.2 i hlt).syms
      unfold nsy at hny
      obtain ⟨o, ho⟩ : ∃ o, obN os i = o := ⟨_, rfl⟩
      have HSe := Azz.mk ho
      rw [ho] at x1 l1 C1 hny
      have HC1 := Azz.mk C1
      have HX1 := Azz.mk x1
      have HHl := Azz.mk hlt
      have i0 : (0 : Int) ≤ (i : Int) := by omega
      have i1 : (i : Int) < os.length := by omega
      clear C1 ho x1
      go_wp2
      go_loopw [12, 13] (fun v12 v wk => ∃ k : Nat, k ≤ o.f1.length ∧ v = .int .i64 k ∧ Azz (RowR wk wi.heap.size v12 (plRow os i k)) ∧ Azz (NoLost os i k) ∧ Azz (Below wi.heap.size wi wk)) (fun _ v _ => o.f1.length - (RowKit.intOf v).toNat)
      case atStart => exact ⟨0, Nat.zero_le _, rfl, ⟨Kd.R_nil _ _ _ _ _⟩, HN, ⟨Below.refl _ _⟩⟩
      case round =>
       clear HN
       obtain ⟨k, hk, rfl, HW, HN, HBk⟩ := hrel
       have x1 := fun o => kp1 HX1.out (HBk.out.alloc HBk.out.size o)
       have x1' := kp1 HX1.out HBk.out
       have HB3 := Azz.mk (bTT HB.out HBk.out)
       by_cases hkl : k < o.f1.length
       ·obtain ⟨ad1, e, s0, s1, s2, s3⟩ := P.at_T85 (Kd.C_below HC1.out HBk.out) k (by omega) (by omega)
        cases e
        rw [Int.toNat_natCast] at s0 s1 s2 s3
        obtain ⟨s, hs⟩ : ∃ s, P.rd_T85 o.f1 (k : Int) = s := ⟨_, rfl⟩
        have HSy : Azz (syN os i k = s) := ⟨by unfold syN; rw [HSe.out]; exact hs⟩
        rw [hs] at s0 s1 s2 s3
        clear hs
        obtain ⟨nm, bd, sc, off⟩ := s
        dsimp only at s0 s1 s2 s3
        have k0 : (0 : Int) ≤ (k : Int) := by omega
        have k1 : (k : Int) < o.f1.length := by omega
        by_cases hb : bd = 1
        ·subst hb
         have HPl := Azz.mk (plS_own HSy.out rfl)
         go_wp2_with (at_builtin; refine Kd.R_append P.k49 (w0 := wi) wi.heap.size rfl (.tmp 101) (.tmp 108) 90 49 (.agg #[.int .i64 0, .int .i64 0, .int .i64 0]) 24 rfl Tryz.underlying90 info_pl rfl (by decide) (by decide) _ (plRow os i k) (⟨(i : Int), sc, off⟩ : Pl) [.int .i64 (i : Int), .int .i64 sc, .int .i64 off] (fun _ => True) (fun _ => False) rfl (by rw [World.size_alloc]; rfl) (P.k49_mkM _ _ _ (⟨(i : Int), sc, off⟩ : Pl)) (fun _ hk => hk.elim) (fun _ _ => trivial) (Kd.R_alloc HW.out _) (HBk.out.alloc HBk.out.size _) (HBk.out.alloc HBk.out.size _).size (by rw [plRow_length]; omega) ?_; intro v1 w7 ho1 hb1 _ _; have HO1 := Azz.mk ho1; have HB1 := Azz.mk hb1; clear ho1 hb1)
         go_roundw
         case rel => exact ⟨k + 1, by omega, by go_num, ⟨by rw [plRow_succ, HPl.out]; exact HO1.out⟩, ⟨lex_succ HN.out (by rw [HSy.out]; exact fun h => h.1 rfl)⟩, HB1⟩
         case measure => simp [RowKit.intOf]; omega
        ·have b1 : (bd == 1) = false := beq_eq_false_iff_ne.mpr hb
         have HPl := Azz.mk (plS_far HSy.out hb)
         have HLo : Azz (Lost os (syN os i k) ↔ placeT os nm = none) := ⟨by rw [HSy.out]; exact ⟨fun h => h.2, fun h => ⟨hb, h⟩⟩⟩
         clear hb
         go_wp2_with fail
         (with_reducible refine (rfind_calls _ _ c os nm (Kd.C_below HO.out (HB3.out.alloc HB3.out.size _)) hc HOk.out HF.out).mono ?_)
         rintro e w4 ⟨rfl, hw⟩
         have HBk4 := Azz.mk (bTT (HBk.out.alloc HBk.out.size _) hw)
         have HB4 := Azz.mk (bTT HB.out HBk4.out)
         have HW4 := Azz.mk (Kd.R_below (Kd.R_alloc HW.out _) hw)
         have HR4 := Azz.mk (kBB HR.out HBk4.out)
         clear hw s0 s1 s2 s3 x1 x1'
         obtain ⟨r, hr⟩ : ∃ r, placeT os nm = r := ⟨_, rfl⟩
         rw [hr]
         rw [hr] at HLo
         have HPl : Azz (plS os i k = (r.map plOf).getD ⟨0, 0, 0⟩) := ⟨by rw [← hr]; exact HPl.out⟩
         clear hr
         cases r with
         | none =>
          unfold tgE plV
          have HLt : Azz (AtLost os i k) := ⟨HHl.out, by unfold nsy; rw [HSe.out]; exact hkl, HLo.out.2 rfl, HN.out⟩
          obtain ⟨y0, y1, y2⟩ := cq3 (kAA HR4.out (.cells #[.int .i64 0, .int .i64 0, .int .i64 0] 49))
          have yf := frzq (kAA HR4.out (.cells #[.int .i64 0, .int .i64 0, .int .i64 0] 49))
          go_wp2
          refine bodyPost_ret (v := .tuple #[.slice none 0 0, .agg #[.int .i64 6, .int .i64 (i : Int), .int .i64 (k : Int)]]) (by simp [results, Tryz.results21, go_sem, y0, y1, y2]) rfl (rres_bad (.inr (.inr ⟨HOk.out, HNt.out, i, k, HLt.out, rfl, rfl, rfl⟩)) ?_)
          exact below_set3 (HB4.out.alloc HB4.out.size _) (Nat.le_refl _) _ _ _
         | some t =>
          obtain ⟨t0, t1, t2⟩ := t
          unfold tgE plV
          dsimp only [Option.map_some, Option.getD_some, plOf, Option.isSome_some] at HPl ⊢
          have HNl : Azz (NoLost os i (k + 1)) := ⟨lex_succ HN.out fun h => by cases HLo.out.1 h⟩
          go_wp2_with (at_builtin; refine Kd.R_append P.k49 (w0 := wi) wi.heap.size rfl (.tmp 122) (.tmp 124) 90 49 (.agg #[.int .i64 0, .int .i64 0, .int .i64 0]) 24 rfl Tryz.underlying90 info_pl rfl (by decide) (by decide) _ (plRow os i k) (⟨(t0 : Int), t2.f2, t2.f3⟩ : Pl) [.int .i64 (t0 : Int), .int .i64 t2.f2, .int .i64 t2.f3] (fun _ => True) (fun _ => False) rfl (by rw [World.size_alloc]; rfl) (P.k49_mkM _ _ _ (⟨(t0 : Int), t2.f2, t2.f3⟩ : Pl)) (fun _ hk => hk.elim) (fun _ _ => trivial) (Kd.R_alloc HW4.out _) (HBk4.out.alloc HBk4.out.size _) (HBk4.out.alloc HBk4.out.size _).size (by rw [plRow_length]; omega) ?_; intro v1 w7 ho1 hb1 _ _; have HO1 := Azz.mk ho1; have HB1 := Azz.mk hb1; clear ho1 hb1)
          go_roundw
          case rel => exact ⟨k + 1, by omega, by go_num, ⟨by rw [plRow_succ, HPl.out]; exact HO1.out⟩, HNl, HB1⟩
          case measure => simp [RowKit.intOf]; omega
       ·obtain rfl : k = o.f1.length := by omega
        have e : nsy os i = o.f1.length := by unfold nsy; rw [HSe.out]
        have HNn : Azz (NoLost os (i + 1) 0) := ⟨lex_next (n := nsy os) (by rw [e]; exact HN.out)⟩
        obtain ⟨Av, cv, hv⟩ := Kd.R_slice HW.out
        subst hv
        have HM2 : Azz (Kd.R P.k49 49 wr w.heap.size (fun k => wi.heap.size ≤ k) (.slice Av (plRow os i o.f1.length).length cv) (plRow os i (nsy os i))) := ⟨Kd.R_lower (Kd.R_mono (Kd.R_bound (by rw [e]; exact HW.out)) (fun k hk => hk.2.1)) HB.out.size⟩
        have HFar : Azz (∀ k, wi.heap.size ≤ k → True ∧ some k ≠ u10.ownBlock) := ⟨fun k hk => ⟨trivial, fun e => by have := Kd.R_lt HV.out k e.symm; omega⟩⟩
        have HNe : Azz (some w.heap.size ≠ u10.ownBlock) := ⟨Kd.R_ne HV.out HR.out (by decide)⟩
        have HR4 := Azz.mk (kBB HR.out HBk.out)
        clear x1 e
        go_wp2_with (at_builtin; refine R_app kRows (w0 := w) wr w.heap.size rfl (.tmp 126) (.tmp 128) 43 90 (.slice none 0 0) 24 rfl Tryz.underlying43 info_row rfl (by decide) (by decide) u10 (rowsTo os i) (plRow os i (nsy os i)) [.slice Av (plRow os i o.f1.length).length cv] (fun _ => True) (fun k => wi.heap.size ≤ k) rfl rfl rfl ⟨_, rfl, HM2.out⟩ HFar.out (fun _ _ => trivial) (Kd.R_below HV.out HBk.out) HB3.out HB3.out.size (by rw [rowsTo_len]; omega) ?_; intro v1 w7 ho1 hb1 hg1; have HO1 := Azz.mk ho1; have HB1 := Azz.mk hb1; have HG1 := Azz.mk hg1; clear ho1 hb1 hg1)
        go_roundw
        case rel => exact ⟨i + 1, by have := HHl.out; omega, by go_num, ⟨by rw [rowsTo_succ]; exact HO1.out⟩, HNn, ⟨(HG1.out.block _ (Array.getElem?_eq_some_iff.1 HR4.out).1 HNe.out).trans HR4.out⟩, HB1⟩
        case measure => have := HHl.out; simp [RowKit.intOf]; omega
     ·obtain rfl : i = os.length := by omega
      have HV3 := Azz.mk (R_set3 HV.out HR.out (fun q hq => by
       have : q = 90 ∨ q = 49 := by simpa [kRows, Kd.slice, P.k49, Kd.iso, Kd.pair, Kd.int, Kd.scalar] using hq
       rcases this with rfl | rfl <;> decide) (.int .i64 0) (.int .i64 0) (.int .i64 0))
      obtain ⟨Aa, ca, hv, hla, hC⟩ := Kd.R_reads HV3.out
      rw [rowsTo_len] at hv hla hC
      subst hv
      have HC := Azz.mk hC
      clear hC HV HV3
      obtain ⟨y0, y1, y2⟩ := cq3 HR.out
      have yf := frzq HR.out
      go_wp2
      have hq := set3_same wi w.heap.size 45 (.int .i64 0) (.int .i64 0) (.int .i64 0) (.int .i64 0) (.int .i64 0) (.int .i64 0) HR.out
      obtain ⟨q0, q1, q2⟩ := cq3 hq
      refine bodyPost_ret (v := .tuple #[.slice Aa os.length ca, .agg #[.int .i64 0, .int .i64 0, .int .i64 0]]) (by simp [results, Tryz.results21, go_sem, q0, q1, q2]) rfl ⟨below_set3 HB.out (Nat.le_refl _) _ _ _, .inr ⟨HOk.out, HNt.out, HN.out, Aa, ca, rfl, hla, HC.out⟩⟩
 ·have hne : (m != 0) = true := bne_iff_ne.mpr hm0
  obtain ⟨y0, y1, y2⟩ := cq3 HR2.out
  have yf := frzq HR2.out
  go_wp2
  refine bodyPost_ret (v := .tuple #[.slice none 0 0, .agg #[.int .i64 m, .int .i64 0, .int .i64 0]]) (by simp [results, Tryz.results21, go_sem, y0, y1, y2]) rfl (rres_bad (.inl ⟨fun h => hm0 (HM.out.ok.2 h), HM.out, rfl, rfl⟩) ?_)
  exact below_set3 HB2.out (Nat.le_refl _) _ _ _
end Go.Proofs.YtngmipfodjgmmaaGreatDoor.Pure
end
section
namespace Go.Proofs.YtngmipfodjgmmaaGreatDoor.Pure
open Go Go.RowKit Go.Lib Go.Shelf YtngmipfodjgmmaaGreatDoorW.PrintWords YtngmipfodjgmmaaGreatDoorW.PrintLast YtngmipfodjgmmaaGreatDoorW.PrintMore
open P (Glob)
/-- What both tell of resolving. -/
def ResR (os : List Ob) (xs : List (List Pl)) (c o k : Int) : Prop := (Flt os c o k ∧ xs = []) ∨ (AllOkO os ∧ NoTw os os.length 0 ∧ NoLost os os.length 0 ∧ xs = rowsOf os ∧ c = 0 ∧ o = 0 ∧ k = 0)
theorem ResR.one {os xs c o k ys c' o' k'} (h : ResR os xs c o k) (g : ResR os ys c' o' k') : ys = xs ∧ c' = c ∧ o' = o ∧ k' = k := by
 rcases h with ⟨h, rfl⟩ | ⟨h1, h2, h3, rfl, rfl, rfl, rfl⟩ <;> rcases g with ⟨g, rfl⟩ | ⟨g1, g2, g3, rfl, rfl, rfl, rfl⟩
 ·exact ⟨rfl, flt_one h g⟩
 ·exact absurd (flt_not h g1 g2 g3) id
 ·exact absurd (flt_not g h1 h2 h3) id
 ·exact ⟨rfl, rfl, rfl, rfl⟩
def RsPost (os : List Ob) (w : World) (e : Ending) (w' : World) : Prop := ∃ A cp xs c o k, e = .returned (.tuple #[.slice A xs.length cp, .agg #[.int .i64 c, .int .i64 o, .int .i64 k]]) ∧ xs.length ≤ cp ∧ ResR os xs c o k ∧ Kd.C kRows w' A xs.length xs ∧ Below w.heap.size w w'
theorem res_of {os w e w'} (hl : os.length ≤ 100000) (h : ResPost os w e w') : RsPost os w e w' := by
 obtain ⟨hb, ⟨c, o, k, hf, rfl⟩ | ⟨h1, h2, h3, al, vs, rfl, hr, _⟩⟩ := h
 ·exact ⟨none, 0, [], c, o, k, rfl, Nat.le_refl _, .inl ⟨hf, rfl⟩, Kd.C_nil _ _, hb⟩
 ·exact ⟨some ⟨al, 0, none⟩, os.length, rowsOf os, 0, 0, 0, by rw [rowsOf_length], by rw [rowsOf_length]; exact Nat.le_refl _, .inr ⟨h1, h2, h3, rfl, rfl, rfl, rfl⟩, by rw [rowsOf_length]; exact rows_read hr hl, hb⟩
theorem rres_of {os w e w'} (h : RResPost os w e w') : RsPost os w e w' := by
 obtain ⟨hb, ⟨c, o, k, hf, rfl⟩ | ⟨h1, h2, h3, A, cp, rfl, hc, hr⟩⟩ := h
 ·exact ⟨none, 0, [], c, o, k, rfl, Nat.le_refl _, .inl ⟨hf, rfl⟩, Kd.C_nil _ _, hb⟩
 ·exact ⟨A, cp, rowsOf os, 0, 0, 0, by rw [rowsOf_length], by rw [rowsOf_length]; exact hc, .inr ⟨h1, h2, h3, rfl, rfl, rfl, rfl⟩, by rw [rowsOf_length]; exact hr, hb⟩
theorem ResR.small {os xs c o k} (h : ResR os xs c o k) (hf : FewL os) : xs.length ≤ 100000 ∧ ∀ i, i < xs.length → (P.rd_L15 xs i).length ≤ 100000 := by
 rcases h with ⟨_, rfl⟩ | ⟨_, _, _, rfl, _⟩
 ·exact ⟨Nat.zero_le _, fun i h => absurd h (Nat.not_lt_zero _)⟩
 ·refine ⟨by rw [rowsOf_length]; have := hf.1; omega, fun i hi => ?_⟩
  rw [rowsOf_length] at hi
  rw [rowsOf_get hi, plRow_length]
  exact few_small hf i hi
theorem findS_one {os : List Ob} {n : ByteArray} {r q : Option Pl} (h : findS os n r) (g : findS os n q) : q = r := by
 rcases h with ⟨a, b, rfl⟩ | ⟨h, rfl⟩ <;> rcases g with ⟨c, d, rfl⟩ | ⟨g, rfl⟩
 ·rfl
 ·exact absurd ⟨a, b⟩ g
 ·exact absurd ⟨c, d⟩ h
 ·rfl
def FndPost (os : List Ob) (n : ByteArray) (w : World) (e : Ending) (w' : World) : Prop := ∃ r q1 q2 q3 y, findS os n r ∧ (q1 = (r.getD ⟨0, 0, 0⟩).f0 ∧ q2 = (r.getD ⟨0, 0, 0⟩).f1 ∧ q3 = (r.getD ⟨0, 0, 0⟩).f2 ∧ y = r.isSome) ∧ e = .returned (.tuple #[.agg #[.int .i64 q1, .int .i64 q2, .int .i64 q3], .bool y]) ∧ Below w.heap.size w w'
theorem find_of {os n w e w'} (h : FindPost os n w e w') : FndPost os n w e w' := by
 obtain ⟨r, hr, rfl, hb⟩ := h
 exact ⟨r, _, _, _, _, hr, ⟨rfl, rfl, rfl, rfl⟩, rfl, hb⟩
theorem sdoes_any (w : World) (A : Option Addr) (os : List Ob) (c : Nat) (n : ByteArray) (hG : Glob w) (hos : OA w A os) (hc : os.length ≤ c) :
 Calls Tryz.prog 4 #[.slice A os.length c, .string n] w fun e w' => e = .returned (.bool true) ∧ Below w.heap.size w w' := by
 obtain ⟨b, hb, hfew⟩ := bigL_calls os w A c hos hc
 have HBig := Azz.mk hb
 have HG := Azz.mk hG
 have HO := Azz.mk hos
 have HFw := Azz.mk hfew
 clear hb hG hos hfew
 go_enter Tryz.func4, Tryz.ntmps4
 go_wp2_with fail
 (with_reducible refine HBig.out.mono ?_)
 rintro e w1 ⟨rfl, hb⟩
 have HB := Azz.mk hb
 clear hb HBig
 cases b with
 | true =>
  go_wp2
  go_ret
  exact ⟨rfl, HB.out⟩
 | false =>
  have HF := Azz.mk (HFw.out rfl)
  clear HFw
  have hol := HF.out.1
  by_cases c3 : (100 : Int) < n.size
  ·have b3 : decide ((100 : Int) < n.size) = true := decide_eq_true c3
   go_wp2
   go_ret
   exact ⟨rfl, HB.out⟩
  have b3 : decide ((100 : Int) < n.size) = false := decide_eq_false c3
  have HNz := Azz.mk (show n.size ≤ 100 by omega)
  clear c3
  go_wp2_with fail
  (with_reducible refine ((resolve_any _ A c os (HG.out.below HB.out) (Kd.C_below HO.out HB.out) hc HF.out).mono (fun _ _ h => res_of (by omega) h)).mono ?_)
  rintro e w2 ⟨Ar, cr, xs, c1, o1, k1, rfl, hcr, hR, hC, hb⟩
  replace HB := Azz.mk (bTT HB.out hb)
  have HC := Azz.mk hC
  have HR := Azz.mk (And.intro hR hcr)
  clear hb hC hR hcr
  go_wp2_with fail
  have b2 := bAA (Below.refl w2.heap.size w2) (.cells #[.int .i64 c1, .int .i64 o1, .int .i64 k1] 45)
  have HF1 := Azz.mk (blk_new w2 (.cells #[.int .i64 c1, .int .i64 o1, .int .i64 k1] 45))
  (with_reducible refine ((rresolve_any _ A c os (Kd.C_below HO.out (bTT HB.out b2)) hc HF.out).mono (fun _ _ h => rres_of h)).mono ?_)
  rintro e w3 ⟨Aq, cq, ys, c2, o2, k2, rfl, hcq, hQ, hD, hb⟩
  replace HF1 := Azz.mk (kBB HF1.out hb)
  replace hb := bTT b2 hb
  replace HB := Azz.mk (bTT HB.out hb)
  replace HC := Azz.mk (Kd.C_below HC.out hb)
  have HD := Azz.mk hD
  obtain ⟨rfl, rfl, rfl, rfl⟩ := HR.out.1.one hQ
  have HQ := Azz.mk hcq
  clear hb hD hQ hcq b2
  go_wp2_with fail
  have b2 := bAA (Below.refl w3.heap.size w3) (.cells #[.int .i64 c2, .int .i64 o2, .int .i64 k2] 45)
  have HF2 := Azz.mk (blk_new w3 (.cells #[.int .i64 c2, .int .i64 o2, .int .i64 k2] 45))
  (with_reducible refine ((find_any _ A c os n (HG.out.below (bTT HB.out b2)) (Kd.C_below HO.out (bTT HB.out b2)) hc HF.out HNz.out).mono (fun _ _ h => find_of h)).mono ?_)
  rintro e w4 ⟨r, q1, q2, q3, y, hr, hq, rfl, hb⟩
  replace HF2 := Azz.mk (kBB HF2.out hb)
  replace hb := bTT b2 hb
  replace HF1 := Azz.mk (kBB HF1.out hb)
  replace HB := Azz.mk (bTT HB.out hb)
  replace HC := Azz.mk (Kd.C_below HC.out hb)
  replace HD := Azz.mk (Kd.C_below HD.out hb)
  have HFn := Azz.mk (And.intro hr hq)
  clear hb hr hq b2
  go_wp2_with fail
  have b2 := bAA (Below.refl w4.heap.size w4) (.cells #[.int .i64 q1, .int .i64 q2, .int .i64 q3] 49)
  have HF3 := Azz.mk (blk_new w4 (.cells #[.int .i64 q1, .int .i64 q2, .int .i64 q3] 49))
  (with_reducible refine ((rFind_any _ A c os n (Kd.C_below HO.out (bTT HB.out b2)) hc HF.out).mono (fun _ _ h => find_of h)).mono ?_)
  rintro e w5 ⟨r', p1, p2, p3, y', hr, hq, rfl, hb⟩
  obtain rfl := findS_one HFn.out.1 hr
  obtain ⟨rfl, rfl, rfl, rfl⟩ : p1 = q1 ∧ p2 = q2 ∧ p3 = q3 ∧ y' = y := ⟨hq.1.trans HFn.out.2.1.symm, hq.2.1.trans HFn.out.2.2.1.symm, hq.2.2.1.trans HFn.out.2.2.2.1.symm, hq.2.2.2.trans HFn.out.2.2.2.2.symm⟩
  replace HF3 := Azz.mk (kBB HF3.out hb)
  replace hb := bTT b2 hb
  replace HF1 := Azz.mk (kBB HF1.out hb)
  replace HF2 := Azz.mk (kBB HF2.out hb)
  replace HB := Azz.mk (bTT HB.out hb)
  replace HC := Azz.mk (Kd.C_below HC.out hb)
  replace HD := Azz.mk (Kd.C_below HD.out hb)
  clear hb hr hq b2 HFn
  go_wp2_with fail
  have b2 := bAA (Below.refl w5.heap.size w5) (.cells #[.int .i64 p1, .int .i64 p2, .int .i64 p3] 49)
  have HF4 := Azz.mk (blk_new w5 (.cells #[.int .i64 p1, .int .i64 p2, .int .i64 p3] 49))
  (with_reducible refine (resolved_any _ (HG.out.below (bTT HB.out b2))).mono ?_)
  rintro e w6 ⟨rfl, hb⟩
  replace HF4 := Azz.mk (kBB HF4.out hb)
  replace hb := bTT b2 hb
  replace HF1 := Azz.mk (kBB HF1.out hb)
  replace HF2 := Azz.mk (kBB HF2.out hb)
  replace HF3 := Azz.mk (kBB HF3.out hb)
  replace HB := Azz.mk (bTT HB.out hb)
  replace HC := Azz.mk (Kd.C_below HC.out hb)
  replace HD := Azz.mk (Kd.C_below HD.out hb)
  clear hb b2
  obtain ⟨hs1, hs2⟩ := HR.out.1.small HF.out
  obtain ⟨K, hK⟩ := same_refl_ev ys hs1 hs2
  have H1 := Azz.mk (P.cleatref20_Same.calls K Ar cr ys Aq cq ys true w6 HC.out HR.out.2 HD.out HQ.out (hK K (Nat.le_refl _)))
  clear hs1 hs2 hK
  go_wp2_with fail
  (with_reducible refine (H1.out.mono (fun e w' h => And.intro h.1 h.2.below)).mono ?_)
  rintro e w7 ⟨rfl, hb⟩
  replace HF1 := Azz.mk (kBB HF1.out hb)
  replace HF2 := Azz.mk (kBB HF2.out hb)
  replace HF3 := Azz.mk (kBB HF3.out hb)
  replace HF4 := Azz.mk (kBB HF4.out hb)
  replace HB := Azz.mk (bTT HB.out hb)
  clear hb H1 HC HD
  obtain ⟨a0, a1, a2⟩ := cq3 HF1.out
  obtain ⟨d0, d1, d2⟩ := cq3 HF2.out
  obtain ⟨f0, f1, f2⟩ := cq3 HF3.out
  obtain ⟨g0, g1, g2⟩ := cq3 HF4.out
  go_wp2_with fail
  (with_reducible refine (check_any _ A c os (HG.out.below HB.out) (Kd.C_below HO.out HB.out) hc HF.out).mono ?_)
  rintro e w8 ⟨m, rfl, hm, hb⟩
  replace HB := Azz.mk (bTT HB.out hb)
  have HM := Azz.mk hm
  clear hb hm a0 a1 a2 d0 d1 d2 f0 f1 f2 g0 g1 g2
  go_wp2_with fail
  (with_reducible refine (rchk_any _ A c os (Kd.C_below HO.out HB.out) HF.out).mono ?_)
  rintro e w9 ⟨m', rfl, hm, hb⟩
  replace HB := Azz.mk (bTT HB.out hb)
  obtain rfl := HM.out.one hm
  have hmm : (m == m) = true := by simp
  clear hb hm
  go_wp2
  go_ret
  exact ⟨by first | rfl | simp, HB.out⟩
end Go.Proofs.YtngmipfodjgmmaaGreatDoor.Pure
end
section
namespace Go.Proofs.YtngmipfodjgmmaaGreatDoor.Walks
open Go Go.RowKit YtngmipfodjgmmaaGreatDoorW.PrintWords YtngmipfodjgmmaaGreatDoorW.PrintLast YtngmipfodjgmmaaGreatDoorW.PrintMore
theorem SymDoes (A0 : Option Addr) (c0 : Nat) (x0 : List P.S68) (x1 : ByteArray) (w : World) (hG : P.Glob w)
 (hc0 : Kd.C P.k68 w A0 x0.length x0) (hl0 : x0.length ≤ c0) (hw0 : True) (hw1 : x1.size ≤ 140737488351232) :
 Calls Tryz.prog 4 #[.slice A0 x0.length c0, .string x1] w fun e w' => e = .returned (.bool true) ∧ Below w.heap.size w w' :=
 Pure.sdoes_any w A0 x0 c0 x1 hG hc0 hl0
end Go.Proofs.YtngmipfodjgmmaaGreatDoor.Walks
end
section
namespace Go.Proofs.YtngmipfodjgmmaaGreatDoor.Tables
open Go Go.RowKit Go.Lib
abbrev four : List (String × DataW Unit) := [("cleat/inst.shapes", Rows.laid_cleat_inst_shapes), ("cleat/code.bases", Rows.laid_cleat_code_bases), ("cleat/code.fields", Rows.laid_cleat_code_fields), ("math/bits.deBruijn32tab", Rows.laid_math_bits_deBruijn32tab), ("math/bits.deBruijn64tab", Rows.laid_math_bits_deBruijn64tab), ("internal/strconv.uint64pow10", Rows.laid_internal_strconv_uint64pow10), ("cleat/part.fitting", Rows.laid_cleat_part_fitting)]
/-- The door's own heap meets the condition. -/
theorem door_met (os : Os) (args : Array Value) : laidMetH Tryz.prog four ((World.doorLaid Tryz.prog 400 os).forCall (fun _ _ => 0) ⟨#[], args, []⟩).memory :=
 laidMetH_of_parts3 (fuel := 8) (laidMet_of_run' 8 (by kernel_rfl) (by kernel_rfl)) (by kernel_rfl) (by kernel_rfl)
theorem cell_lt {w : World} {b i : Nat} {v : Value} (h : w.cell? ⟨b, i, none⟩ = some v) : b < w.heap.size := by
 refine Decidable.byContradiction fun hn => ?_
 have e : w.heap[b]? = none := Array.getElem?_eq_none (by omega)
 simp [World.cell?, e] at h
/-- A table of whole numbers that reads as these holds these. -/
theorem tab {W : World} {name : String} {k : IntKind} {zs : List Int} {g t e n : Nat} (hg : Tryz.prog.globalNamed name = some g) (hty : (Tryz.prog.globals[g]?).map (·.type) = some t)
 (ht : Tryz.prog.underlying t = some (.array n e)) (he : Tryz.prog.underlying e = some (.int k)) (hce : Tryz.prog.cellsOf e = 1) (hct : Tryz.prog.cellsOf t = n)
 (h : VarReads Tryz.prog W name (tabData k zs)) (i : Nat) (hi : i < zs.length) : W.cell? ⟨g, i, none⟩ = some (.int k (zs.getD i 0)) := by
 obtain ⟨g', t', cs, fuel, p, hg', ht', hvar, hd⟩ := h
 obtain rfl := Option.some.inj (hg.symm.trans hg')
 obtain rfl := Option.some.inj (hty.symm.trans ht')
 have hT : TabIs Tryz.prog W name k zs := by
  unfold TabIs
  rw [hvar, ← cells_of_tab ht he hce hct hd]
 exact hT.cell hg i hi
theorem fits {W : World} (h : VarReads Tryz.prog W "cleat/part.fitting" Rows.laid_cleat_part_fitting) (i : Nat) (hi : i < 20) :
 W.cell? ⟨0, i, none⟩ = some (.int .i64 (P.fittingL.getD i 0)) := by
 obtain ⟨g', t', cs, fuel, p, hg', ht', hvar, hd⟩ := h
 have hg : Tryz.prog.globalNamed "cleat/part.fitting" = some 0 := by kernel_rfl
 have hty : (Tryz.prog.globals[0]?).map (·.type) = some 139 := by kernel_rfl
 obtain rfl := Option.some.inj (hg.symm.trans hg')
 obtain rfl := Option.some.inj (hty.symm.trans ht')
 have hc2 : Tryz.prog.cellsOf 138 = 2 := by kernel_rfl
 obtain ⟨f', d, q, hdi, ht⟩ := array_elem (P := Tryz.prog) (t := 139) (e := 138) (n := 10) (by kernel_rfl) hd (i / 2) (by omega)
 rw [hc2] at ht
 have hd2 : d = tabData .i64 [P.fittingL.getD (i / 2 * 2) 0, P.fittingL.getD (i / 2 * 2 + 1) 0] := by
  have hj : i / 2 < 10 := by omega
  generalize i / 2 = j at hdi hj ⊢
  have hj' : j = 0 ∨ j = 1 ∨ j = 2 ∨ j = 3 ∨ j = 4 ∨ j = 5 ∨ j = 6 ∨ j = 7 ∨ j = 8 ∨ j = 9 := by omega
  rcases hj' with rfl | rfl | rfl | rfl | rfl | rfl | rfl | rfl | rfl | rfl <;> exact (Option.some.inj hdi).symm
 rw [hd2] at ht
 have hcs := cells_of_tab (P := Tryz.prog) (t := 138) (e := 3) (n := 2) (by kernel_rfl) (by kernel_rfl) (by kernel_rfl) (by kernel_rfl) ht
 have hrow := World.var?_cell hg hvar i
 rw [Array.getElem?_toList.symm] at hrow
 have hi2 : cs.toList[i]? = some (.int .i64 (P.fittingL.getD i 0)) := by
  have h1 : ((cs.toList.drop (i / 2 * 2)).take 2)[i % 2]? = cs.toList[i]? := by
   rw [List.getElem?_take, List.getElem?_drop, if_pos (by omega)]
   rw [show i / 2 * 2 + i % 2 = i by omega]
  rw [← h1, hcs]
  have h2 : i % 2 = 0 ∨ i % 2 = 1 := by omega
  rcases h2 with h2 | h2 <;> rw [h2] <;> simp only [List.map, List.getElem?_cons_zero, List.getElem?_cons_succ]
  ·rw [show i / 2 * 2 = i by omega]
  ·rw [show i / 2 * 2 + 1 = i by omega]
 exact hrow.trans hi2
theorem glob_of_laid {W : World} (hL : laidMetH Tryz.prog four W) : P.Glob W := by
 rw [MakeChecks.laidMetH_plain _ _ _ (by kernel_rfl)] at hL
 have h1 : ∀ i, i < 40 → W.cell? ⟨4, i, none⟩ = some (.int .i64 (P.shapesL.getD i 0)) := fun i hi =>
  tab (zs := P.shapesL) (t := 195) (e := 3) (n := 40) (by kernel_rfl) (by kernel_rfl) (by kernel_rfl) (by kernel_rfl) (by kernel_rfl) (by kernel_rfl) (laidMet.reads hL (.head _)) i hi
 have h2 : ∀ i, i < 40 → W.cell? ⟨3, i, none⟩ = some (.int .u32 (P.basesL.getD i 0)) := fun i hi =>
  tab (zs := P.basesL) (t := 194) (e := 124) (n := 40) (by kernel_rfl) (by kernel_rfl) (by kernel_rfl) (by kernel_rfl) (by kernel_rfl) (by kernel_rfl) (laidMet.reads hL (.tail _ (.head _))) i hi
 have h3 : ∀ i, i < 17 → W.cell? ⟨2, i, none⟩ = some (.int .u32 (P.fieldsL.getD i 0)) := fun i hi =>
  tab (zs := P.fieldsL) (t := 193) (e := 124) (n := 17) (by kernel_rfl) (by kernel_rfl) (by kernel_rfl) (by kernel_rfl) (by kernel_rfl) (by kernel_rfl) (laidMet.reads hL (.tail _ (.tail _ (.head _)))) i hi
 have h4 := fun i hi => fits (laidMet.reads hL (.tail _ (.tail _ (.tail _ (.tail _ (.tail _ (.tail _ (.head _)))))))) i hi
 exact ⟨h1, h2, h3, h4, cell_lt (h1 0 (by decide)), cell_lt (h2 0 (by decide)), cell_lt (h3 0 (by decide)), cell_lt (h4 0 (by decide))⟩
end Go.Proofs.YtngmipfodjgmmaaGreatDoor.Tables
end
