/- Walks and plain laws of this claim, a part. -/
import Derived.Test.YtngmipfodjgmmaaGreatDoorSw73
set_option maxRecDepth 100000
set_option maxHeartbeats 8000000
set_option linter.unusedVariables false
set_option linter.unusedSimpArgs false
namespace Go.Proofs.YtngmipfodjgmmaaGreatDoor.Pure
open Go Go.RowKit Go.Lib Go.Shelf Go.Maps YtngmipfodjgmmaaGreatDoorW.PrintWords YtngmipfodjgmmaaGreatDoorW.PrintLast YtngmipfodjgmmaaGreatDoorW.PrintMore
open P (Glob)
abbrev OA (w : World) (A : Option Addr) (os : List Ob) : Prop := Kd.C P.k68 w A os.length os
abbrev SyA (w : World) (A : Option Addr) (l : List Sy) : Prop := Kd.C P.k85 w A l.length l
abbrev SeA (w : World) (A : Option Addr) (l : List Se) : Prop := Kd.C P.k64 w A l.length l
theorem part_calls {s : Sc} {b : Bool} (hb : IsB s b) (W : World) (A : Option Addr) (c : Nat) (hG : Glob W) (hr : Kd.C P.k98 W A s.rels.length s.rels) (hc : s.rels.length ≤ c) :
 Calls Tryz.prog 58 #[.agg #[.string s.n, .int .i64 s.kd, .bool s.keep, .int .i64 s.al, .string s.data, .slice A s.rels.length c]] W fun e w' => e = .returned (.bool b) ∧ Below W.heap.size W w' := by
 refine (pis_sec s A c W hG hc hr).mono ?_
 rintro e w' ⟨b', rfl, h, hw⟩
 obtain rfl := isB_one h hb
 exact ⟨rfl, hw⟩
theorem name_calls {s : ByteArray} {b : Bool} (hb : Ev (fun k => P.local_IsName.f k s) b) (W : World) : Calls Tryz.prog 65 #[.string s] W fun e w' => e = .returned (.bool b) ∧ Below W.heap.size W w' := by
 obtain ⟨K, hK⟩ := hb
 exact P.local_IsName.calls K s b W (hK K (Nat.le_refl _))
def StB (o : Ob) (s : Sy) (b : Bool) : Prop := b = true ↔ Stands o s
theorem stands_some (o : Ob) (s : Sy) : ∃ b, StB o s b ∧ (b = true ↔ Stands o s) := by
 by_cases h : Stands o s
 ·exact ⟨true, ⟨fun _ => h, fun _ => rfl⟩, ⟨fun _ => h, fun _ => rfl⟩⟩
 ·exact ⟨false, ⟨fun e => absurd e (by decide), fun e => absurd e h⟩, ⟨fun e => absurd e (by decide), fun e => absurd e h⟩⟩
def StPost (o : Ob) (s : Sy) (W : World) (e : Ending) (w' : World) : Prop := ∃ b, e = .returned (.bool b) ∧ StB o s b ∧ Below W.heap.size W w'
theorem st_yes {o : Ob} {s : Sy} (h : Stands o s) {W w' : World} (hb : Below W.heap.size W w') : StPost o s W (.returned (.bool true)) w' := ⟨true, rfl, ⟨fun _ => h, fun _ => rfl⟩, hb⟩
theorem st_no {o : Ob} {s : Sy} (h : ¬ Stands o s) {W w' : World} (hb : Below W.heap.size W w') : StPost o s W (.returned (.bool false)) w' := ⟨false, rfl, ⟨fun e => absurd e (by decide), fun e => absurd e h⟩, hb⟩
theorem stands_any (o : Ob) (s : Sy) (W : World) (A0 A1 : Option Addr) (c0 c1 : Nat) (h0 : SeA W A0 o.f0) (hol : o.f0.length ≤ 100000) :
 Calls Tryz.prog 64 #[.agg #[.slice A0 o.f0.length c0, .slice A1 o.f1.length c1], .agg #[.string s.f0, .int .i64 s.f1, .int .i64 s.f2, .int .i64 s.f3]] W (StPost o s W) := by
 have H0 := Azz.mk h0
 have HS : Azz (Stands o s ↔ (s.f2 = -1 ∧ s.f1 ≠ 1 ∧ s.f3 = 0) ∨ (s.f2 ≠ -1 ∧ 0 ≤ s.f2 ∧ s.f2 < o.f0.length ∧ 0 ≤ s.f3 ∧ s.f3 ≤ ((P.rd_T64 o.f0 s.f2).f4.size : Int))) := ⟨Iff.rfl⟩
 clear h0
 obtain ⟨nm, bd, sc, off⟩ := s
 dsimp only at HS ⊢
 have HB := Azz.mk (bAA (bAA (Below.refl W.heap.size W) (.cells #[.slice A0 o.f0.length c0, .slice A1 o.f1.length c1] 68)) (.cells #[.string nm, .int .i64 bd, .int .i64 sc, .int .i64 off] 85))
 have hx := kAA (blk_new W (.cells #[.slice A0 o.f0.length c0, .slice A1 o.f1.length c1] 68)) (.cells #[.string nm, .int .i64 bd, .int .i64 sc, .int .i64 off] 85)
 have hy := blk_new (W.alloc (.cells #[.slice A0 o.f0.length c0, .slice A1 o.f1.length c1] 68)) (.cells #[.string nm, .int .i64 bd, .int .i64 sc, .int .i64 off] 85)
 rw [World.size_alloc] at hy
 have z0 := (kCC hx 0).trans rfl
 obtain ⟨y0, y1, y2, y3⟩ := cl4 hy
 clear hx hy
 go_enter Tryz.func64, Tryz.ntmps64
 by_cases c1 : sc = -1
 ·subst c1
  by_cases c2 : bd = 1
  ·have b2 : (bd != 1) = false := by simp [c2]
   have H2 := Azz.mk c2
   clear c2
   go_wp2
   go_ret
   exact st_no (fun h => by have := HS.out.1 h; have := H2.out; omega) HB.out
  ·have b2 : (bd != 1) = true := bne_iff_ne.mpr c2
   have H2 := Azz.mk c2
   clear c2
   by_cases c3 : off = 0
   ·have b3 : (off == 0) = true := beq_iff_eq.mpr c3
    have H3 := Azz.mk c3
    clear c3
    go_wp2
    go_ret
    exact st_yes (HS.out.2 (.inl ⟨by first | rfl | trivial, H2.out, H3.out⟩)) HB.out
   ·have b3 : (off == 0) = false := beq_eq_false_iff_ne.mpr c3
    have H3 := Azz.mk c3
    clear c3
    go_wp2
    go_ret
    exact st_no (fun h => by have := HS.out.1 h; have := H3.out; omega) HB.out
 ·have b1 : (sc == -1) = false := beq_eq_false_iff_ne.mpr c1
  by_cases c2 : 0 ≤ sc
  ·have b2 : decide (0 ≤ sc) = true := decide_eq_true c2
   by_cases c3 : sc < o.f0.length
   ·have b3 : decide (sc < o.f0.length) = true := decide_eq_true c3
    by_cases c4 : 0 ≤ off
    ·have b4 : decide (0 ≤ off) = true := decide_eq_true c4
     obtain ⟨q, hq⟩ : ∃ q : Nat, sc = q := ⟨sc.toNat, by omega⟩
     subst hq
     obtain ⟨ad, A5, c5, ea, _, _, _, _, x4, _, _, _⟩ := P.at_T64 (Kd.C_below H0.out HB.out) q (by omega) (by omega)
     cases ea
     rw [Int.toNat_natCast] at x4
     obtain ⟨d, hd⟩ : ∃ d, (P.rd_T64 o.f0 (q : Int)).f4 = d := ⟨_, rfl⟩
     rw [hd] at x4 HS
     have H1 := Azz.mk (And.intro c1 (And.intro c2 (And.intro c3 c4)))
     clear hd c1
     by_cases c5 : off ≤ d.size
     ·have b5 : decide (off ≤ d.size) = true := decide_eq_true c5
      have H5 := Azz.mk c5
      clear c5
      go_wp2
      go_quiet (fail)
      go_wp2
      go_ret
      exact st_yes (HS.out.2 (.inr ⟨H1.out.1, H1.out.2.1, H1.out.2.2.1, H1.out.2.2.2, H5.out⟩)) (bNN HB.out _)
     ·have b5 : decide (off ≤ d.size) = false := decide_eq_false c5
      have H5 := Azz.mk c5
      clear c5
      go_wp2
      go_quiet (fail)
      go_wp2
      go_ret
      exact st_no (fun h => by have := HS.out.1 h; have := H5.out; have := H1.out; omega) (bNN HB.out _)
    ·have b4 : decide (0 ≤ off) = false := decide_eq_false c4
     have H1 := Azz.mk (And.intro c1 c4)
     clear c1 c4
     go_wp2
     go_quiet (fail)
     go_wp2
     go_ret
     exact st_no (fun h => by have := HS.out.1 h; have := H1.out; omega) (bNN HB.out _)
   ·have b3 : decide (sc < o.f0.length) = false := decide_eq_false c3
    have H1 := Azz.mk (And.intro c1 c3)
    clear c1 c3
    go_wp2
    go_quiet (fail)
    go_wp2
    go_ret
    exact st_no (fun h => by have := HS.out.1 h; have := H1.out; omega) (bNN HB.out _)
  ·have b2 : decide (0 ≤ sc) = false := decide_eq_false c2
   have H1 := Azz.mk (And.intro c1 c2)
   clear c1 c2
   go_wp2
   go_quiet (fail)
   go_wp2
   go_ret
   exact st_no (fun h => by have := HS.out.1 h; have := H1.out; omega) (bNN HB.out _)
theorem stands_calls {o : Ob} {s : Sy} {b : Bool} (hb : StB o s b) (W : World) (A0 A1 : Option Addr) (c0 c1 : Nat) (h0 : SeA W A0 o.f0) (l0 : o.f0.length ≤ c0) (h1 : SyA W A1 o.f1) (l1 : o.f1.length ≤ c1) (hol : o.f0.length ≤ 100000) :
 Calls Tryz.prog 64 #[.agg #[.slice A0 o.f0.length c0, .slice A1 o.f1.length c1], .agg #[.string s.f0, .int .i64 s.f1, .int .i64 s.f2, .int .i64 s.f3]] W fun e w' => e = .returned (.bool b) ∧ Below W.heap.size W w' :=
 (stands_any o s W A0 A1 c0 c1 h0 hol).mono fun e w' ⟨b', he, hb', hw⟩ => ⟨by rw [he, Bool.eq_iff_iff.2 (hb'.trans hb.symm)], hw⟩
abbrev blk2 (t : TypeId) (w : World) (g : Nat) (a b : Value) : Prop := w.heap[g]? = some (.cells #[a, b] t (0, 0))
theorem blk2_cells {t : TypeId} {w : World} {g : Nat} {a b : Value} (h : blk2 t w g a b) : w.cell? ⟨g, 0, none⟩ = some a ∧ w.cell? ⟨g, 1, none⟩ = some b := ⟨(kCC h 0).trans rfl, (kCC h 1).trans rfl⟩
theorem nil_of_size {s : ByteArray} (h : s.size = 0) : s.toList = [] := by
 obtain ⟨a⟩ := s
 have : a.size = 0 := h
 obtain rfl := Array.size_eq_zero_iff.1 this
 rw [ByteArray.toList_eq]
theorem size_of_nil {s : ByteArray} (h : s.toList = []) : s.size = 0 := by
 rw [ByteArray.toList_eq] at h
 have := congrArg List.length h
 rw [Array.length_toList] at this
 exact this
/-- The names of the first i sections. -/
def SeNames (o : Ob) (i : Nat) (s : ByteArray) : Prop := ∃ k, k < i ∧ (seN o k).f0 = s
def SyNames (o : Ob) (i : Nat) (s : ByteArray) : Prop := ∃ k, k < i ∧ ¬ skipQ (smN o k) ∧ (smN o k).f0 = s
theorem seNames_succ (o : Ob) (i : Nat) (s : ByteArray) : (s = (seN o i).f0 ∨ SeNames o i s) ↔ SeNames o (i + 1) s := by
 unfold SeNames
 constructor
 ·rintro (rfl | ⟨k, h1, h2⟩)
  ·exact ⟨i, by omega, rfl⟩
  ·exact ⟨k, by omega, h2⟩
 ·rintro ⟨k, h1, h2⟩
  by_cases e : k = i
  ·subst e; exact .inl h2.symm
  ·exact .inr ⟨k, by omega, h2⟩
theorem syNames_succ (o : Ob) (i : Nat) (hn : ¬ skipQ (smN o i)) (s : ByteArray) : (s = (smN o i).f0 ∨ SyNames o i s) ↔ SyNames o (i + 1) s := by
 unfold SyNames
 constructor
 ·rintro (rfl | ⟨k, h1, h2, h3⟩)
  ·exact ⟨i, by omega, hn, rfl⟩
  ·exact ⟨k, by omega, h2, h3⟩
 ·rintro ⟨k, h1, h2, h3⟩
  by_cases e : k = i
  ·subst e; exact .inl h3.symm
  ·exact .inr ⟨k, by omega, h2, h3⟩
theorem syNames_skip (o : Ob) (i : Nat) (hn : skipQ (smN o i)) (s : ByteArray) : SyNames o i s ↔ SyNames o (i + 1) s := by
 unfold SyNames
 constructor
 ·rintro ⟨k, h1, h2, h3⟩
  exact ⟨k, by omega, h2, h3⟩
 ·rintro ⟨k, h1, h2, h3⟩
  by_cases e : k = i
  ·subst e; exact absurd hn h2
  ·exact ⟨k, by omega, h2, h3⟩
theorem upto1 {p : Nat → Prop} {k : Nat} (h : ∀ q, q < k → p q) (hk : p k) : ∀ q, q < k + 1 → p q := fun q hq => by
 rcases Nat.lt_or_ge q k with c | c
 ·exact h q c
 ·obtain rfl : q = k := by omega
  exact hk
def IsPost (o : Ob) (w : World) (e : Ending) (w' : World) : Prop := ∃ b, e = .returned (.bool b) ∧ (b = true ↔ ObOk o) ∧ Below w.heap.size w w'
/-- The second loop: symbols. -/
def SymsOk (o : Ob) (i : Nat) : Prop := ∀ k, k < i → SymGood o k
theorem objIs_any (w : World) (A0 A1 : Option Addr) (c0 c1 : Nat) (o : Ob) (hG : Glob w) (hse : SeA w A0 o.f0) (hc0 : o.f0.length ≤ c0) (hsy : SyA w A1 o.f1) (hc1 : o.f1.length ≤ c1) (hf : FewO o) :
 Calls Tryz.prog 54 #[.agg #[.slice A0 o.f0.length c0, .slice A1 o.f1.length c1]] w (IsPost o w) := by
 have HG := Azz.mk hG
 have HS := Azz.mk hse
 have HY := Azz.mk hsy
 have HF := Azz.mk hf
 have hls := hf.secs
 have hly := hf.syms
 clear hG hse hsy hf
 by_cases g1 : (32 : Int) < o.f0.length
 ·go_enter Tryz.func54, Tryz.ntmps54
  go_wp2
  go_ret
  exact ⟨false, rfl, ⟨fun h => absurd h (by decide), fun h => by have := h.secs; omega⟩, (Below.refl _ _).alloc (Nat.le_refl _) _⟩
 by_cases g2 : (128 : Int) < o.f1.length
 ·go_enter Tryz.func54, Tryz.ntmps54
  go_wp2
  go_ret
  exact ⟨false, rfl, ⟨fun h => absurd h (by decide), fun h => by have := h.syms; omega⟩, (Below.refl _ _).alloc (Nat.le_refl _) _⟩
 have hmm := @run_makeMap Tryz.prog
 go_enter Tryz.func54, Tryz.ntmps54
 go_wp2
 go_loopw [29] (fun v wr => ∃ i : Nat, i ≤ o.f0.length ∧ v = .int .i64 i ∧ Azz (NMap wr (w.heap.size + 1) i (SeNames o i)) ∧ Azz (∀ k, k < i → SecGood o k) ∧ Azz (Below w.heap.size w wr) ∧ Azz (blk2 68 wr w.heap.size (.slice A0 o.f0.length c0) (.slice A1 o.f1.length c1))) (fun v _ => o.f0.length - (RowKit.intOf v).toNat)
 case atStart =>
  refine ⟨0, Nat.zero_le _, rfl, ⟨?_⟩, ⟨fun k h => absurd h (Nat.not_lt_zero _)⟩, ⟨((Below.refl _ _).alloc (Nat.le_refl _) _).alloc (by simp) _⟩, ⟨kAA (blk_new w _) _⟩⟩
  have := NMap.made (w.alloc (.cells #[.slice A0 o.f0.length c0, .slice A1 o.f1.length c1] 68))
  rw [World.size_alloc] at this
  exact this.congr fun s => ⟨fun h => h.elim, fun ⟨k, h, _⟩ => absurd h (Nat.not_lt_zero _)⟩
 case round =>
  obtain ⟨i, hi, rfl, HN, HK, HB, HX⟩ := hrel
  by_cases hlt : i < o.f0.length
  ·obtain ⟨ad, A5, c5, e, x0, x1, x2, x3, x4, x5, l5, C5⟩ := P.at_T64 HS.out i (by omega) (by omega)
   subst e
   rw [Int.toNat_natCast] at x0 x1 x2 x3 x4 x5
   replace x0 := keepS x0 HB.out
   replace x1 := keepS x1 HB.out
   replace x2 := keepS x2 HB.out
   replace x3 := keepS x3 HB.out
   replace x4 := keepS x4 HB.out
   replace x5 := keepS x5 HB.out
   have hfi := HF.out.sec i hlt
   have hi0 : (0 : Int) ≤ (i : Int) := by omega
   have hi1 : (i : Int) < o.f0.length := by omega
   have hwf := WalkArith.wf_i64 (n := (i : Int)) (by omega)
   have hmn : i < maxLen := by unfold maxLen; omega
   obtain ⟨b, hb⟩ := isB_ends (scOf (seN o i))
   obtain ⟨s, hs⟩ : ∃ s, seN o i = s := ⟨_, rfl⟩
   have HSe := Azz.mk hs
   unfold seN at hs
   rw [hs] at x0 x1 x2 x3 x4 x5 l5 C5
   rw [HSe.out] at hb hfi
   clear hs
   have HC5 := Azz.mk C5
   have HBi := Azz.mk hb
   have hnm := hfi.2.2
   have hr80 := hfi.2.1
   clear hb C5 hfi
   by_cases hd : SeNames o i s.f0
   ·go_wp2_with (at_lookup; refine wpl_nlook _ rfl _ _ rfl (w.heap.size + 1) i _ s.f0 rfl (HN.out.alloc _) rfl hnm ?_; intro cc yy hyy; obtain rfl : yy = true := hyy.2 hd; clear hyy)
    go_ret
    refine ⟨false, rfl, ⟨fun h => absurd h (by decide), fun h => ?_⟩, HB.out.alloc HB.out.size _⟩
    obtain ⟨k, hk, e⟩ := hd
    exact absurd (by rw [e, HSe.out]) ((h.sec i hlt).1 k hk)
   ·go_wp2_with (at_lookup; refine wpl_nlook _ rfl _ _ rfl (w.heap.size + 1) i _ s.f0 rfl (HN.out.alloc _) rfl hnm ?_; intro cc yy hyy; obtain rfl : yy = false := (by cases yy; rfl; exact absurd (hyy.1 rfl) hd); clear hyy)
    (with_reducible refine (part_calls HBi.out _ A5 c5 (HG.out.below (HB.out.alloc HB.out.size _)) (Kd.C_below HC5.out (HB.out.alloc HB.out.size _)) (show (scOf s).rels.length ≤ c5 from l5)).mono ?_)
    rintro e w2 ⟨rfl, hb2⟩
    have HB2 := Azz.mk (bTT (HB.out.alloc HB.out.size _) hb2)
    have HX2 := Azz.mk (kBB (kAA HX.out _) hb2)
    have HN2 := Azz.mk ((HN.out.alloc _).below hb2 (by simp; have := HN.out.lt; omega))
    have HSx := Azz.mk (kBB (blk_new wr _) hb2)
    have hz := hb2.size
    rw [World.size_alloc] at hz
    have hg1 := HN.out.lt
    clear hb2 HB HX HN x0 x1 x2 x3 x4 x5
    cases b with
    | false =>
     go_wp2
     go_ret
     refine ⟨false, rfl, ⟨fun h => absurd h (by decide), fun h => ?_⟩, HB2.out⟩
     have := (h.sec i hlt).2.1
     rw [HSe.out] at this
     exact isB_one HBi.out this
    | true =>
     have z0 := (kCC HSx.out 0).trans rfl
     go_wp2_with (at_mapUpdate; refine wpl_nstore _ rfl _ _ _ rfl (w.heap.size + 1) i _ s.f0 i rfl HN2.out hmn rfl rfl hnm hwf ?_; intro w3 hN3 hT3; have HT3 := Azz.mk hT3.grown; have HN3 := Azz.mk (hN3.congr (by rw [← HSe.out]; exact seNames_succ o i)); have z5 := (kCC ((HT3.out.block wr.heap.size (by omega) (by simp; have := HN2.out.lt; omega)).trans HSx.out) 5).trans rfl; clear hN3 hT3)
     have HB3 := Azz.mk (HB2.out.grown HT3.out HB2.out.size (fun q hq => by obtain rfl := Option.some.inj hq; omega))
     have HX3 := Azz.mk ((HT3.out.block w.heap.size (by have := HN2.out.lt; omega) (by simp)).trans HX2.out)
     have hgood := And.intro (fun k hk => (fun e => hd ⟨k, hk, e⟩ : (seN o k).f0 ≠ s.f0)) HBi.out
     have HGd := Azz.mk hgood
     clear hgood HT3 HN2 HX2 HB2 HSx z0 hz
     go_loopw [54] (fun v wy => ∃ j : Nat, j ≤ s.f5.length ∧ v = .int .i64 j ∧ Azz (NMap wy (w.heap.size + 1) (i + 1) (SeNames o (i + 1))) ∧ Azz (∀ q, q < j → (P.rd_T98 s.f5 q).f2 < o.f1.length) ∧ Azz (Below w.heap.size w wy) ∧ Azz (blk2 68 wy w.heap.size (.slice (some ad) o.f0.length c0) (.slice A1 o.f1.length c1))) (fun v _ => s.f5.length - (RowKit.intOf v).toNat)
     case atStart => exact ⟨0, Nat.zero_le _, rfl, HN3, ⟨fun q h => absurd h (Nat.not_lt_zero _)⟩, HB3, HX3⟩
     case round =>
      clear HN3 HB3 HX3 z5
      obtain ⟨j, hj, rfl, HN, HQ, HB, HX⟩ := hrel
      by_cases hjl : j < s.f5.length
      ·obtain ⟨ad5, e5, r0, r1, r2, r3⟩ := P.at_T98 HC5.out j (by omega) (by omega)
       subst e5
       rw [Int.toNat_natCast] at r0 r1 r2 r3
       replace r0 := keepS r0 HB.out
       replace r1 := keepS r1 HB.out
       replace r2 := keepS r2 HB.out
       replace r3 := keepS r3 HB.out
       obtain ⟨r, hr⟩ : ∃ r, P.rd_T98 s.f5 j = r := ⟨_, rfl⟩
       rw [hr] at r0 r1 r2 r3
       have HR := Azz.mk hr
       clear hr
       have hj0 : (0 : Int) ≤ (j : Int) := by omega
       have hj1 : (j : Int) < s.f5.length := by omega
       have hx2 := fun ob => (blk2_cells (kAA HX.out ob)).2
       by_cases hc : (o.f1.length : Int) ≤ r.f2
       ·go_wp2
        go_ret
        refine ⟨false, rfl, ⟨fun h => absurd h (by decide), fun h => ?_⟩, HB.out.alloc HB.out.size _⟩
        have := (h.sec i hlt).2.2 j (by rw [HSe.out]; exact hjl)
        rw [HSe.out, HR.out] at this
        omega
       ·go_wp2
        go_roundw
        case rel => exact ⟨j + 1, by omega, by go_num, ⟨HN.out.alloc _⟩, ⟨upto1 HQ.out (by rw [HR.out]; omega)⟩, ⟨HB.out.alloc HB.out.size _⟩, ⟨kAA HX.out _⟩⟩
        case measure => simp [RowKit.intOf]; omega
      ·obtain rfl : j = s.f5.length := by omega
       go_wp2
       go_roundw
       case rel => exact ⟨i + 1, by omega, by go_num, HN, ⟨upto1 HK.out ⟨by rw [HSe.out]; exact HGd.out.1, by rw [HSe.out]; exact HGd.out.2, by rw [HSe.out]; exact HQ.out⟩⟩, HB, HX⟩
       case measure => simp [RowKit.intOf]; omega
  ·obtain rfl : i = o.f0.length := by omega
   have hx2 := fun ob => (blk2_cells (kAA HX.out ob)).2
   go_wp2
   have hsz := HN.out.lt
   go_loopw [70] (fun v wx => ∃ k : Nat, k ≤ o.f1.length ∧ v = .int .i64 k ∧ Azz (NMap wx wr.heap.size k (SyNames o k)) ∧ Azz (SymsOk o k) ∧ Azz (Below w.heap.size w wx) ∧ Azz (blk2 68 wx w.heap.size (.slice A0 o.f0.length c0) (.slice A1 o.f1.length c1))) (fun v _ => o.f1.length - (RowKit.intOf v).toNat)
   case atStart => exact ⟨0, Nat.zero_le _, rfl, ⟨(NMap.made wr).congr fun s => ⟨fun h => h.elim, fun ⟨k, h, _⟩ => absurd h (Nat.not_lt_zero _)⟩⟩, ⟨fun k h => absurd h (Nat.not_lt_zero _)⟩, ⟨HB.out.alloc HB.out.size _⟩, ⟨kAA HX.out _⟩⟩
   case round =>
    clear HN HB HX hx2
    obtain ⟨k, hk, rfl, HN, HQ, HB, HX⟩ := hrel
    by_cases hkl : k < o.f1.length
    ·obtain ⟨ad, e, y0, y1, y2, y3⟩ := P.at_T85 HY.out k (by omega) (by omega)
     subst e
     rw [Int.toNat_natCast] at y0 y1 y2 y3
     replace y0 := keepS y0 HB.out
     replace y1 := keepS y1 HB.out
     replace y2 := keepS y2 HB.out
     replace y3 := keepS y3 HB.out
     have hk0 : (0 : Int) ≤ (k : Int) := by omega
     have hk1 : (k : Int) < o.f1.length := by omega
     have hwf := WalkArith.wf_i64 (n := (k : Int)) (by omega)
     have hmn : k < maxLen := by unfold maxLen; omega
     have hnm := HF.out.sym k hkl
     obtain ⟨s, hs⟩ : ∃ s, smN o k = s := ⟨_, rfl⟩
     have HSe := Azz.mk hs
     unfold smN at hs
     rw [hs] at y0 y1 y2 y3
     rw [HSe.out] at hnm
     clear hs
     have hx1 := fun ob => (blk2_cells (kAA HX.out ob)).1
     have hx2 := fun ob => (blk2_cells (kAA HX.out ob)).2
     have bad : ¬ SymGood o k → ∀ w', Below w.heap.size w w' → IsPost o w (.returned (.bool false)) w' := fun h w' hb => ⟨false, rfl, ⟨fun e => absurd e (by decide), fun e => absurd (e.sym k hkl) h⟩, hb⟩
     have HBad := Azz.mk bad
     clear bad
     by_cases b1 : s.f1 < 1
     ·go_wp2
      go_ret
      exact HBad.out (fun h => by have := h.1; rw [HSe.out] at this; omega) _ (HB.out.alloc HB.out.size _)
     by_cases b2 : 3 < s.f1
     ·go_wp2
      go_ret
      exact HBad.out (fun h => by have := h.1; rw [HSe.out] at this; omega) _ (HB.out.alloc HB.out.size _)
     obtain ⟨b, hb, hbi⟩ := stands_some o s
     have HSt := Azz.mk (And.intro hb hbi)
     clear hb hbi
     go_wp2_with fail
     (with_reducible refine (stands_calls HSt.out.1 _ A0 (some ad) c0 c1 (Kd.C_below HS.out (HB.out.alloc HB.out.size _)) hc0 (Kd.C_below HY.out (HB.out.alloc HB.out.size _)) hc1 (by omega)).mono ?_)
     rintro e w2 ⟨rfl, hb2⟩
     have HB2 := Azz.mk (bTT (HB.out.alloc HB.out.size _) hb2)
     have HX2 := Azz.mk (kBB (kAA HX.out _) hb2)
     have HN2 := Azz.mk ((HN.out.alloc _).below hb2 (by simp; have := HN.out.lt; omega))
     have HSx := Azz.mk (kBB (blk_new wr _) hb2)
     have hz := hb2.size
     clear hb2 HB HX HN y0 y1 y2 y3 hx1 hx2
     cases b with
     | false =>
      go_wp2
      go_ret
      exact HBad.out (fun h => by have := h.2.1; rw [HSe.out] at this; exact absurd (HSt.out.2.2 this) (by decide)) _ HB2.out
     | true =>
      have z0 := (kCC HSx.out 0).trans rfl
      have z1 := (kCC HSx.out 1).trans rfl
      have sk0 : (skipQ s) ∨ (¬ skipQ s ∧ s.f0.toList ≠ []) ∨ (¬ skipQ s ∧ s.f0.toList = [] ∧ s.f1 ≠ 1) := by
       by_cases a : s.f0.toList = []
       ·by_cases b : s.f1 = 1
        ·exact .inl ⟨size_of_nil a, b⟩
        ·exact .inr (.inr ⟨fun c => b c.2, a, b⟩)
       ·exact .inr (.inl ⟨fun c => a (nil_of_size c.1), a⟩)
      rcases sk0 with sk | ⟨sk, ne⟩ | ⟨sk, ne, nb⟩
      ·have e0 : (s.f0.toList == ([] : List UInt8)) = true := by rw [nil_of_size sk.1]; rfl
       have e1 : s.f0.toList.isEmpty = true := by rw [nil_of_size sk.1]; rfl
       have e2 : (s.f1 == 1) = true := beq_iff_eq.mpr sk.2
       go_wp2
       go_roundw
       case rel => exact ⟨k + 1, by omega, by go_num, ⟨(HN2.out.congr (syNames_skip o k (by rw [HSe.out]; exact sk))).mono (Nat.le_succ _)⟩, ⟨upto1 HQ.out ⟨by rw [HSe.out]; omega, by rw [HSe.out]; exact HSt.out.2.1 (by simp), by rw [HSe.out]; exact .inl sk⟩⟩, HB2, HX2⟩
       case measure => simp [RowKit.intOf]; omega
      ·have e0 : (s.f0.toList == ([] : List UInt8)) = false := beq_eq_false_iff_ne.mpr ne
       have e1 : s.f0.toList.isEmpty = false := by cases h : s.f0.toList with | nil => exact absurd h ne | cons a b => rfl
       by_cases hd : SyNames o k s.f0
       ·go_wp2_with (at_lookup; refine wpl_nlook _ rfl _ _ rfl _ k _ s.f0 rfl HN2.out rfl hnm ?_; intro cc yy hyy; obtain rfl : yy = true := hyy.2 hd; clear hyy)
        go_ret
        refine HBad.out (fun h => ?_) _ HB2.out
        have h3 := h.2.2
        rw [HSe.out] at h3
        rcases h3 with h3 | h3
        ·exact sk h3
        ·obtain ⟨q, hq, hq2, hq3⟩ := hd
         exact h3.2 q hq hq2 hq3
       ·obtain ⟨bn, hbn⟩ := name_ends s.f0
        have HNm := Azz.mk hbn
        clear hbn
        go_wp2_with (at_lookup; refine wpl_nlook _ rfl _ _ rfl _ k _ s.f0 rfl HN2.out rfl hnm ?_; intro cc yy hyy; obtain rfl : yy = false := (by cases yy; rfl; exact absurd (hyy.1 rfl) hd); clear hyy)
        (with_reducible refine (name_calls HNm.out _).mono ?_)
        rintro e w3 ⟨rfl, hb3⟩
        have HN3 := Azz.mk (HN2.out.below hb3 HN2.out.lt)
        have HX3 := Azz.mk (kBB HX2.out hb3)
        have HSz := Azz.mk (kBB HSx.out hb3)
        have HB3 := Azz.mk (bTT HB2.out hb3)
        clear hb3 z0 z1 HN2 HX2 HSx HB2
        cases bn with
        | false =>
         go_wp2
         go_ret
         refine HBad.out (fun h => ?_) _ HB3.out
         have h3 := h.2.2
         rw [HSe.out] at h3
         rcases h3 with h3 | h3
         ·exact sk h3
         ·exact absurd (Ev.one HNm.out h3.1) (by decide)
        | true =>
         have z0 := (kCC HSz.out 0).trans rfl
         go_wp2_with (at_mapUpdate; refine wpl_nstore _ rfl _ _ _ rfl _ k _ s.f0 k rfl HN3.out hmn rfl rfl hnm hwf ?_; intro w4 hN4 hT4; have HT4 := Azz.mk hT4.grown; have HN4 := Azz.mk (hN4.congr (by rw [← HSe.out]; exact syNames_succ o k (by rw [HSe.out]; exact sk))); clear hN4 hT4)
         go_roundw
         case rel => exact ⟨k + 1, by omega, by go_num, HN4, ⟨upto1 HQ.out ⟨by rw [HSe.out]; omega, by rw [HSe.out]; exact HSt.out.2.1 (by simp), by rw [HSe.out]; exact .inr ⟨HNm.out, fun q hq hq2 hq3 => hd ⟨q, hq, hq2, hq3⟩⟩⟩⟩, ⟨HB3.out.grown HT4.out HB3.out.size (fun q hq => by obtain rfl := Option.some.inj hq; omega)⟩, ⟨(HT4.out.block w.heap.size (Array.getElem?_eq_some_iff.1 HX3.out).1 (by simp; omega)).trans HX3.out⟩⟩
         case measure => simp [RowKit.intOf]; omega
      ·have e0 : (s.f0.toList == ([] : List UInt8)) = true := by rw [ne]; rfl
       have e1 : s.f0.toList.isEmpty = true := by rw [ne]; rfl
       have e2 : (s.f1 == 1) = false := beq_eq_false_iff_ne.mpr nb
       by_cases hd : SyNames o k s.f0
       ·go_wp2_with (at_lookup; refine wpl_nlook _ rfl _ _ rfl _ k _ s.f0 rfl HN2.out rfl hnm ?_; intro cc yy hyy; obtain rfl : yy = true := hyy.2 hd; clear hyy)
        go_ret
        refine HBad.out (fun h => ?_) _ HB2.out
        have h3 := h.2.2
        rw [HSe.out] at h3
        rcases h3 with h3 | h3
        ·exact sk h3
        ·obtain ⟨q, hq, hq2, hq3⟩ := hd
         exact h3.2 q hq hq2 hq3
       ·obtain ⟨bn, hbn⟩ := name_ends s.f0
        have HNm := Azz.mk hbn
        clear hbn
        go_wp2_with (at_lookup; refine wpl_nlook _ rfl _ _ rfl _ k _ s.f0 rfl HN2.out rfl hnm ?_; intro cc yy hyy; obtain rfl : yy = false := (by cases yy; rfl; exact absurd (hyy.1 rfl) hd); clear hyy)
        (with_reducible refine (name_calls HNm.out _).mono ?_)
        rintro e w3 ⟨rfl, hb3⟩
        have HN3 := Azz.mk (HN2.out.below hb3 HN2.out.lt)
        have HX3 := Azz.mk (kBB HX2.out hb3)
        have HSz := Azz.mk (kBB HSx.out hb3)
        have HB3 := Azz.mk (bTT HB2.out hb3)
        clear hb3 z0 z1 HN2 HX2 HSx HB2
        cases bn with
        | false =>
         go_wp2
         go_ret
         refine HBad.out (fun h => ?_) _ HB3.out
         have h3 := h.2.2
         rw [HSe.out] at h3
         rcases h3 with h3 | h3
         ·exact sk h3
         ·exact absurd (Ev.one HNm.out h3.1) (by decide)
        | true =>
         have z0 := (kCC HSz.out 0).trans rfl
         go_wp2_with (at_mapUpdate; refine wpl_nstore _ rfl _ _ _ rfl _ k _ s.f0 k rfl HN3.out hmn rfl rfl hnm hwf ?_; intro w4 hN4 hT4; have HT4 := Azz.mk hT4.grown; have HN4 := Azz.mk (hN4.congr (by rw [← HSe.out]; exact syNames_succ o k (by rw [HSe.out]; exact sk))); clear hN4 hT4)
         go_roundw
         case rel => exact ⟨k + 1, by omega, by go_num, HN4, ⟨upto1 HQ.out ⟨by rw [HSe.out]; omega, by rw [HSe.out]; exact HSt.out.2.1 (by simp), by rw [HSe.out]; exact .inr ⟨HNm.out, fun q hq hq2 hq3 => hd ⟨q, hq, hq2, hq3⟩⟩⟩⟩, ⟨HB3.out.grown HT4.out HB3.out.size (fun q hq => by obtain rfl := Option.some.inj hq; omega)⟩, ⟨(HT4.out.block w.heap.size (Array.getElem?_eq_some_iff.1 HX3.out).1 (by simp; omega)).trans HX3.out⟩⟩
         case measure => simp [RowKit.intOf]; omega
    ·obtain rfl : k = o.f1.length := by omega
     go_wp2
     go_ret
     exact ⟨true, rfl, ⟨fun _ => ⟨by omega, by omega, HK.out, HQ.out⟩, fun _ => rfl⟩, HB.out⟩
end Go.Proofs.YtngmipfodjgmmaaGreatDoor.Pure
