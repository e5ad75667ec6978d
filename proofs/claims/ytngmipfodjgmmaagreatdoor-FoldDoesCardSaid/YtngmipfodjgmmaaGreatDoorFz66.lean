/- Walks and plain laws of this claim, a part. -/
import Derived.Test.YtngmipfodjgmmaaGreatDoorFz64
set_option maxRecDepth 100000
set_option maxHeartbeats 8000000
set_option linter.unusedVariables false
set_option linter.unusedSimpArgs false
section
namespace Go.Proofs.YtngmipfodjgmmaaGreatDoor.Pure
open Go Go.RowKit Go.Lib Go.Shelf Wa Wb Wc
open P (Glob)
theorem kp1 {w w1 : World} {p : Addr} {v : Value} (h : w.cell? p = some v) (hb : Below w.heap.size w w1) : w1.cell? p = some v := (hb.cell (World.block_lt_of_cell? _ _ h)).trans h
theorem kp6 {w w1 : World} {p0 p1 p2 p3 p4 p5 : Addr} {v0 v1 v2 v3 v4 v5 : Value} (h : w.cell? p0 = some v0 ∧ w.cell? p1 = some v1 ∧ w.cell? p2 = some v2 ∧ w.cell? p3 = some v3 ∧ w.cell? p4 = some v4 ∧ w.cell? p5 = some v5) (hb : Below w.heap.size w w1) : w1.cell? p0 = some v0 ∧ w1.cell? p1 = some v1 ∧ w1.cell? p2 = some v2 ∧ w1.cell? p3 = some v3 ∧ w1.cell? p4 = some v4 ∧ w1.cell? p5 = some v5 := by
 obtain ⟨a0, a1, a2, a3, a4, a5⟩ := h
 exact ⟨kp1 a0 hb, kp1 a1 hb, kp1 a2 hb, kp1 a3 hb, kp1 a4 hb, kp1 a5 hb⟩
theorem kp10 {w w1 : World} {p0 p1 p2 p3 p4 p5 p6 p7 p8 p9 : Addr} {v0 v1 v2 v3 v4 v5 v6 v7 v8 v9 : Value} (h : w.cell? p0 = some v0 ∧ w.cell? p1 = some v1 ∧ w.cell? p2 = some v2 ∧ w.cell? p3 = some v3 ∧ w.cell? p4 = some v4 ∧ w.cell? p5 = some v5 ∧ w.cell? p6 = some v6 ∧ w.cell? p7 = some v7 ∧ w.cell? p8 = some v8 ∧ w.cell? p9 = some v9) (hb : Below w.heap.size w w1) : w1.cell? p0 = some v0 ∧ w1.cell? p1 = some v1 ∧ w1.cell? p2 = some v2 ∧ w1.cell? p3 = some v3 ∧ w1.cell? p4 = some v4 ∧ w1.cell? p5 = some v5 ∧ w1.cell? p6 = some v6 ∧ w1.cell? p7 = some v7 ∧ w1.cell? p8 = some v8 ∧ w1.cell? p9 = some v9 := by
 obtain ⟨a0, a1, a2, a3, a4, a5, a6, a7, a8, a9⟩ := h
 exact ⟨kp1 a0 hb, kp1 a1 hb, kp1 a2 hb, kp1 a3 hb, kp1 a4 hb, kp1 a5 hb, kp1 a6 hb, kp1 a7 hb, kp1 a8 hb, kp1 a9 hb⟩
theorem cl4 {w : World} {g t : Nat} {v0 v1 v2 v3 : Value} (h : w.heap[g]? = some (.cells #[v0, v1, v2, v3] t (0, 0))) : w.cell? ⟨g, 0, none⟩ = some v0 ∧ w.cell? ⟨g, 1, none⟩ = some v1 ∧ w.cell? ⟨g, 2, none⟩ = some v2 ∧ w.cell? ⟨g, 3, none⟩ = some v3 :=
 ⟨kCC h 0, kCC h 1, kCC h 2, kCC h 3⟩
theorem cl6 {w : World} {g t : Nat} {v0 v1 v2 v3 v4 v5 : Value} (h : w.heap[g]? = some (.cells #[v0, v1, v2, v3, v4, v5] t (0, 0))) : w.cell? ⟨g, 0, none⟩ = some v0 ∧ w.cell? ⟨g, 1, none⟩ = some v1 ∧ w.cell? ⟨g, 2, none⟩ = some v2 ∧ w.cell? ⟨g, 3, none⟩ = some v3 ∧ w.cell? ⟨g, 4, none⟩ = some v4 ∧ w.cell? ⟨g, 5, none⟩ = some v5 :=
 ⟨kCC h 0, kCC h 1, kCC h 2, kCC h 3, kCC h 4, kCC h 5⟩
def RIsPost (s : Sc) (w : World) (e : Ending) (w' : World) : Prop := ∃ b, e = .returned (.bool b) ∧ IsB s b ∧ Below w.heap.size w w'
theorem isB_no {s : Sc} (h : ¬ Right s) : IsB s false := by
 obtain ⟨b, hb⟩ := isB_ends s
 cases b with
 | false => exact hb
 | true => exact absurd ((is_iff s).1 hb) h
theorem slice_i (D : ByteArray) (l h : Int) (h0 : 0 ≤ l) (h1 : l ≤ h) (h2 : h ≤ D.size) (W : World) : (Instr.slice 9 (.string D) (some (.int .i64 l)) (some (.int .i64 h)) none).run Tryz.prog W = .ok (.string (D.extract l.toNat h.toNat)) W := by
 have e : ((h.toNat : Nat) : Int) = h := Int.toNat_of_nonneg (by omega)
 simp [Instr.slice, run_underlying Tryz.underlying9, Instr.sliceBounds, run_sliceBound, sliced, h0, h1, h2, e, (by omega : 0 ≤ h)]
theorem over_calls (kd : Int) (r : P.S98) (d : ByteArray) (hd : r.f1 = 1 ∨ d.size = 4) : ∃ b, OverB kd r d b ∧ ∀ W, Glob W → Calls Tryz.prog 70 #[.int .i64 kd, .agg #[.int .i64 r.f0, .int .i64 r.f1, .int .i64 r.f2, .int .i64 r.f3], .string d] W fun e w' => e = .returned (.bool b) ∧ Below W.heap.size W w' := by
 obtain ⟨b, hb⟩ := over_ends kd r.f0 r.f1 r.f2 r.f3 d hd
 obtain ⟨K, hK⟩ := hb
 exact ⟨b, ⟨K, hK⟩, fun W hG => P.part_over.calls K kd r.f0 r.f1 r.f2 r.f3 d b W hG (hK K (Nat.le_refl _))⟩
theorem pis_sec (s : Sc) (A : Option Addr) (c : Nat) (w : World) (hG : Glob w) (hc : s.rels.length ≤ c) (hr : Kd.C P.k98 w A s.rels.length s.rels) :
 Calls Tryz.prog 58 #[.agg #[.string s.n, .int .i64 s.kd, .bool s.keep, .int .i64 s.al, .string s.data, .slice A s.rels.length c]] w (RIsPost s w) := by
 have HR := Azz.mk hr
 have HG := Azz.mk hG
 obtain ⟨nb, ⟨K, hK⟩⟩ := name_ends s.n
 have HNm := Azz.mk (fun W => P.local_IsName.calls K _ nb W (hK K (Nat.le_refl _)))
 have HN2 := Azz.mk (show Ev (fun k => P.local_IsName.f k s.n) nb from ⟨K, hK⟩)
 have no : ¬ Right s → ∀ w', Below w.heap.size w w' → RIsPost s w (.returned (.bool false)) w' := fun h w' hb => ⟨false, rfl, isB_no h, hb⟩
 have HNo := Azz.mk no
 clear hr hK no hG
 go_enter Tryz.func58, Tryz.ntmps58
 go_wp2_with fail
 (with_reducible refine (HNm.out _).mono ?_)
 rintro en w1 ⟨rfl, hb⟩
 have HX := Azz.mk (kBB (blk_new w (.cells #[.string s.n, .int .i64 s.kd, .bool s.keep, .int .i64 s.al, .string s.data, .slice A s.rels.length c] 64)) hb)
 have HB := Azz.mk (bTT ((Below.refl _ w).alloc (Nat.le_refl _) _) hb)
 obtain ⟨z0, z1, z2, z3, z4, z5⟩ := cl6 HX.out
 clear hb HNm
 cases nb with
 | false =>
  go_wp2
  go_ret
  exact HNo.out (fun h => absurd (Ev.one h.name HN2.out) (by decide)) _ HB.out
 | true =>
  by_cases c0 : s.kd < 1
  ·have b0 : decide (s.kd < 1) = true := dT_ c0
   have HC := Azz.mk c0
   clear c0
   go_wp2
   go_ret
   exact HNo.out (fun h => by have := h.kind.1; have := HC.out; omega) _ HB.out
  have b0 : decide (s.kd < 1) = false := dF_ c0
  have HC0 := Azz.mk c0
  clear c0
  by_cases c1 : 3 < s.kd
  ·have b1 : decide (3 < s.kd) = true := dT_ c1
   have HC := Azz.mk c1
   clear c1
   go_wp2
   go_ret
   exact HNo.out (fun h => by have := h.kind.2; have := HC.out; omega) _ HB.out
  have b1 : decide (3 < s.kd) = false := dF_ c1
  have HC1 := Azz.mk c1
  clear c1
  by_cases c2 : s.al < 0
  ·have b2 : decide (s.al < 0) = true := dT_ c2
   have HC := Azz.mk c2
   clear c2
   go_wp2
   go_ret
   exact HNo.out (fun h => by have := h.al.1; have := HC.out; omega) _ HB.out
  have b2 : decide (s.al < 0) = false := dF_ c2
  have HC2 := Azz.mk c2
  clear c2
  by_cases c3 : 12 < s.al
  ·have b3 : decide (12 < s.al) = true := dT_ c3
   have HC := Azz.mk c3
   clear c3
   go_wp2
   go_ret
   exact HNo.out (fun h => by have := h.al.2; have := HC.out; omega) _ HB.out
  have b3 : decide (12 < s.al) = false := dF_ c3
  have HC3 := Azz.mk c3
  clear c3
  by_cases c4 : (4096 : Int) < (s.data.size : Int)
  ·have b4 : decide ((4096 : Int) < (s.data.size : Int)) = true := dT_ c4
   have HC := Azz.mk c4
   clear c4
   go_wp2
   go_ret
   exact HNo.out (fun h => by have := h.data; have := HC.out; omega) _ HB.out
  have b4 : decide ((4096 : Int) < (s.data.size : Int)) = false := dF_ c4
  have HC4 := Azz.mk c4
  clear c4
  by_cases c5 : (64 : Int) < (s.rels.length : Int)
  ·have b5 : decide ((64 : Int) < (s.rels.length : Int)) = true := dT_ c5
   have HC := Azz.mk c5
   clear c5
   go_wp2
   go_ret
   exact HNo.out (fun h => by have := h.rels; have := HC.out; omega) _ HB.out
  have b5 : decide ((64 : Int) < (s.rels.length : Int)) = false := dF_ c5
  have HC5 := Azz.mk c5
  clear c5
  go_wp2
  clear z0 z1 z2 z3 z4 z5
  have HL := Azz.mk (show s.rels.length ≤ 64 by have := HC5.out; omega)
  have HD := Azz.mk (show s.data.size ≤ 4096 by have := HC4.out; omega)
  clear b0 b1 b2 b3 b4 b5
  go_loopw [3, 44] (fun v3 v4 wr => ∃ (i : Nat) (e : Int), i ≤ s.rels.length ∧ v4 = .int .i64 i ∧ v3 = .int .i64 e ∧ Azz ((0 ≤ e ∧ e ≤ 4096) ∧ (RelsOk s.kd s.data 0 s.rels ↔ RelsOk s.kd s.data e (s.rels.drop i))) ∧ Azz (wr.heap[w.heap.size]? = some (.cells #[.string s.n, .int .i64 s.kd, .bool s.keep, .int .i64 s.al, .string s.data, .slice A s.rels.length c] 64 (0, 0))) ∧ Azz (Below w.heap.size w wr)) (fun _ v _ => s.rels.length - (RowKit.intOf v).toNat)
  case atStart => exact ⟨0, 0, Nat.zero_le _, rfl, rfl, ⟨⟨by decide, by decide⟩, by rw [List.drop_zero]⟩, HX, HB⟩
  case round =>
   clear HX HB
   obtain ⟨i, e, hi, rfl, rfl, HE, HX, HB⟩ := hrel
   obtain ⟨z0, z1, z2, z3, z4, z5⟩ := cl6 HX.out
   have hd := HD.out
   have hl64 := HL.out
   have he := HE.out.1
   by_cases hlt : i < s.rels.length
   rotate_left
   ·obtain rfl : i = s.rels.length := by omega
    go_wp2
    go_ret
    refine ⟨true, rfl, (is_iff s).2 ⟨HN2.out, ⟨by have := HC0.out; omega, by have := HC1.out; omega⟩, ⟨by have := HC2.out; omega, by have := HC3.out; omega⟩, HD.out, HL.out, HE.out.2.2 ?_⟩, HB.out⟩
    rw [List.drop_length]
    trivial
   obtain ⟨ad, ea, y0, y1, y2, y3⟩ := P.at_T98 (Kd.C_below HR.out HB.out) i (by omega) (by omega)
   subst ea
   rw [Int.toNat_natCast] at y0 y1 y2 y3
   have hdr := rd_drop s.rels i hlt
   obtain ⟨r, hr⟩ : ∃ r, P.rd_T98 s.rels i = r := ⟨_, rfl⟩
   rw [hr] at y0 y1 y2 y3 hdr
   have HDr := Azz.mk hdr
   have HBr := Azz.mk (HB.out.alloc HB.out.size (.cells #[.int .i64 r.f0, .int .i64 r.f1, .int .i64 r.f2, .int .i64 r.f3] 98))
   have HXr := Azz.mk (kAA HX.out (.cells #[.int .i64 r.f0, .int .i64 r.f1, .int .i64 r.f2, .int .i64 r.f3] 98))
   have i0 : (0 : Int) ≤ (i : Int) := by omega
   have i1 : (i : Int) < s.rels.length := by omega
   have neg : ∀ {q : Prop}, (Right s → q) → ¬ q → ¬ Right s := fun h k hr => k (h hr)
   have HSt := Azz.mk (fun h : Right s => by have h2 := HE.out.2.1 h.each; rw [HDr.out] at h2; exact h2)
   obtain ⟨u0, u1, u2, u3, u4, u5⟩ := cl6 HXr.out
   clear hr hdr neg u0 u1 u2 u3 u5
   by_cases c7 : r.f1 = 1
   ·have b7 : (r.f1 == 1) = true := beq_iff_eq.mpr c7
    have hz : szR r = 8 := if_pos c7
    have HZ := Azz.mk hz
    have HC7 := Azz.mk c7
    clear hz c7
    by_cases c8 : r.f0 < e
    ·have b8 : decide (r.f0 < e) = true := dT_ c8
     have HC8 := Azz.mk c8
     clear c8
     go_wp2
     go_ret
     exact HNo.out (fun h => by have := (HSt.out h).1; have := HC8.out; omega) _ HBr.out
    have b8 : decide (r.f0 < e) = false := dF_ c8
    by_cases c9 : (s.data.size : Int) - 8 < r.f0
    ·have b9 : decide ((s.data.size : Int) - 8 < r.f0) = true := dT_ c9
     have HC9 := Azz.mk c9
     clear c9 c8
     go_wp2
     go_ret
     exact HNo.out (fun h => by have := (HSt.out h).2.1; have := HC9.out; have := HZ.out; omega) _ HBr.out
    have b9 : decide ((s.data.size : Int) - 8 < r.f0) = false := dF_ c9
    by_cases c10 : r.f2 < 0
    ·have b10 : decide (r.f2 < 0) = true := dT_ c10
     have HC10 := Azz.mk c10
     clear c10 c9 c8
     go_wp2
     go_ret
     exact HNo.out (fun h => by have := (HSt.out h).2.2.1; have := HC10.out; omega) _ HBr.out
    have b10 : decide (r.f2 < 0) = false := dF_ c10
    have f0l : 0 ≤ r.f0 := by omega
    have f0h : r.f0 ≤ 4096 := by omega
    have hsl := slice_i s.data r.f0 (r.f0 + 8) (by omega) (by omega) (by omega)
    obtain ⟨b, hov, hoc⟩ := over_calls s.kd r (s.data.extract r.f0.toNat (r.f0 + 8).toNat) (.inl HC7.out)
    obtain ⟨D, hD⟩ : ∃ D, s.data.extract r.f0.toNat (r.f0 + 8).toNat = D := ⟨_, rfl⟩
    rw [hD] at hsl hoc hov
    have HOc := Azz.mk hoc
    have HOv := Azz.mk (And.intro hD hov)
    have HC10 := Azz.mk (And.intro c8 (And.intro c9 c10))
    clear hD hov hoc c10 c9 c8
    go_wp2
    clear z0 z1 z2 z3 z4 z5 u4
    obtain ⟨z0, z1, z2, z3, z4, z5⟩ := cl6 HXr.out
    obtain ⟨x0, x1, x2, x3⟩ := cl4 (blk_new wr (.cells #[.int .i64 r.f0, .int .i64 r.f1, .int .i64 r.f2, .int .i64 r.f3] 98))
    go_region_held3 (fun w' => w'.cell? ⟨w.heap.size, 1, none⟩ = some (.int .i64 s.kd) ∧ w'.cell? ⟨w.heap.size, 4, none⟩ = some (.string s.data) ∧ w'.cell? ⟨wr.heap.size, 0, none⟩ = some (.int .i64 r.f0) ∧ w'.cell? ⟨wr.heap.size, 1, none⟩ = some (.int .i64 r.f1) ∧ w'.cell? ⟨wr.heap.size, 2, none⟩ = some (.int .i64 r.f2) ∧ w'.cell? ⟨wr.heap.size, 3, none⟩ = some (.int .i64 r.f3)) (first | go_keep | exact kp6 (by assumption) hb) (first | (go_at_call 70; (with_reducible refine (HOc.out _ (HG.out.below ?gb)).mono ?_); (case gb => exact bDD HBr.out); rintro en w2 ⟨rfl, hb⟩))
    have hb1 : Below w.heap.size w w2 := bTT (bDD HBr.out) hb
    have hX2 := kBB HXr.out (show Below (wr.alloc _).heap.size (wr.alloc _) w2 from bTT (bDD (Below.refl _ _)) hb)
    have HX2 := Azz.mk hX2
    have HB2 := Azz.mk hb1
    clear hb hb1 hX2 z0 z1 z2 z3 z4 z5 x0 x1 x2 x3 HOc hsl
    cases b with
    | false =>
     go_wp2
     go_ret
     refine HNo.out (fun h => ?_) _ HB2.out
     have h4 := (HSt.out h).2.2.2.1
     rw [HZ.out, HOv.out.1] at h4
     exact absurd (Ev.one h4 HOv.out.2) (by decide)
    | true =>
     go_wp2
     go_roundw
     case rel =>
      obtain ⟨c8, c9, c10⟩ := HC10.out
      refine ⟨i + 1, r.f0 + 8, by omega, by go_num, rfl, ⟨⟨by omega, by omega⟩, ?_⟩, HX2, HB2⟩
      rw [HE.out.2, HDr.out]
      refine ⟨fun h => ?_, fun h => ⟨by omega, by rw [HZ.out]; omega, by omega, by rw [HZ.out, HOv.out.1]; exact HOv.out.2, by rw [HZ.out]; exact h⟩⟩
      have := h.2.2.2.2
      rw [HZ.out] at this
      exact this
     case measure => simp [RowKit.intOf]; omega
   have b7 : (r.f1 == 1) = false := bF_ c7
   have hz : szR r = 4 := if_neg c7
   have HZ := Azz.mk hz
   have HC7 := Azz.mk c7
   clear hz c7
   by_cases c8 : r.f0 < e
   ·have b8 : decide (r.f0 < e) = true := dT_ c8
    have HC8 := Azz.mk c8
    clear c8
    go_wp2
    go_ret
    exact HNo.out (fun h => by have := (HSt.out h).1; have := HC8.out; omega) _ HBr.out
   have b8 : decide (r.f0 < e) = false := dF_ c8
   by_cases c9 : (s.data.size : Int) - 4 < r.f0
   ·have b9 : decide ((s.data.size : Int) - 4 < r.f0) = true := dT_ c9
    have HC9 := Azz.mk c9
    clear c9 c8
    go_wp2
    go_ret
    exact HNo.out (fun h => by have := (HSt.out h).2.1; have := HC9.out; have := HZ.out; omega) _ HBr.out
   have b9 : decide ((s.data.size : Int) - 4 < r.f0) = false := dF_ c9
   by_cases c10 : r.f2 < 0
   ·have b10 : decide (r.f2 < 0) = true := dT_ c10
    have HC10 := Azz.mk c10
    clear c10 c9 c8
    go_wp2
    go_ret
    exact HNo.out (fun h => by have := (HSt.out h).2.2.1; have := HC10.out; omega) _ HBr.out
   have b10 : decide (r.f2 < 0) = false := dF_ c10
   have f0l : 0 ≤ r.f0 := by omega
   have f0h : r.f0 ≤ 4096 := by omega
   have hsl := slice_i s.data r.f0 (r.f0 + 4) (by omega) (by omega) (by omega)
   obtain ⟨b, hov, hoc⟩ := over_calls s.kd r (s.data.extract r.f0.toNat (r.f0 + 4).toNat) (.inr (by rw [ByteArray.size_extract]; omega))
   obtain ⟨D, hD⟩ : ∃ D, s.data.extract r.f0.toNat (r.f0 + 4).toNat = D := ⟨_, rfl⟩
   rw [hD] at hsl hoc hov
   have HOc := Azz.mk hoc
   have HOv := Azz.mk (And.intro hD hov)
   have HC10 := Azz.mk (And.intro c8 (And.intro c9 c10))
   clear hD hov hoc c10 c9 c8
   go_wp2
   clear z0 z1 z2 z3 z4 z5 u4
   obtain ⟨z0, z1, z2, z3, z4, z5⟩ := cl6 HXr.out
   obtain ⟨x0, x1, x2, x3⟩ := cl4 (blk_new wr (.cells #[.int .i64 r.f0, .int .i64 r.f1, .int .i64 r.f2, .int .i64 r.f3] 98))
   go_region_held3 (fun w' => w'.cell? ⟨w.heap.size, 1, none⟩ = some (.int .i64 s.kd) ∧ w'.cell? ⟨w.heap.size, 4, none⟩ = some (.string s.data) ∧ w'.cell? ⟨wr.heap.size, 0, none⟩ = some (.int .i64 r.f0) ∧ w'.cell? ⟨wr.heap.size, 1, none⟩ = some (.int .i64 r.f1) ∧ w'.cell? ⟨wr.heap.size, 2, none⟩ = some (.int .i64 r.f2) ∧ w'.cell? ⟨wr.heap.size, 3, none⟩ = some (.int .i64 r.f3)) (first | go_keep | exact kp6 (by assumption) hb) (first | (go_at_call 70; (with_reducible refine (HOc.out _ (HG.out.below ?gb)).mono ?_); (case gb => exact bDD HBr.out); rintro en w2 ⟨rfl, hb⟩))
   have hb1 : Below w.heap.size w w2 := bTT (bDD HBr.out) hb
   have hX2 := kBB HXr.out (show Below (wr.alloc _).heap.size (wr.alloc _) w2 from bTT (bDD (Below.refl _ _)) hb)
   have HX2 := Azz.mk hX2
   have HB2 := Azz.mk hb1
   clear hb hb1 hX2 z0 z1 z2 z3 z4 z5 x0 x1 x2 x3 HOc hsl
   cases b with
   | false =>
    go_wp2
    go_ret
    refine HNo.out (fun h => ?_) _ HB2.out
    have h4 := (HSt.out h).2.2.2.1
    rw [HZ.out, HOv.out.1] at h4
    exact absurd (Ev.one h4 HOv.out.2) (by decide)
   | true =>
    go_wp2
    go_roundw
    case rel =>
     obtain ⟨c8, c9, c10⟩ := HC10.out
     refine ⟨i + 1, r.f0 + 4, by omega, by go_num, rfl, ⟨⟨by omega, by omega⟩, ?_⟩, HX2, HB2⟩
     rw [HE.out.2, HDr.out]
     refine ⟨fun h => ?_, fun h => ⟨by omega, by rw [HZ.out]; omega, by omega, by rw [HZ.out, HOv.out.1]; exact HOv.out.2, by rw [HZ.out]; exact h⟩⟩
     have := h.2.2.2.2
     rw [HZ.out] at this
     exact this
    case measure => simp [RowKit.intOf]; omega
end Go.Proofs.YtngmipfodjgmmaaGreatDoor.Pure
end
section
namespace Go.Proofs.YtngmipfodjgmmaaGreatDoor.Pure
open Go Go.RowKit Go.Lib Go.Shelf Wa Wb Wc
def RelGood (s : Sc) (r : P.S98) (e : Int) : Prop := e ≤ r.f0 ∧ r.f0 + szR r ≤ s.data.size ∧ 0 ≤ r.f2 ∧ OverB s.kd r (s.data.extract r.f0.toNat (r.f0 + szR r).toNat) true
def RelPost (s : Sc) (r : P.S98) (e : Int) (w : World) (en : Ending) (w' : World) : Prop := ∃ b, en = .returned (.bool b) ∧ (b = true ↔ RelGood s r e) ∧ Below w.heap.size w w'
theorem rsize_calls (k : Int) (W : World) : Calls Tryz.prog 73 #[.int .i64 k] W fun e w' => e = .returned (.int .i64 (if k = 1 then 8 else 4)) ∧ Drawn0 W w' :=
 P.cleatref16_size.calls k _ W (by unfold P.cleatref16_size.f; split <;> rfl)
theorem sz_val (r : P.S98) : (if r.f1 = 1 then (8 : Int) else 4) = szR r := rfl
theorem rrel_any (s : Sc) (r : P.S98) (e : Int) (he : 0 ≤ e) (hd : s.data.size ≤ 4096) (A : Option Addr) (c : Nat) (w : World) :
 Calls Tryz.prog 72 #[.agg #[.string s.n, .int .i64 s.kd, .bool s.keep, .int .i64 s.al, .string s.data, .slice A s.rels.length c], .agg #[.int .i64 r.f0, .int .i64 r.f1, .int .i64 r.f2, .int .i64 r.f3], .int .i64 e] w (RelPost s r e w) := by
 have HB := Azz.mk (((Below.refl w.heap.size w).alloc (Nat.le_refl _) (.cells #[.string s.n, .int .i64 s.kd, .bool s.keep, .int .i64 s.al, .string s.data, .slice A s.rels.length c] 64)).alloc (by simp) (.cells #[.int .i64 r.f0, .int .i64 r.f1, .int .i64 r.f2, .int .i64 r.f3] 98))
 have no : ¬ RelGood s r e → ∀ w', Below w.heap.size w w' → RelPost s r e w (.returned (.bool false)) w' := fun h w' hb => ⟨false, rfl, ⟨fun h => absurd h (by decide), fun k => absurd k h⟩, hb⟩
 have HNo := Azz.mk no
 have HSz := Azz.mk (rsize_calls r.f1)
 have hz := sz_pos r
 have hds : r.f1 = 1 ∨ (0 ≤ r.f0 → r.f0 + szR r ≤ s.data.size → (s.data.extract r.f0.toNat (r.f0 + szR r).toNat).size = 4) := by
  by_cases h : r.f1 = 1
  ·exact .inl h
  refine .inr fun h0 h2 => ?_
  have : szR r = 4 := if_neg h
  rw [ByteArray.size_extract]
  omega
 have kin : RelGood s r e → 1 ≤ r.f1 ∧ r.f1 ≤ 9 := fun h => over_kind (hds.imp id fun k => k (by have := h.1; omega) h.2.1) h.2.2.2
 have HKin := Azz.mk kin
 have HDs := Azz.mk hds
 rw [sz_val] at HSz
 obtain ⟨z, hzz⟩ : ∃ z, szR r = z := ⟨_, rfl⟩
 have HZ := Azz.mk hzz
 have HZ2 := Azz.mk hz
 rw [hzz] at HSz HZ2
 have hx : RelGood s r e ↔ e ≤ r.f0 ∧ r.f0 + z ≤ s.data.size ∧ 0 ≤ r.f2 ∧ OverB s.kd r (s.data.extract r.f0.toNat (r.f0 + z).toNat) true := by
  unfold RelGood
  rw [hzz]
 have HX := Azz.mk hx
 have HD := Azz.mk (And.intro he hd)
 clear no he hd hz hds kin hzz hx
 have szArm : True := trivial
 by_cases c1 : r.f1 < 1
 ·have b1 : decide (r.f1 < 1) = true := dT_ c1
  have HC := Azz.mk c1
  clear c1
  go_enter Tryz.func72, Tryz.ntmps72
  go_wp2
  repeat (go_quiet (fail); try go_wp2)
  go_ret
  exact HNo.out (fun h => by have := (HKin.out h).1; have := HC.out; omega) _ (bNN HB.out _)
 have b1 : decide (r.f1 < 1) = false := dF_ c1
 have HC1 := Azz.mk c1
 clear c1
 by_cases c2 : 9 < r.f1
 ·have b2 : decide (9 < r.f1) = true := dT_ c2
  have HC := Azz.mk c2
  clear c2
  go_enter Tryz.func72, Tryz.ntmps72
  go_wp2
  repeat (go_quiet (fail); try go_wp2)
  go_ret
  exact HNo.out (fun h => by have := (HKin.out h).2; have := HC.out; omega) _ (bNN HB.out _)
 have b2 : decide (9 < r.f1) = false := dF_ c2
 have HC2 := Azz.mk c2
 clear c2
 by_cases c3 : r.f0 < e
 ·have b3 : decide (r.f0 < e) = true := dT_ c3
  have HC := Azz.mk c3
  clear c3
  go_enter Tryz.func72, Tryz.ntmps72
  go_wp2
  repeat (go_quiet (fail); try go_wp2)
  go_ret
  exact HNo.out (fun h => by have := h.1; have := HC.out; omega) _ (bNN HB.out _)
 have b3 : decide (r.f0 < e) = false := dF_ c3
 have HC3 := Azz.mk c3
 clear c3
 by_cases c4 : (s.data.size : Int) < r.f0
 ·have b4 : decide ((s.data.size : Int) < r.f0) = true := dT_ c4
  have HC := Azz.mk c4
  clear c4
  go_enter Tryz.func72, Tryz.ntmps72
  go_wp2
  repeat (go_quiet (fail); try go_wp2)
  go_ret
  exact HNo.out (fun h => by have := (HX.out.1 h).2.1; have := HC.out; have := HZ2.out; omega) _ (bNN HB.out _)
 have b4 : decide ((s.data.size : Int) < r.f0) = false := dF_ c4
 have ew : wrap64 ((s.data.size : Int) - r.f0) = (s.data.size : Int) - r.f0 := wrap64_small _ (by have := HD.out; have := HC3.out; omega) (by have := HD.out; have := HC3.out; omega)
 have HC4 := Azz.mk c4
 clear c4
 by_cases c5 : (s.data.size : Int) - r.f0 < z
 ·have b5 : decide (wrap64 ((s.data.size : Int) - r.f0) < z) = true := by rw [ew]; exact dT_ c5
  have HC := Azz.mk c5
  clear c5 ew
  go_enter Tryz.func72, Tryz.ntmps72
  go_wp2
  repeat (go_quiet (first | (go_at_call 73; (with_reducible refine (HSz.out _).mono ?_); rintro e w' ⟨rfl, ⟨nd, rfl⟩⟩; (try first | exact ⟨rfl, _, dd2⟩ | exact ⟨rfl, _, dd3⟩))); try go_wp2)
  go_ret
  exact HNo.out (fun h => by have := (HX.out.1 h).2.1; have := HC.out; omega) _ (bNN HB.out _)
 have b5 : decide (wrap64 ((s.data.size : Int) - r.f0) < z) = false := by rw [ew]; exact dF_ c5
 have HC5 := Azz.mk c5
 clear c5 ew
 by_cases c6 : r.f2 < 0
 ·have b6 : decide (r.f2 < 0) = true := dT_ c6
  have HC := Azz.mk c6
  clear c6
  go_enter Tryz.func72, Tryz.ntmps72
  go_wp2
  repeat (go_quiet (first | (go_at_call 73; (with_reducible refine (HSz.out _).mono ?_); rintro e w' ⟨rfl, ⟨nd, rfl⟩⟩; (try first | exact ⟨rfl, _, dd2⟩ | exact ⟨rfl, _, dd3⟩))); try go_wp2)
  go_ret
  exact HNo.out (fun h => by have := h.2.2.1; have := HC.out; omega) _ (bNN HB.out _)
 have b6 : decide (r.f2 < 0) = false := dF_ c6
 have HC6 := Azz.mk c6
 clear c6
 have hd := HD.out
 have h3 := HC3.out
 have h5 := HC5.out
 have hz2 := HZ2.out
 have ew : wrap64 (r.f0 + z) = r.f0 + z := wrap64_small _ (by omega) (by omega)
 have hsl := slice_i s.data r.f0 (wrap64 (r.f0 + z)) (by omega) (by rw [ew]; omega) (by rw [ew]; omega)
 obtain ⟨D, hD⟩ : ∃ D, s.data.extract r.f0.toNat (wrap64 (r.f0 + z)).toNat = D := ⟨_, rfl⟩
 have hDs : (D.size : Int) = z := by
  rw [← hD, ByteArray.size_extract, ew]
  omega
 obtain ⟨K, hK⟩ := number_ev D (by omega)
 have HNm := Azz.mk (fun W => P.cleatref07_Number.calls K D _ W (hK K (Nat.le_refl _)))
 have HD2 := Azz.mk (And.intro hD hDs)
 rw [hD] at hsl
 have HGood : Azz (RelGood s r e ↔ OverB s.kd r D true) := ⟨by
  rw [HX.out, ← hD, ew]
  have := HC6.out
  exact ⟨fun h => h.2.2.2, fun h => ⟨by omega, by omega, by omega, h⟩⟩⟩
 obtain ⟨v, hv⟩ : ∃ v, numB D D.size = v := ⟨_, rfl⟩
 rw [hv] at HNm
 have HV := Azz.mk hv
 clear hd h3 h5 hz2 ew hD hDs hK hv
 by_cases c7 : r.f1 = 1
 ·have b7 : (r.f1 == 1) = true := beq_iff_eq.mpr c7
  have HOv := Azz.mk (over_quad s.kd r D c7)
  clear c7
  go_enter Tryz.func72, Tryz.ntmps72
  go_wp2
  repeat (go_quiet (first | (go_at_call 73; (with_reducible refine (HSz.out _).mono ?_); rintro e w' ⟨rfl, ⟨nd, rfl⟩⟩; (try first | exact ⟨rfl, _, dd2⟩ | exact ⟨rfl, _, dd3⟩)) | (go_at_call 79; (with_reducible refine (HNm.out _).mono ?_); rintro e w' ⟨rfl, ⟨nd, rfl⟩⟩; (try first | exact ⟨rfl, _, dd2⟩ | exact ⟨rfl, _, dd3⟩))); try go_wp2)
  go_ret
  refine ⟨_, rfl, ?_, bNN HB.out _⟩
  have hov := HOv.out
  rw [HV.out] at hov
  rw [HGood.out]
  constructor
  ·intro h
   have hv0 : v = 0 := by have := beq_iff_eq.1 h; omega
   rw [dT_ hv0] at hov
   exact hov
  intro h
  have := of_decide_eq_true (Ev.one hov h)
  rw [this]
  rfl
 have b7 : (r.f1 == 1) = false := bF_ c7
 have hz4 : z = 4 := by rw [← HZ.out]; exact if_neg c7
 have hD4 : D.size = 4 := by have := HD2.out.2; omega
 have hv4 : numB D 4 = v := by rw [← hD4]; exact HV.out
 have hvl := numB_lt D 4
 rw [hv4] at hvl
 have HOv : ∀ b, FitE r.f1 v b → OverB s.kd r D (decide (s.kd = 1 ∧ Int.tmod r.f0 4 = 0) && b) := fun b hb => over_word s.kd r D hD4 c7 b (by rw [hv4]; exact hb)
 have HOv := Azz.mk HOv
 have HVl := Azz.mk hvl
 clear c7 hz4 hD4 hv4 hvl
 have fin : ∀ y : Bool, (∃ b, FitE r.f1 v b ∧ y = (decide (s.kd = 1 ∧ Int.tmod r.f0 4 = 0) && b)) → ∀ w', Below w.heap.size w w' → RelPost s r e w (.returned (.bool y)) w' := by
  rintro y ⟨b, hb, hy⟩ w' hw
  refine ⟨y, rfl, ?_, hw⟩
  rw [HGood.out, hy]
  have := HOv.out b hb
  exact ⟨fun h => by rw [h] at this; exact this, fun h => Ev.one this h⟩
 have HFin := Azz.mk fin
 clear fin HOv
 obtain ⟨fb, hfb⟩ : ∃ b, FitE r.f1 v b := fits_ends r.f1 v HVl.out
 have HFb := Azz.mk hfb
 clear hfb
 by_cases c8 : s.kd = 1
 rotate_left
 ·have b8 : (s.kd == 1) = false := bF_ c8
  have HC8 := Azz.mk c8
  clear c8
  go_enter Tryz.func72, Tryz.ntmps72
  go_wp2
  repeat (go_quiet (first | (go_at_call 73; (with_reducible refine (HSz.out _).mono ?_); rintro e w' ⟨rfl, ⟨nd, rfl⟩⟩; (try first | exact ⟨rfl, _, dd2⟩ | exact ⟨rfl, _, dd3⟩)) | (go_at_call 79; (with_reducible refine (HNm.out _).mono ?_); rintro e w' ⟨rfl, ⟨nd, rfl⟩⟩; (try first | exact ⟨rfl, _, dd2⟩ | exact ⟨rfl, _, dd3⟩))); try go_wp2)
  go_ret
  exact HFin.out _ ⟨fb, HFb.out, by rw [dF_ fun h => HC8.out h.1, Bool.false_and]⟩ _ (bNN HB.out _)
 have b8 : (s.kd == 1) = true := beq_iff_eq.mpr c8
 have HC8 := Azz.mk c8
 clear c8
 by_cases c9 : Int.tmod r.f0 4 = 0
 ·have b9 : (Int.tmod r.f0 4 == 0) = true := beq_iff_eq.mpr c9
  have HC9 := Azz.mk c9
  have ew : (v : Int) % 4294967296 = (v : Int) := by have := HVl.out; omega
  have HFt : Azz (∀ W, Calls Tryz.prog 80 #[.int .i64 r.f1, (.int .u32 ((v : Int) % 4294967296))] W (FitsPost r.f1 v W)) := ⟨fun W => by
   rw [ew]
   exact rfits_any r.f1 (by have := HC1.out; omega) (by have := HC2.out; omega) v HVl.out W⟩
  clear c9 ew
  go_enter Tryz.func72, Tryz.ntmps72
  go_wp2
  repeat (go_quiet (first | (go_at_call 73; (with_reducible refine (HSz.out _).mono ?_); rintro e w' ⟨rfl, ⟨nd, rfl⟩⟩; (try first | exact ⟨rfl, _, dd2⟩ | exact ⟨rfl, _, dd3⟩)) | (go_at_call 79; (with_reducible refine (HNm.out _).mono ?_); rintro e w' ⟨rfl, ⟨nd, rfl⟩⟩; (try first | exact ⟨rfl, _, dd2⟩ | exact ⟨rfl, _, dd3⟩))); try go_wp2_with fail)
  (with_reducible refine (HFt.out _).mono ?_)
  rintro en w5 ⟨b, rfl, hb, hw⟩
  have HFb2 := Azz.mk hb
  have HB5 := Azz.mk (bTT (bNN HB.out _) hw)
  clear hb hw
  go_wp2
  go_ret
  exact HFin.out _ ⟨b, HFb2.out, by rw [dT_ ⟨HC8.out, HC9.out⟩, Bool.true_and]⟩ _ HB5.out
 have b9 : (Int.tmod r.f0 4 == 0) = false := bF_ c9
 have HC9 := Azz.mk c9
 clear c9
 go_enter Tryz.func72, Tryz.ntmps72
 go_wp2
 repeat (go_quiet (first | (go_at_call 73; (with_reducible refine (HSz.out _).mono ?_); rintro e w' ⟨rfl, ⟨nd, rfl⟩⟩; (try first | exact ⟨rfl, _, dd2⟩ | exact ⟨rfl, _, dd3⟩)) | (go_at_call 79; (with_reducible refine (HNm.out _).mono ?_); rintro e w' ⟨rfl, ⟨nd, rfl⟩⟩; (try first | exact ⟨rfl, _, dd2⟩ | exact ⟨rfl, _, dd3⟩))); try go_wp2)
 go_ret
 exact HFin.out _ ⟨fb, HFb.out, by rw [dF_ fun h => HC9.out h.2, Bool.false_and]⟩ _ (bNN HB.out _)
end Go.Proofs.YtngmipfodjgmmaaGreatDoor.Pure
end
