/- Walks and plain laws of this claim, a part. -/
import Derived.Test.YtngmipfodjgmmaaGreatDoorSw86
set_option maxRecDepth 100000
set_option maxHeartbeats 8000000
set_option linter.unusedVariables false
set_option linter.unusedSimpArgs false
section
namespace Go.Proofs.YtngmipfodjgmmaaGreatDoor.Pure
open Go Go.RowKit Go.Lib Go.Shelf Go.Maps YtngmipfodjgmmaaGreatDoorW.PrintWords YtngmipfodjgmmaaGreatDoorW.PrintLast YtngmipfodjgmmaaGreatDoorW.PrintMore
open P (Glob)
theorem sameR (w : World) (al g : Nat) (h1 : Kd.C kRows w (some ⟨al, 0, none⟩) 2 [[⟨1, 0, 0⟩], [⟨1, 0, 0⟩]]) (h2 : Kd.C kRows w (some ⟨g, 0, none⟩) 2 [[⟨1, 0, 0⟩], [⟨1, 0, 0⟩]]) :
 Calls Tryz.prog 25 #[.slice (some ⟨al, 0, none⟩) 2 2, .slice (some ⟨g, 0, none⟩) 2 2] w fun e w' => e = .returned (.bool true) ∧ Below w.heap.size w w' := by
 obtain ⟨K, hK⟩ := same_refl_ev [[⟨1, 0, 0⟩], [⟨1, 0, 0⟩]] (by decide) (fun i hi => by
  have : i = 0 ∨ i = 1 := by have : i < 2 := hi; omega
  rcases this with rfl | rfl <;> decide)
 refine (P.cleatref20_Same.calls K (some ⟨al, 0, none⟩) 2 _ (some ⟨g, 0, none⟩) 2 _ true w h1 (by decide) h2 (by decide) (hK K (Nat.le_refl _))).mono ?_
 intro e w' h
 exact ⟨h.1, h.2.below⟩
theorem sy1 {W : World} {g : Nat} {s : Sy} (h : W.heap[g]? = some (.cells #[.string s.f0, .int .i64 s.f1, .int .i64 s.f2, .int .i64 s.f3] 85 (0, 0))) : SyA W (some ⟨g, 0, none⟩) [s] :=
 have hr : Reps (P.k85.K W) 4 [s] (([] : List Value) ++ [.string s.f0, .int .i64 s.f1, .int .i64 s.f2, .int .i64 s.f3]) := (Reps.none (P.k85.K W) 4).snoc (P.k85_mk W s) rfl
 C_blk (d := P.k85) (xs := [s]) h hr (by simp [maxLen])
theorem resolved_any (w : World) (hG : Glob w) : Calls Tryz.prog 24 #[] w fun e w' => e = .returned (.bool true) ∧ Below w.heap.size w w' := by
 have HG := Azz.mk hG
 clear hG
 go_enter Tryz.func24, Tryz.ntmps24
 go_wp2_with fail
 (with_reducible refine (weak_calls _ _ _).mono ?_)
 rintro e w1 ⟨A0, c0, A1, c1, rfl, ha, hb⟩
 have HB := Azz.mk hb
 have HA := Azz.mk (show ObV w1 (wkO nmA 3) A0 A1 c0 c1 from ha)
 clear hb ha
 go_wp2_with fail
 (with_reducible refine (weak_calls _ _ _).mono ?_)
 rintro e w2 ⟨B0, d0, B1, d1, rfl, ha, hb⟩
 have HD := Azz.mk (show ObV w2 (wkO nmA 2) B0 B1 d0 d1 from ha)
 replace HA := Azz.mk (HA.out.below hb)
 replace HB := Azz.mk (bTT HB.out hb)
 clear hb ha
 go_wp2_with fail
 have HO := Azz.mk (show OA _ (some ⟨w2.heap.size, 0, none⟩) osA from obs2 (blk_new w2 (.cells #[.slice A0 1 c0, .slice A1 1 c1, .slice B0 1 d0, .slice B1 1 d1] 68)) (HA.out.below ((Below.refl _ _).alloc (Nat.le_refl _) _)) (HD.out.below ((Below.refl _ _).alloc (Nat.le_refl _) _)))
 (with_reducible refine (resA _ _ 2 (HG.out.below (HB.out.alloc HB.out.size _)) HO.out (by decide)).mono ?_)
 rintro e w3 ⟨al, rfl, hrow, hb⟩
 have HR := Azz.mk hrow
 replace HB := Azz.mk (bTT (HB.out.alloc HB.out.size _) hb)
 clear hb hrow HA HD HO
 go_wp2_with fail
 have HF1 := Azz.mk (blk_new w3 (.cells #[.int .i64 0, .int .i64 0, .int .i64 0] 45))
 have b3 := (Below.refl w3.heap.size w3).alloc (Nat.le_refl _) (.cells #[.int .i64 0, .int .i64 0, .int .i64 0] 45)
 (with_reducible refine (weak_calls _ _ _).mono ?_)
 rintro e w4 ⟨A0, c0, A1, c1, rfl, ha, hb⟩
 replace HF1 := Azz.mk (kBB HF1.out hb)
 replace HR := Azz.mk (Kd.C_below HR.out (bTT b3 hb))
 replace HB := Azz.mk (bTT HB.out (bTT b3 hb))
 have HA := Azz.mk (show ObV w4 (wkO nmA 2) A0 A1 c0 c1 from ha)
 clear hb ha b3
 go_wp2_with fail
 (with_reducible refine (weak_calls _ _ _).mono ?_)
 rintro e w5 ⟨B0, d0, B1, d1, rfl, ha, hb⟩
 have HD := Azz.mk (show ObV w5 (wkO nmA 2) B0 B1 d0 d1 from ha)
 replace HA := Azz.mk (HA.out.below hb)
 replace HF1 := Azz.mk (kBB HF1.out hb)
 replace HR := Azz.mk (Kd.C_below HR.out hb)
 replace HB := Azz.mk (bTT HB.out hb)
 clear hb ha
 go_wp2_with fail
 have HO := Azz.mk (show OA _ (some ⟨w5.heap.size, 0, none⟩) osB from obs2 (blk_new w5 (.cells #[.slice A0 1 c0, .slice A1 1 c1, .slice B0 1 d0, .slice B1 1 d1] 68)) (HA.out.below ((Below.refl _ _).alloc (Nat.le_refl _) _)) (HD.out.below ((Below.refl _ _).alloc (Nat.le_refl _) _)))
 (with_reducible refine (resB _ _ 2 (HG.out.below (HB.out.alloc HB.out.size _)) HO.out (by decide)).mono ?_)
 rintro e w6 ⟨rfl, hb⟩
 replace hb := bTT ((Below.refl w5.heap.size w5).alloc (Nat.le_refl _) _) hb
 replace HF1 := Azz.mk (kBB HF1.out hb)
 replace HR := Azz.mk (Kd.C_below HR.out hb)
 replace HB := Azz.mk (bTT HB.out hb)
 clear hb HA HD HO
 go_wp2_with fail
 have HF2 := Azz.mk (blk_new w6 (.cells #[.int .i64 7, .int .i64 1, .int .i64 0] 45))
 have b6 := (Below.refl w6.heap.size w6).alloc (Nat.le_refl _) (.cells #[.int .i64 7, .int .i64 1, .int .i64 0] 45)
 have b7 := b6.alloc (by simp) (.cells #[.string ⟨#[98]⟩, .int .i64 3, .int .i64 (-1), .int .i64 0] 85)
 have b8 := b7.alloc (by simp; omega) (.cells #[.slice none 0 0, .slice (some ⟨w6.heap.size + 1, 0, none⟩) 1 1] 68)
 have hsy := blk_new (w6.alloc (.cells #[.int .i64 7, .int .i64 1, .int .i64 0] 45)) (.cells #[.string ⟨#[98]⟩, .int .i64 3, .int .i64 (-1), .int .i64 0] 85)
 have hob := blk_new ((w6.alloc (.cells #[.int .i64 7, .int .i64 1, .int .i64 0] 45)).alloc (.cells #[.string ⟨#[98]⟩, .int .i64 3, .int .i64 (-1), .int .i64 0] 85)) (.cells #[.slice none 0 0, .slice (some ⟨w6.heap.size + 1, 0, none⟩) 1 1] 68)
 rw [World.size_alloc] at hsy
 rw [World.size_alloc, World.size_alloc] at hob
 have HO := Azz.mk (show OA _ (some ⟨w6.heap.size + 1 + 1, 0, none⟩) osC from obs1 hob ⟨Kd.C_nil _ _, by decide, sy1 (kAA hsy _), by decide⟩)
 have HB8 := Azz.mk b8
 clear hsy hob b7 b6 b8
 (with_reducible refine (resC _ _ 1 (HG.out.below (bTT HB.out HB8.out)) HO.out (by decide)).mono ?_)
 rintro e w7 ⟨rfl, hb⟩
 replace HF2 := Azz.mk (kBB (kAA (kAA HF2.out _) _) hb)
 replace hb := bTT HB8.out hb
 replace HF1 := Azz.mk (kBB HF1.out hb)
 replace HR := Azz.mk (Kd.C_below HR.out hb)
 replace HB := Azz.mk (bTT HB.out hb)
 clear hb HO HB8
 go_wp2_with fail
 have HF3 := Azz.mk (blk_new w7 (.cells #[.int .i64 6, .int .i64 0, .int .i64 0] 45))
 have b7 := (Below.refl w7.heap.size w7).alloc (Nat.le_refl _) (.cells #[.int .i64 6, .int .i64 0, .int .i64 0] 45)
 (with_reducible refine (weak_calls _ _ _).mono ?_)
 rintro e w8 ⟨A0, c0, A1, c1, rfl, ha, hb⟩
 replace HF3 := Azz.mk (kBB HF3.out hb)
 replace hb := bTT b7 hb
 replace HF1 := Azz.mk (kBB HF1.out hb)
 replace HF2 := Azz.mk (kBB HF2.out hb)
 replace HR := Azz.mk (Kd.C_below HR.out hb)
 replace HB := Azz.mk (bTT HB.out hb)
 have HA := Azz.mk (show ObV w8 (wkO nmB 1) A0 A1 c0 c1 from ha)
 clear hb ha b7
 go_wp2_with fail
 (with_reducible refine (weak_calls _ _ _).mono ?_)
 rintro e w9 ⟨B0, d0, B1, d1, rfl, ha, hb⟩
 have HD := Azz.mk (show ObV w9 (wkO nmA 3) B0 B1 d0 d1 from ha)
 replace HA := Azz.mk (HA.out.below hb)
 replace HF1 := Azz.mk (kBB HF1.out hb)
 replace HF2 := Azz.mk (kBB HF2.out hb)
 replace HF3 := Azz.mk (kBB HF3.out hb)
 replace HR := Azz.mk (Kd.C_below HR.out hb)
 replace HB := Azz.mk (bTT HB.out hb)
 clear hb ha
 go_wp2_with fail
 have HO := Azz.mk (show OA _ (some ⟨w9.heap.size, 0, none⟩) osD from obs2 (blk_new w9 (.cells #[.slice A0 1 c0, .slice A1 1 c1, .slice B0 1 d0, .slice B1 1 d1] 68)) (HA.out.below ((Below.refl _ _).alloc (Nat.le_refl _) _)) (HD.out.below ((Below.refl _ _).alloc (Nat.le_refl _) _)))
 (with_reducible refine (findD _ _ 2 (HG.out.below (HB.out.alloc HB.out.size _)) HO.out (by decide)).mono ?_)
 rintro e w10 ⟨rfl, hb⟩
 replace hb := bTT ((Below.refl w9.heap.size w9).alloc (Nat.le_refl _) _) hb
 replace HF1 := Azz.mk (kBB HF1.out hb)
 replace HF2 := Azz.mk (kBB HF2.out hb)
 replace HF3 := Azz.mk (kBB HF3.out hb)
 replace HR := Azz.mk (Kd.C_below HR.out hb)
 replace HB := Azz.mk (bTT HB.out hb)
 clear hb HA HD HO
 have hf1 := fun a b => cq3 (kAA (kAA HF1.out a) b)
 obtain ⟨p0, p1, p2⟩ := hf1 (.cells #[.int .i64 1, .int .i64 0, .int .i64 0] 49) (.cells #[.int .i64 1, .int .i64 0, .int .i64 0] 49)
 clear hf1
 go_wp2_with fail
 have n0 := blk_new w10 (.cells #[.int .i64 1, .int .i64 0, .int .i64 0] 49)
 have n1 := blk_new (w10.alloc (.cells #[.int .i64 1, .int .i64 0, .int .i64 0] 49)) (.cells #[.int .i64 1, .int .i64 0, .int .i64 0] 49)
 rw [World.size_alloc] at n1
 have n2 := blk_new ((w10.alloc (.cells #[.int .i64 1, .int .i64 0, .int .i64 0] 49)).alloc (.cells #[.int .i64 1, .int .i64 0, .int .i64 0] 49)) (.cells #[.int .i64 1, .int .i64 0, .int .i64 0] 49)
 rw [World.size_alloc, World.size_alloc] at n2
 have n3 := blk_new (((w10.alloc (.cells #[.int .i64 1, .int .i64 0, .int .i64 0] 49)).alloc (.cells #[.int .i64 1, .int .i64 0, .int .i64 0] 49)).alloc (.cells #[.int .i64 1, .int .i64 0, .int .i64 0] 49)) (.cells #[.int .i64 1, .int .i64 0, .int .i64 0] 49)
 rw [World.size_alloc, World.size_alloc, World.size_alloc] at n3
 have n4 := blk_new ((((w10.alloc (.cells #[.int .i64 1, .int .i64 0, .int .i64 0] 49)).alloc (.cells #[.int .i64 1, .int .i64 0, .int .i64 0] 49)).alloc (.cells #[.int .i64 1, .int .i64 0, .int .i64 0] 49)).alloc (.cells #[.int .i64 1, .int .i64 0, .int .i64 0] 49)) (.cells #[.slice (some ⟨w10.heap.size + 1 + 1, 0, none⟩) 1 1, .slice (some ⟨w10.heap.size + 1 + 1 + 1, 0, none⟩) 1 1] 90)
 rw [World.size_alloc, World.size_alloc, World.size_alloc, World.size_alloc] at n4
 have hbw : Below w10.heap.size w10 (((((w10.alloc (.cells #[.int .i64 1, .int .i64 0, .int .i64 0] 49)).alloc (.cells #[.int .i64 1, .int .i64 0, .int .i64 0] 49)).alloc (.cells #[.int .i64 1, .int .i64 0, .int .i64 0] 49)).alloc (.cells #[.int .i64 1, .int .i64 0, .int .i64 0] 49)).alloc (.cells #[.slice (some ⟨w10.heap.size + 1 + 1, 0, none⟩) 1 1, .slice (some ⟨w10.heap.size + 1 + 1 + 1, 0, none⟩) 1 1] 90)) := (((((Below.refl _ w10).alloc (Nat.le_refl _) _).alloc (by simp) _).alloc (by simp; omega) _).alloc (by simp; omega) _).alloc (by simp; omega) _
 have HRn := Azz.mk (rows11 n4 (pl1 (p := ⟨1, 0, 0⟩) (kAA (kAA n2 _) _)) (Nat.le_refl _) (pl1 (p := ⟨1, 0, 0⟩) (kAA n3 _)) (Nat.le_refl _))
 have HP0 := Azz.mk (show (((((w10.alloc (.cells #[.int .i64 1, .int .i64 0, .int .i64 0] 49)).alloc (.cells #[.int .i64 1, .int .i64 0, .int .i64 0] 49)).alloc (.cells #[.int .i64 1, .int .i64 0, .int .i64 0] 49)).alloc (.cells #[.int .i64 1, .int .i64 0, .int .i64 0] 49)).alloc (.cells #[.slice (some ⟨w10.heap.size + 1 + 1, 0, none⟩) 1 1, .slice (some ⟨w10.heap.size + 1 + 1 + 1, 0, none⟩) 1 1] 90)).heap[w10.heap.size]? = some (.cells #[.int .i64 1, .int .i64 0, .int .i64 0] 49 (0, 0)) from (kAA (kAA (kAA (kAA n0 _) _) _) _))
 have HP1 := Azz.mk (show (((((w10.alloc (.cells #[.int .i64 1, .int .i64 0, .int .i64 0] 49)).alloc (.cells #[.int .i64 1, .int .i64 0, .int .i64 0] 49)).alloc (.cells #[.int .i64 1, .int .i64 0, .int .i64 0] 49)).alloc (.cells #[.int .i64 1, .int .i64 0, .int .i64 0] 49)).alloc (.cells #[.slice (some ⟨w10.heap.size + 1 + 1, 0, none⟩) 1 1, .slice (some ⟨w10.heap.size + 1 + 1 + 1, 0, none⟩) 1 1] 90)).heap[w10.heap.size + 1]? = some (.cells #[.int .i64 1, .int .i64 0, .int .i64 0] 49 (0, 0)) from (kAA (kAA (kAA n1 _) _) _))
 have HBw := Azz.mk hbw
 clear hbw n0 n1 n2 n3 n4 p0 p1 p2
 (with_reducible refine (sameR _ al _ (Kd.C_below HR.out HBw.out) HRn.out).mono ?_)
 rintro e w11 ⟨rfl, hb⟩
 replace HP0 := Azz.mk (kBB HP0.out hb)
 replace HP1 := Azz.mk (kBB HP1.out hb)
 replace hb := bTT HBw.out hb
 replace HF1 := Azz.mk (kBB HF1.out hb)
 replace HF2 := Azz.mk (kBB HF2.out hb)
 replace HF3 := Azz.mk (kBB HF3.out hb)
 replace HB := Azz.mk (bTT HB.out hb)
 clear hb HR HRn HBw
 obtain ⟨a0, a1, a2⟩ := cq3 HF2.out
 obtain ⟨b0, b1, b2⟩ := cq3 HF3.out
 obtain ⟨c0, c1, c2⟩ := cq3 HP0.out
 obtain ⟨d0, d1, d2⟩ := cq3 HP1.out
 go_wp2
 go_ret
 exact ⟨rfl, HB.out⟩
end Go.Proofs.YtngmipfodjgmmaaGreatDoor.Pure
end
section
namespace Go.Proofs.YtngmipfodjgmmaaGreatDoor.Pure
open Go Go.RowKit Go.Lib Go.Shelf YtngmipfodjgmmaaGreatDoorW.PrintWords YtngmipfodjgmmaaGreatDoorW.PrintLast YtngmipfodjgmmaaGreatDoorW.PrintMore
theorem list_ext {a b : ByteArray} (h : a.toList = b.toList) : a = b := by
 rw [ByteArray.toList_eq, ByteArray.toList_eq] at h
 exact ByteArray.ext (Array.ext' h)
def RsyPost (o : Ob) (k : Nat) (w : World) (e : Ending) (w' : World) : Prop := (∃ b, e = .returned (.bool b) ∧ (b = true ↔ SymGood o k)) ∧ Below w.heap.size w w'
theorem rsy_no {o : Ob} {k : Nat} (h : ¬ SymGood o k) {w w' : World} (hb : Below w.heap.size w w') : RsyPost o k w (.returned (.bool false)) w' := ⟨⟨false, rfl, fun e => absurd e (by decide), fun e => absurd e h⟩, hb⟩
theorem rsym_calls (o : Ob) (k : Nat) (hk : k < o.f1.length) (hkl : k ≤ 100000) (w : World) (A0 A1 : Option Addr) (c0 c1 : Nat) (C0 : Kd.C P.k64 w A0 o.f0.length o.f0) (l0 : o.f0.length ≤ c0) (C1 : Kd.C P.k85 w A1 o.f1.length o.f1) (l1 : o.f1.length ≤ c1) (hol : o.f0.length ≤ 100000) :
 Calls Tryz.prog 66 #[.agg #[.slice A0 o.f0.length c0, .slice A1 o.f1.length c1], .int .i64 (k : Int)] w (RsyPost o k w) := by
 have H0 := Azz.mk C0
 have H1 := Azz.mk C1
 have hb1 := bAA (Below.refl w.heap.size w) (.cells #[.slice A0 o.f0.length c0, .slice A1 o.f1.length c1] 68)
 have hx := blk_new w (.cells #[.slice A0 o.f0.length c0, .slice A1 o.f1.length c1] 68)
 obtain ⟨ad, e, s0, s1, s2, s3⟩ := P.at_T85 (Kd.C_below C1 hb1) k (by omega) (by omega)
 subst e
 rw [Int.toNat_natCast] at s0 s1 s2 s3
 obtain ⟨s, hs⟩ : ∃ s, P.rd_T85 o.f1 (k : Int) = s := ⟨_, rfl⟩
 have HSm := Azz.mk (show smN o k = s from hs)
 rw [hs] at s0 s1 s2 s3
 have HSt : Azz (Stands o s ↔ (s.f2 = -1 ∧ s.f1 ≠ 1 ∧ s.f3 = 0) ∨ (s.f2 ≠ -1 ∧ 0 ≤ s.f2 ∧ s.f2 < o.f0.length ∧ 0 ≤ s.f3 ∧ s.f3 ≤ ((P.rd_T64 o.f0 s.f2).f4.size : Int))) := ⟨Iff.rfl⟩
 have HG : Azz (SymGood o k ↔ (1 ≤ s.f1 ∧ s.f1 ≤ 3) ∧ Stands o s ∧ (skipQ s ∨ (Named s.f0 ∧ ∀ q, q < k → ¬ skipQ (smN o q) → (smN o q).f0 ≠ s.f0))) := ⟨by unfold SymGood; rw [HSm.out]⟩
 clear hs
 obtain ⟨nm, bd, sc, off⟩ := s
 dsimp only at s0 s1 s2 s3 HSt HG
 have hb2 := bAA hb1 (.cells #[.string nm, .int .i64 bd, .int .i64 sc, .int .i64 off] 85)
 have hx2 := kAA hx (.cells #[.string nm, .int .i64 bd, .int .i64 sc, .int .i64 off] 85)
 have hy2 := blk_new (w.alloc (.cells #[.slice A0 o.f0.length c0, .slice (some ad) o.f1.length c1] 68)) (.cells #[.string nm, .int .i64 bd, .int .i64 sc, .int .i64 off] 85)
 rw [World.size_alloc] at hy2
 have HB := Azz.mk hb2
 have HX := Azz.mk hx2
 have HY := Azz.mk hy2
 have x0 := (kCC hx 0).trans rfl
 have x1 := (kCC hx 1).trans rfl
 have z0 := (kCC hx2 0).trans rfl
 have z1 := (kCC hx2 1).trans rfl
 obtain ⟨y0, y1, y2, y3⟩ := cl4 hy2
 have k0 : (0 : Int) ≤ (k : Int) := by omega
 have k1 : (k : Int) < o.f1.length := by omega
 clear C0 C1 hb1 hx hb2 hx2 hy2
 go_enter Tryz.func66, Tryz.ntmps66
 by_cases c1 : bd < 1
 ·have b1 : decide (bd < 1) = true := decide_eq_true c1
  go_wp2
  go_ret
  exact rsy_no (fun h => by have := (HG.out.1 h).1; omega) HB.out
 have b1 : decide (bd < 1) = false := decide_eq_false c1
 by_cases c2 : 3 < bd
 ·have b2 : decide (3 < bd) = true := decide_eq_true c2
  go_wp2
  go_ret
  exact rsy_no (fun h => by have := (HG.out.1 h).1; omega) HB.out
 have b2 : decide (3 < bd) = false := decide_eq_false c2
 by_cases c3 : sc < -1
 ·have b3 : decide (sc < -1) = true := decide_eq_true c3
  go_wp2
  go_ret
  exact rsy_no (fun h => by have := HSt.out.1 (HG.out.1 h).2.1; omega) HB.out
 have b3 : decide (sc < -1) = false := decide_eq_false c3
 by_cases c4 : (o.f0.length : Int) ≤ sc
 ·have b4 : decide ((o.f0.length : Int) ≤ sc) = true := decide_eq_true c4
  go_wp2
  go_ret
  exact rsy_no (fun h => by have := HSt.out.1 (HG.out.1 h).2.1; omega) HB.out
 have b4 : decide ((o.f0.length : Int) ≤ sc) = false := decide_eq_false c4
 by_cases c5 : off < 0
 ·have b5 : decide (off < 0) = true := decide_eq_true c5
  go_wp2
  go_ret
  exact rsy_no (fun h => by have := HSt.out.1 (HG.out.1 h).2.1; omega) HB.out
 have b5 : decide (off < 0) = false := decide_eq_false c5
 have HC := Azz.mk (And.intro (And.intro c1 c2) (And.intro c3 (And.intro c4 c5)))
 clear c1 c2 c3 c4 c5
 by_cases c6 : sc = -1
 ·have b6 : (sc == -1) = true := beq_iff_eq.mpr c6
  have H6 := Azz.mk c6
  by_cases c7 : bd = 1
  ·have b7 : (bd == 1) = true := beq_iff_eq.mpr c7
   have H7 := Azz.mk c7
   clear c6 c7
   go_wp2
   go_quiet (fail)
   go_wp2
   go_ret
   exact rsy_no (fun h => by have := HSt.out.1 (HG.out.1 h).2.1; have := H6.out; have := H7.out; omega) (bNN HB.out _)
  ·have b7 : (bd == 1) = false := beq_eq_false_iff_ne.mpr c7
   have H7 := Azz.mk c7
   by_cases c8 : off = 0
   ·have b8 : (off != 0) = false := by simp [c8]
    have HOk := Azz.mk (HSt.out.2 (.inl ⟨c6, c7, c8⟩))
    have b9 : decide (0 ≤ sc) = false := decide_eq_false (by omega)
    clear c6 c7 c8
    go_wp2
    go_quiet (fail)
    clear b7
    have HBd := Azz.mk (bNN HB.out nq)
    have HXd := Azz.mk (kBB HX.out (bNN (Below.refl _ _) nq))
    have HYd := Azz.mk (kBB HY.out (bNN (Below.refl _ _) nq))
    generalize World.drewN _ nq = Vd at HBd HXd HYd ⊢
    obtain ⟨y0, y1, y2, y3⟩ := cl4 HYd.out
    by_cases c9 : nm.toList = []
    ·have e0 : (nm.toList == ([] : List UInt8)) = true := by rw [c9]; rfl
     have e1 : nm.toList.isEmpty = true := by rw [c9]; rfl
     have hz := size_of_nil c9
     clear c9
     by_cases c10 : bd = 1
     ·have f1 : (bd == 1) = true := beq_iff_eq.mpr c10
      have HSk := Azz.mk (And.intro hz c10)
      clear c10
      go_wp2
      go_ret
      exact ⟨⟨true, rfl, fun _ => HG.out.2 ⟨by have := HC.out; omega, HOk.out, .inl HSk.out⟩, fun _ => rfl⟩, HBd.out⟩
     ·have f1 : (bd == 1) = false := beq_eq_false_iff_ne.mpr c10
      have H10 := Azz.mk c10
      clear c10
      go_wp2
      go_ret
      exact rsy_no (fun h => by
       rcases (HG.out.1 h).2.2 with e | ⟨e, _⟩
       ·exact H10.out e.2
       ·have := named_pos e; omega) HBd.out
    ·have e0 : (nm.toList == ([] : List UInt8)) = false := beq_eq_false_iff_ne.mpr c9
     have e1 : nm.toList.isEmpty = false := by cases h : nm.toList with | nil => exact absurd h c9 | cons a b => rfl
     have HNz : Azz (nm.size ≠ 0) := ⟨fun e => c9 (nil_of_size e)⟩
     clear c9
     go_wp2
     clear y0 y1 y2 y3
     go_loopw [6] (fun v wr => ∃ i : Nat, i ≤ k ∧ v = .int .i64 i ∧ Azz (∀ q, q < i → (smN o q).f0 ≠ nm) ∧ Azz (Below Vd.heap.size Vd wr)) (fun v _ => k - (RowKit.intOf v).toNat)
     case atStart => exact ⟨0, Nat.zero_le _, rfl, ⟨fun q h => absurd h (Nat.not_lt_zero _)⟩, ⟨Below.refl _ _⟩⟩
     case round =>
      obtain ⟨i, hi, rfl, HK, HBr⟩ := hrel
      have HB3 := Azz.mk (bTT HBd.out HBr.out)
      have zx := kCC (kBB HXd.out HBr.out) 1
      have yy := kCC (kBB HYd.out HBr.out) 0
      by_cases hlt : i < k
      ·obtain ⟨ai, e, t0, _, _, _⟩ := P.at_T85 (Kd.C_below H1.out HB3.out) i (by omega) (by omega)
       cases e
       rw [Int.toNat_natCast] at t0
       obtain ⟨n2, hn⟩ : ∃ z, (P.rd_T85 o.f1 (i : Int)).f0 = z := ⟨_, rfl⟩
       have HNi := Azz.mk (show (smN o i).f0 = n2 from hn)
       rw [hn] at t0
       have i0 : (0 : Int) ≤ (i : Int) := by omega
       have i1 : (i : Int) < o.f1.length := by omega
       clear hn
       by_cases he : n2 = nm
       ·have nE : (n2.toList == nm.toList) = true := by rw [he]; simp
        have HE := Azz.mk he
        clear he
        go_wp2
        go_quiet (fail)
        go_wp2
        go_ret
        exact rsy_no (fun h => by
         rcases (HG.out.1 h).2.2 with e | ⟨_, g⟩
         ·exact HNz.out e.1
         ·exact g i hlt (fun c => HNz.out (by rw [← HE.out, ← HNi.out]; exact c.1)) (HNi.out.trans HE.out)) (bNN HB3.out _)
       ·have nE : (n2.toList == nm.toList) = false := beq_eq_false_iff_ne.mpr (fun h => he (list_ext h))
        have HE := Azz.mk he
        clear he
        go_wp2
        go_quiet (fail)
        go_wp2
        go_roundw
        case rel =>
         refine ⟨i + 1, by omega, by go_num, ⟨fun q hq => ?_⟩, ⟨bNN HBr.out _⟩⟩
         rcases Nat.eq_or_lt_of_le (Nat.le_of_lt_succ hq) with rfl | hq
         ·rw [HNi.out]; exact HE.out
         ·exact HK.out q hq
        case measure => simp [RowKit.intOf]; omega
      ·obtain rfl : i = k := by omega
       obtain ⟨b, ⟨K, hK⟩, h2⟩ := names_one nm
       have HNm := Azz.mk (fun W => P.cleatref14_IsName.calls K nm b W (hK K (Nat.le_refl _)))
       have HNb := Azz.mk h2
       clear hK h2
       go_wp2_with fail
       (with_reducible refine (HNm.out _).mono ?_)
       rintro en w5 ⟨rfl, hb⟩
       have HB5 := Azz.mk (bTT HB3.out hb)
       clear hb
       go_wp2
       go_ret
       refine ⟨⟨b, rfl, fun e => ?_, fun e => ?_⟩, HB5.out⟩
       ·subst e
        exact HG.out.2 ⟨by have := HC.out; omega, HOk.out, .inr ⟨HNb.out, fun q hq _ => HK.out q hq⟩⟩
       ·rcases (HG.out.1 e).2.2 with e | ⟨e, _⟩
        ·exact absurd e.1 HNz.out
        ·exact Ev.one HNb.out e
   ·have b8 : (off != 0) = true := bne_iff_ne.mpr c8
    have H8 := Azz.mk c8
    clear c6 c7 c8
    go_wp2
    go_quiet (fail)
    go_wp2
    go_ret
    exact rsy_no (fun h => by have := HSt.out.1 (HG.out.1 h).2.1; have := H6.out; have := H8.out; omega) (bNN HB.out _)
 ·have b6 : (sc == -1) = false := beq_eq_false_iff_ne.mpr c6
  have hsc : 0 ≤ sc := by have := HC.out; omega
  have b9 : decide (0 ≤ sc) = true := decide_eq_true hsc
  obtain ⟨q, hq⟩ : ∃ q : Nat, sc = q := ⟨sc.toNat, by omega⟩
  subst hq
  have hql : q < o.f0.length := by have := HC.out; omega
  have q1 : (q : Int) < o.f0.length := by omega
  obtain ⟨ae, A5, c5, ea, _, _, _, _, x4, _, _, _⟩ := P.at_T64 (Kd.C_below H0.out HB.out) q (by omega) (by omega)
  cases ea
  rw [Int.toNat_natCast] at x4
  obtain ⟨d, hd⟩ : ∃ d, (P.rd_T64 o.f0 (q : Int)).f4 = d := ⟨_, rfl⟩
  rw [hd] at x4 HSt
  clear hd
  by_cases c7 : d.size < off
  ·have b7 : decide (d.size < off) = true := decide_eq_true c7
   have H7 := Azz.mk c7
   clear c6 c7
   go_wp2
   go_quiet (fail)
   go_wp2
   go_ret
   exact rsy_no (fun h => by have := HSt.out.1 (HG.out.1 h).2.1; have := H7.out; omega) (bNN HB.out _)
  ·have b7 : decide (d.size < off) = false := decide_eq_false c7
   have HOk := Azz.mk (HSt.out.2 (.inr ⟨c6, hsc, q1, by have := HC.out; omega, by omega⟩))
   clear c6 c7
   go_wp2
   go_quiet (fail)
   have HBd := Azz.mk (bNN HB.out nq)
   have HXd := Azz.mk (kBB HX.out (bNN (Below.refl _ _) nq))
   have HYd := Azz.mk (kBB HY.out (bNN (Below.refl _ _) nq))
   generalize World.drewN _ nq = Vd at HBd HXd HYd ⊢
   obtain ⟨y0, y1, y2, y3⟩ := cl4 HYd.out
   by_cases c9 : nm.toList = []
   ·have e0 : (nm.toList == ([] : List UInt8)) = true := by rw [c9]; rfl
    have e1 : nm.toList.isEmpty = true := by rw [c9]; rfl
    have hz := size_of_nil c9
    clear c9
    by_cases c10 : bd = 1
    ·have f1 : (bd == 1) = true := beq_iff_eq.mpr c10
     have HSk := Azz.mk (And.intro hz c10)
     clear c10
     go_wp2
     go_ret
     exact ⟨⟨true, rfl, fun _ => HG.out.2 ⟨by have := HC.out; omega, HOk.out, .inl HSk.out⟩, fun _ => rfl⟩, HBd.out⟩
    ·have f1 : (bd == 1) = false := beq_eq_false_iff_ne.mpr c10
     have H10 := Azz.mk c10
     clear c10
     go_wp2
     go_ret
     exact rsy_no (fun h => by
      rcases (HG.out.1 h).2.2 with e | ⟨e, _⟩
      ·exact H10.out e.2
      ·have := named_pos e; omega) HBd.out
   ·have e0 : (nm.toList == ([] : List UInt8)) = false := beq_eq_false_iff_ne.mpr c9
    have e1 : nm.toList.isEmpty = false := by cases h : nm.toList with | nil => exact absurd h c9 | cons a b => rfl
    have HNz : Azz (nm.size ≠ 0) := ⟨fun e => c9 (nil_of_size e)⟩
    clear c9
    go_wp2
    clear y0 y1 y2 y3
    go_loopw [6] (fun v wr => ∃ i : Nat, i ≤ k ∧ v = .int .i64 i ∧ Azz (∀ q, q < i → (smN o q).f0 ≠ nm) ∧ Azz (Below Vd.heap.size Vd wr)) (fun v _ => k - (RowKit.intOf v).toNat)
    case atStart => exact ⟨0, Nat.zero_le _, rfl, ⟨fun q h => absurd h (Nat.not_lt_zero _)⟩, ⟨Below.refl _ _⟩⟩
    case round =>
     obtain ⟨i, hi, rfl, HK, HBr⟩ := hrel
     have HB3 := Azz.mk (bTT HBd.out HBr.out)
     have zx := kCC (kBB HXd.out HBr.out) 1
     have yy := kCC (kBB HYd.out HBr.out) 0
     by_cases hlt : i < k
     ·obtain ⟨ai, e, t0, _, _, _⟩ := P.at_T85 (Kd.C_below H1.out HB3.out) i (by omega) (by omega)
      cases e
      rw [Int.toNat_natCast] at t0
      obtain ⟨n2, hn⟩ : ∃ z, (P.rd_T85 o.f1 (i : Int)).f0 = z := ⟨_, rfl⟩
      have HNi := Azz.mk (show (smN o i).f0 = n2 from hn)
      rw [hn] at t0
      have i0 : (0 : Int) ≤ (i : Int) := by omega
      have i1 : (i : Int) < o.f1.length := by omega
      clear hn
      by_cases he : n2 = nm
      ·have nE : (n2.toList == nm.toList) = true := by rw [he]; simp
       have HE := Azz.mk he
       clear he
       go_wp2
       go_quiet (fail)
       go_wp2
       go_ret
       exact rsy_no (fun h => by
        rcases (HG.out.1 h).2.2 with e | ⟨_, g⟩
        ·exact HNz.out e.1
        ·exact g i hlt (fun c => HNz.out (by rw [← HE.out, ← HNi.out]; exact c.1)) (HNi.out.trans HE.out)) (bNN HB3.out _)
      ·have nE : (n2.toList == nm.toList) = false := beq_eq_false_iff_ne.mpr (fun h => he (list_ext h))
       have HE := Azz.mk he
       clear he
       go_wp2
       go_quiet (fail)
       go_wp2
       go_roundw
       case rel =>
        refine ⟨i + 1, by omega, by go_num, ⟨fun q hq => ?_⟩, ⟨bNN HBr.out _⟩⟩
        rcases Nat.eq_or_lt_of_le (Nat.le_of_lt_succ hq) with rfl | hq
        ·rw [HNi.out]; exact HE.out
        ·exact HK.out q hq
       case measure => simp [RowKit.intOf]; omega
     ·obtain rfl : i = k := by omega
      obtain ⟨b, ⟨K, hK⟩, h2⟩ := names_one nm
      have HNm := Azz.mk (fun W => P.cleatref14_IsName.calls K nm b W (hK K (Nat.le_refl _)))
      have HNb := Azz.mk h2
      clear hK h2
      go_wp2_with fail
      (with_reducible refine (HNm.out _).mono ?_)
      rintro en w5 ⟨rfl, hb⟩
      have HB5 := Azz.mk (bTT HB3.out hb)
      clear hb
      go_wp2
      go_ret
      refine ⟨⟨b, rfl, fun e => ?_, fun e => ?_⟩, HB5.out⟩
      ·subst e
       exact HG.out.2 ⟨by have := HC.out; omega, HOk.out, .inr ⟨HNb.out, fun q hq _ => HK.out q hq⟩⟩
      ·rcases (HG.out.1 e).2.2 with e | ⟨e, _⟩
       ·exact absurd e.1 HNz.out
       ·exact Ev.one HNb.out e
end Go.Proofs.YtngmipfodjgmmaaGreatDoor.Pure
end
