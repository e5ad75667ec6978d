/- The document's row of chapter 20 ('resolved') walked: true. -/
import Derived.Test.YtngmipfodjgmmaaDoorSm67
namespace Go.Proofs.YtngmipfodjgmmaaDoor.Pure
open Go Go.RowKit Go.Lib Go.Shelf Go.Maps Go.Proofs.YtngmipfodjgmmaaDoorW.PrintWords Go.Proofs.YtngmipfodjgmmaaDoorW.PrintLast Go.Proofs.YtngmipfodjgmmaaDoorW.PrintMore
open P (Glob)
set_option linter.unusedVariables false
set_option linter.unusedSimpArgs false
theorem sameR (w : World) (al g : Nat) (h1 : Kd.C kRows w (some ⟨al, 0, none⟩) 2 [[⟨1, 0, 0⟩], [⟨1, 0, 0⟩]]) (h2 : Kd.C kRows w (some ⟨g, 0, none⟩) 2 [[⟨1, 0, 0⟩], [⟨1, 0, 0⟩]]) :
    Calls Tryd.prog 23 #[.slice (some ⟨al, 0, none⟩) 2 2, .slice (some ⟨g, 0, none⟩) 2 2] w fun e w' => e = .returned (.bool true) ∧ Below w.heap.size w w' := by
  obtain ⟨K, hK⟩ := same_refl_ev [[⟨1, 0, 0⟩], [⟨1, 0, 0⟩]] (by decide) (fun i hi => by
    have : i = 0 ∨ i = 1 := by have : i < 2 := hi; omega
    rcases this with rfl | rfl <;> decide)
  refine (P.cleatref20_Same.calls K (some ⟨al, 0, none⟩) 2 _ (some ⟨g, 0, none⟩) 2 _ true w h1 (by decide) h2 (by decide) (hK K (Nat.le_refl _))).mono ?_
  intro e w' h
  exact ⟨h.1, h.2.below⟩
theorem sy1 {W : World} {g : Nat} {s : Sy} (h : W.heap[g]? = some (.cells #[.string s.f0, .int .i64 s.f1, .int .i64 s.f2, .int .i64 s.f3] 50 (0, 0))) : SyA W (some ⟨g, 0, none⟩) [s] :=
  have hr : Reps (P.k50.K W) 4 [s] (([] : List Value) ++ [.string s.f0, .int .i64 s.f1, .int .i64 s.f2, .int .i64 s.f3]) := (Reps.none (P.k50.K W) 4).snoc (P.k50_mk W s) rfl
  C_blk (d := P.k50) (xs := [s]) h hr (by simp [maxLen])
set_option maxRecDepth 100000 in
set_option maxHeartbeats 4000000 in
theorem resolved_any (w : World) (hG : Glob w) : Calls Tryd.prog 21 #[] w fun e w' => e = .returned (.bool true) ∧ Below w.heap.size w w' := by
  have HG := Aside0.mk hG
  clear hG
  go_enter Tryd.func21, Tryd.ntmps21
  go_wp2_with fail
  (with_reducible refine (weak_calls _ _ _).mono ?_)
  rintro e w1 ⟨A0, c0, A1, c1, rfl, ha, hb⟩
  have HB := Aside0.mk hb
  have HA := Aside0.mk (show ObV w1 (wkO nmA 3) A0 A1 c0 c1 from ha)
  clear hb ha
  go_wp2_with fail
  (with_reducible refine (weak_calls _ _ _).mono ?_)
  rintro e w2 ⟨B0, d0, B1, d1, rfl, ha, hb⟩
  have HD := Aside0.mk (show ObV w2 (wkO nmA 2) B0 B1 d0 d1 from ha)
  replace HA := Aside0.mk (HA.out.below hb)
  replace HB := Aside0.mk (below_step HB.out hb)
  clear hb ha
  go_wp2_with fail
  have HO := Aside0.mk (show OA _ (some ⟨w2.heap.size, 0, none⟩) osA from obs2 (blk_new w2 (.cells #[.slice A0 1 c0, .slice A1 1 c1, .slice B0 1 d0, .slice B1 1 d1] 48)) (HA.out.below ((Below.refl _ _).alloc (Nat.le_refl _) _)) (HD.out.below ((Below.refl _ _).alloc (Nat.le_refl _) _)))
  (with_reducible refine (resA _ _ 2 (HG.out.below (HB.out.alloc HB.out.size _)) HO.out (by decide)).mono ?_)
  rintro e w3 ⟨al, rfl, hrow, hb⟩
  have HR := Aside0.mk hrow
  replace HB := Aside0.mk (below_step (HB.out.alloc HB.out.size _) hb)
  clear hb hrow HA HD HO
  go_wp2_with fail
  have HF1 := Aside0.mk (blk_new w3 (.cells #[.int .i64 0, .int .i64 0, .int .i64 0] 41))
  have b3 := (Below.refl w3.heap.size w3).alloc (Nat.le_refl _) (.cells #[.int .i64 0, .int .i64 0, .int .i64 0] 41)
  (with_reducible refine (weak_calls _ _ _).mono ?_)
  rintro e w4 ⟨A0, c0, A1, c1, rfl, ha, hb⟩
  replace HF1 := Aside0.mk (blk_below HF1.out hb)
  replace HR := Aside0.mk (Kd.C_below HR.out (below_step b3 hb))
  replace HB := Aside0.mk (below_step HB.out (below_step b3 hb))
  have HA := Aside0.mk (show ObV w4 (wkO nmA 2) A0 A1 c0 c1 from ha)
  clear hb ha b3
  go_wp2_with fail
  (with_reducible refine (weak_calls _ _ _).mono ?_)
  rintro e w5 ⟨B0, d0, B1, d1, rfl, ha, hb⟩
  have HD := Aside0.mk (show ObV w5 (wkO nmA 2) B0 B1 d0 d1 from ha)
  replace HA := Aside0.mk (HA.out.below hb)
  replace HF1 := Aside0.mk (blk_below HF1.out hb)
  replace HR := Aside0.mk (Kd.C_below HR.out hb)
  replace HB := Aside0.mk (below_step HB.out hb)
  clear hb ha
  go_wp2_with fail
  have HO := Aside0.mk (show OA _ (some ⟨w5.heap.size, 0, none⟩) osB from obs2 (blk_new w5 (.cells #[.slice A0 1 c0, .slice A1 1 c1, .slice B0 1 d0, .slice B1 1 d1] 48)) (HA.out.below ((Below.refl _ _).alloc (Nat.le_refl _) _)) (HD.out.below ((Below.refl _ _).alloc (Nat.le_refl _) _)))
  (with_reducible refine (resB _ _ 2 (HG.out.below (HB.out.alloc HB.out.size _)) HO.out (by decide)).mono ?_)
  rintro e w6 ⟨rfl, hb⟩
  replace hb := below_step ((Below.refl w5.heap.size w5).alloc (Nat.le_refl _) _) hb
  replace HF1 := Aside0.mk (blk_below HF1.out hb)
  replace HR := Aside0.mk (Kd.C_below HR.out hb)
  replace HB := Aside0.mk (below_step HB.out hb)
  clear hb HA HD HO
  go_wp2_with fail
  have HF2 := Aside0.mk (blk_new w6 (.cells #[.int .i64 7, .int .i64 1, .int .i64 0] 41))
  have b6 := (Below.refl w6.heap.size w6).alloc (Nat.le_refl _) (.cells #[.int .i64 7, .int .i64 1, .int .i64 0] 41)
  have b7 := b6.alloc (by simp) (.cells #[.string ⟨#[98]⟩, .int .i64 3, .int .i64 (-1), .int .i64 0] 50)
  have b8 := b7.alloc (by simp; omega) (.cells #[.slice none 0 0, .slice (some ⟨w6.heap.size + 1, 0, none⟩) 1 1] 48)
  have hsy := blk_new (w6.alloc (.cells #[.int .i64 7, .int .i64 1, .int .i64 0] 41)) (.cells #[.string ⟨#[98]⟩, .int .i64 3, .int .i64 (-1), .int .i64 0] 50)
  have hob := blk_new ((w6.alloc (.cells #[.int .i64 7, .int .i64 1, .int .i64 0] 41)).alloc (.cells #[.string ⟨#[98]⟩, .int .i64 3, .int .i64 (-1), .int .i64 0] 50)) (.cells #[.slice none 0 0, .slice (some ⟨w6.heap.size + 1, 0, none⟩) 1 1] 48)
  rw [World.size_alloc] at hsy
  rw [World.size_alloc, World.size_alloc] at hob
  have HO := Aside0.mk (show OA _ (some ⟨w6.heap.size + 1 + 1, 0, none⟩) osC from obs1 hob ⟨Kd.C_nil _ _, by decide, sy1 (blk_alloc hsy _), by decide⟩)
  have HB8 := Aside0.mk b8
  clear hsy hob b7 b6 b8
  (with_reducible refine (resC _ _ 1 (HG.out.below (below_step HB.out HB8.out)) HO.out (by decide)).mono ?_)
  rintro e w7 ⟨rfl, hb⟩
  replace HF2 := Aside0.mk (blk_below (blk_alloc (blk_alloc HF2.out _) _) hb)
  replace hb := below_step HB8.out hb
  replace HF1 := Aside0.mk (blk_below HF1.out hb)
  replace HR := Aside0.mk (Kd.C_below HR.out hb)
  replace HB := Aside0.mk (below_step HB.out hb)
  clear hb HO HB8
  go_wp2_with fail
  have HF3 := Aside0.mk (blk_new w7 (.cells #[.int .i64 6, .int .i64 0, .int .i64 0] 41))
  have b7 := (Below.refl w7.heap.size w7).alloc (Nat.le_refl _) (.cells #[.int .i64 6, .int .i64 0, .int .i64 0] 41)
  (with_reducible refine (weak_calls _ _ _).mono ?_)
  rintro e w8 ⟨A0, c0, A1, c1, rfl, ha, hb⟩
  replace HF3 := Aside0.mk (blk_below HF3.out hb)
  replace hb := below_step b7 hb
  replace HF1 := Aside0.mk (blk_below HF1.out hb)
  replace HF2 := Aside0.mk (blk_below HF2.out hb)
  replace HR := Aside0.mk (Kd.C_below HR.out hb)
  replace HB := Aside0.mk (below_step HB.out hb)
  have HA := Aside0.mk (show ObV w8 (wkO nmB 1) A0 A1 c0 c1 from ha)
  clear hb ha b7
  go_wp2_with fail
  (with_reducible refine (weak_calls _ _ _).mono ?_)
  rintro e w9 ⟨B0, d0, B1, d1, rfl, ha, hb⟩
  have HD := Aside0.mk (show ObV w9 (wkO nmA 3) B0 B1 d0 d1 from ha)
  replace HA := Aside0.mk (HA.out.below hb)
  replace HF1 := Aside0.mk (blk_below HF1.out hb)
  replace HF2 := Aside0.mk (blk_below HF2.out hb)
  replace HF3 := Aside0.mk (blk_below HF3.out hb)
  replace HR := Aside0.mk (Kd.C_below HR.out hb)
  replace HB := Aside0.mk (below_step HB.out hb)
  clear hb ha
  go_wp2_with fail
  have HO := Aside0.mk (show OA _ (some ⟨w9.heap.size, 0, none⟩) osD from obs2 (blk_new w9 (.cells #[.slice A0 1 c0, .slice A1 1 c1, .slice B0 1 d0, .slice B1 1 d1] 48)) (HA.out.below ((Below.refl _ _).alloc (Nat.le_refl _) _)) (HD.out.below ((Below.refl _ _).alloc (Nat.le_refl _) _)))
  (with_reducible refine (findD _ _ 2 (HG.out.below (HB.out.alloc HB.out.size _)) HO.out (by decide)).mono ?_)
  rintro e w10 ⟨rfl, hb⟩
  replace hb := below_step ((Below.refl w9.heap.size w9).alloc (Nat.le_refl _) _) hb
  replace HF1 := Aside0.mk (blk_below HF1.out hb)
  replace HF2 := Aside0.mk (blk_below HF2.out hb)
  replace HF3 := Aside0.mk (blk_below HF3.out hb)
  replace HR := Aside0.mk (Kd.C_below HR.out hb)
  replace HB := Aside0.mk (below_step HB.out hb)
  clear hb HA HD HO
  have hf1 := fun a b => cq3 (blk_alloc (blk_alloc HF1.out a) b)
  obtain ⟨p0, p1, p2⟩ := hf1 (.cells #[.int .i64 1, .int .i64 0, .int .i64 0] 56) (.cells #[.int .i64 1, .int .i64 0, .int .i64 0] 56)
  clear hf1
  go_wp2_with fail
  have n0 := blk_new w10 (.cells #[.int .i64 1, .int .i64 0, .int .i64 0] 56)
  have n1 := blk_new (w10.alloc (.cells #[.int .i64 1, .int .i64 0, .int .i64 0] 56)) (.cells #[.int .i64 1, .int .i64 0, .int .i64 0] 56)
  rw [World.size_alloc] at n1
  have n2 := blk_new ((w10.alloc (.cells #[.int .i64 1, .int .i64 0, .int .i64 0] 56)).alloc (.cells #[.int .i64 1, .int .i64 0, .int .i64 0] 56)) (.cells #[.int .i64 1, .int .i64 0, .int .i64 0] 56)
  rw [World.size_alloc, World.size_alloc] at n2
  have n3 := blk_new (((w10.alloc (.cells #[.int .i64 1, .int .i64 0, .int .i64 0] 56)).alloc (.cells #[.int .i64 1, .int .i64 0, .int .i64 0] 56)).alloc (.cells #[.int .i64 1, .int .i64 0, .int .i64 0] 56)) (.cells #[.int .i64 1, .int .i64 0, .int .i64 0] 56)
  rw [World.size_alloc, World.size_alloc, World.size_alloc] at n3
  have n4 := blk_new ((((w10.alloc (.cells #[.int .i64 1, .int .i64 0, .int .i64 0] 56)).alloc (.cells #[.int .i64 1, .int .i64 0, .int .i64 0] 56)).alloc (.cells #[.int .i64 1, .int .i64 0, .int .i64 0] 56)).alloc (.cells #[.int .i64 1, .int .i64 0, .int .i64 0] 56)) (.cells #[.slice (some ⟨w10.heap.size + 1 + 1, 0, none⟩) 1 1, .slice (some ⟨w10.heap.size + 1 + 1 + 1, 0, none⟩) 1 1] 52)
  rw [World.size_alloc, World.size_alloc, World.size_alloc, World.size_alloc] at n4
  have hbw : Below w10.heap.size w10 (((((w10.alloc (.cells #[.int .i64 1, .int .i64 0, .int .i64 0] 56)).alloc (.cells #[.int .i64 1, .int .i64 0, .int .i64 0] 56)).alloc (.cells #[.int .i64 1, .int .i64 0, .int .i64 0] 56)).alloc (.cells #[.int .i64 1, .int .i64 0, .int .i64 0] 56)).alloc (.cells #[.slice (some ⟨w10.heap.size + 1 + 1, 0, none⟩) 1 1, .slice (some ⟨w10.heap.size + 1 + 1 + 1, 0, none⟩) 1 1] 52)) := (((((Below.refl _ w10).alloc (Nat.le_refl _) _).alloc (by simp) _).alloc (by simp; omega) _).alloc (by simp; omega) _).alloc (by simp; omega) _
  have HRn := Aside0.mk (rows11 n4 (pl1 (p := ⟨1, 0, 0⟩) (blk_alloc (blk_alloc n2 _) _)) (Nat.le_refl _) (pl1 (p := ⟨1, 0, 0⟩) (blk_alloc n3 _)) (Nat.le_refl _))
  have HP0 := Aside0.mk (show (((((w10.alloc (.cells #[.int .i64 1, .int .i64 0, .int .i64 0] 56)).alloc (.cells #[.int .i64 1, .int .i64 0, .int .i64 0] 56)).alloc (.cells #[.int .i64 1, .int .i64 0, .int .i64 0] 56)).alloc (.cells #[.int .i64 1, .int .i64 0, .int .i64 0] 56)).alloc (.cells #[.slice (some ⟨w10.heap.size + 1 + 1, 0, none⟩) 1 1, .slice (some ⟨w10.heap.size + 1 + 1 + 1, 0, none⟩) 1 1] 52)).heap[w10.heap.size]? = some (.cells #[.int .i64 1, .int .i64 0, .int .i64 0] 56 (0, 0)) from (blk_alloc (blk_alloc (blk_alloc (blk_alloc n0 _) _) _) _))
  have HP1 := Aside0.mk (show (((((w10.alloc (.cells #[.int .i64 1, .int .i64 0, .int .i64 0] 56)).alloc (.cells #[.int .i64 1, .int .i64 0, .int .i64 0] 56)).alloc (.cells #[.int .i64 1, .int .i64 0, .int .i64 0] 56)).alloc (.cells #[.int .i64 1, .int .i64 0, .int .i64 0] 56)).alloc (.cells #[.slice (some ⟨w10.heap.size + 1 + 1, 0, none⟩) 1 1, .slice (some ⟨w10.heap.size + 1 + 1 + 1, 0, none⟩) 1 1] 52)).heap[w10.heap.size + 1]? = some (.cells #[.int .i64 1, .int .i64 0, .int .i64 0] 56 (0, 0)) from (blk_alloc (blk_alloc (blk_alloc n1 _) _) _))
  have HBw := Aside0.mk hbw
  clear hbw n0 n1 n2 n3 n4 p0 p1 p2
  (with_reducible refine (sameR _ al _ (Kd.C_below HR.out HBw.out) HRn.out).mono ?_)
  rintro e w11 ⟨rfl, hb⟩
  replace HP0 := Aside0.mk (blk_below HP0.out hb)
  replace HP1 := Aside0.mk (blk_below HP1.out hb)
  replace hb := below_step HBw.out hb
  replace HF1 := Aside0.mk (blk_below HF1.out hb)
  replace HF2 := Aside0.mk (blk_below HF2.out hb)
  replace HF3 := Aside0.mk (blk_below HF3.out hb)
  replace HB := Aside0.mk (below_step HB.out hb)
  clear hb HR HRn HBw
  obtain ⟨a0, a1, a2⟩ := cq3 HF2.out
  obtain ⟨b0, b1, b2⟩ := cq3 HF3.out
  obtain ⟨c0, c1, c2⟩ := cq3 HP0.out
  obtain ⟨d0, d1, d2⟩ := cq3 HP1.out
  go_wp2
  go_ret
  exact ⟨rfl, HB.out⟩
end Go.Proofs.YtngmipfodjgmmaaDoor.Pure
