/- The document's rows of chapter 22 ('folded') walked: true. -/
import Derived.Test.YtngmipfodjgmmaaDoorFr67
namespace Go.Proofs.YtngmipfodjgmmaaDoor.Pure
open Go Go.RowKit Go.Lib Go.Shelf Go.Proofs.YtngmipfodjgmmaaDoorW.PrintWords Go.Proofs.YtngmipfodjgmmaaDoorW.PrintLast Go.Proofs.YtngmipfodjgmmaaDoorW.PrintMore
open P (Glob UA)
open Folds (gt)
set_option linter.unusedVariables false
set_option linter.unusedSimpArgs false
theorem blk_newd (w : World) (o : Obj) : (w.alloc o).drew.heap[w.heap.size]? = some o := blk_new w o
theorem blk_new1 (w : World) (o o2 : Obj) : ((w.alloc o).alloc o2).heap[w.heap.size + 1]? = some o2 := by
 have h := blk_new (w.alloc o) o2
 rw [show (w.alloc o).heap.size = w.heap.size + 1 by simp] at h
 exact h
theorem keep6 {w w1 : World} {p0 p1 p2 p3 p4 p5 : Addr} {v0 v1 v2 v3 v4 v5 : Value} (h : w.cell? p0 = some v0 ∧ w.cell? p1 = some v1 ∧ w.cell? p2 = some v2 ∧ w.cell? p3 = some v3 ∧ w.cell? p4 = some v4 ∧ w.cell? p5 = some v5) (hb : Below w.heap.size w w1) : w1.cell? p0 = some v0 ∧ w1.cell? p1 = some v1 ∧ w1.cell? p2 = some v2 ∧ w1.cell? p3 = some v3 ∧ w1.cell? p4 = some v4 ∧ w1.cell? p5 = some v5 := by
 obtain ⟨a0, a1, a2, a3, a4, a5⟩ := h
 exact ⟨keepc a0 hb, keepc a1 hb, keepc a2 hb, keepc a3 hb, keepc a4 hb, keepc a5 hb⟩
set_option maxRecDepth 100000 in
set_option maxHeartbeats 8000000 in
theorem folded_any (w : World) (hG : Glob w) : Calls Tryd.prog 14 #[] w fun e w' => e = .returned (.bool true) ∧ Below w.heap.size w w' := by
 have HG := Azz.mk hG
 clear hG
 go_enter Tryd.func14, Tryd.ntmps14
 go_wp2
 have hBV : Below w.heap.size w (w.alloc (.cells #[.string ⟨#[114]⟩, .int .i64 1, .bool false, .int .i64 0, .string ⟨#[192, 3, 95, 214]⟩, .slice none 0 0] 36)) := bAA (Below.refl _ _) _
 have rb : (w.alloc (.cells #[.string ⟨#[114]⟩, .int .i64 1, .bool false, .int .i64 0, .string ⟨#[192, 3, 95, 214]⟩, .slice none 0 0] 36)).heap[w.heap.size]? = some (.cells #[.string ⟨#[114]⟩, .int .i64 1, .bool false, .int .i64 0, .string ⟨#[192, 3, 95, 214]⟩, .slice none 0 0] 36 (0, 0)) := blk_new _ _
 generalize hV : w.alloc (.cells #[.string ⟨#[114]⟩, .int .i64 1, .bool false, .int .i64 0, .string ⟨#[192, 3, 95, 214]⟩, .slice none 0 0] 36) = V at hBV rb ⊢
 clear hV
 have HBV := Azz.mk hBV
 have HRB := Azz.mk rb
 have c0 : V.cell? ⟨w.heap.size, 0, none⟩ = some (.string ⟨#[114]⟩) := (kCC rb 0).trans rfl
 have c1 : V.cell? ⟨w.heap.size, 1, none⟩ = some (.int .i64 1) := (kCC rb 1).trans rfl
 have c2 : V.cell? ⟨w.heap.size, 2, none⟩ = some (.bool false) := (kCC rb 2).trans rfl
 have c3 : V.cell? ⟨w.heap.size, 3, none⟩ = some (.int .i64 0) := (kCC rb 3).trans rfl
 have c4 : V.cell? ⟨w.heap.size, 4, none⟩ = some (.string ⟨#[192, 3, 95, 214]⟩) := (kCC rb 4).trans rfl
 have c5 : V.cell? ⟨w.heap.size, 5, none⟩ = some (.slice none 0 0) := (kCC rb 5).trans rfl
 clear hBV rb
 go_region_held3 (fun w' => w'.cell? ⟨w.heap.size, 0, none⟩ = some (.string ⟨#[114]⟩) ∧ w'.cell? ⟨w.heap.size, 1, none⟩ = some (.int .i64 1) ∧ w'.cell? ⟨w.heap.size, 2, none⟩ = some (.bool false) ∧ w'.cell? ⟨w.heap.size, 3, none⟩ = some (.int .i64 0) ∧ w'.cell? ⟨w.heap.size, 4, none⟩ = some (.string ⟨#[192, 3, 95, 214]⟩) ∧ w'.cell? ⟨w.heap.size, 5, none⟩ = some (.slice none 0 0)) (first | go_keep | exact keep6 (by assumption) hb) (first
  | (go_at_call 34; (with_reducible refine (caller_calls fa ⟨#[97]⟩ 2 rfl _).mono ?_); rintro e w2 ⟨Aa, ca, rfl, ha, hb⟩; have hbA := hb)
  | (go_at_call 34; (with_reducible refine (caller_calls fb ⟨#[98]⟩ 3 rfl _).mono ?_); rintro e w3 ⟨Ab, cb, rfl, hbb, hb⟩; have hbB := hb)
  | (go_at_call 13; (with_reducible refine (foldA _ _ _ Aa Ab ca cb ?g1 ?g2 ?g3 ?g4 ?g5).mono ?_); (case g1 => exact HG.out.below (by repeat (first | exact Below.refl _ _ | exact HBV.out | apply bAA | apply bDD | apply bNN | (refine bTT ?_ (by assumption))))); (case g2 => first | exact blk_new _ _ | exact kAA (blk_new _ _) _ | exact blk_new1 _ _ _); (case g3 => exact ha.below (by repeat (first | exact Below.refl _ _ | exact HBV.out | apply bAA | apply bDD | apply bNN | (refine bTT ?_ (by assumption))))); (case g4 => exact hbb.below (by repeat (first | exact Below.refl _ _ | exact HBV.out | apply bAA | apply bDD | apply bNN | (refine bTT ?_ (by assumption))))); (case g5 => first | exact blk_new _ _ | exact kAA (blk_new _ _) _ | exact blk_new1 _ _ _ | exact kAA (kBB (blk_new _ _) hbB) _ | exact kAA (kBB (blk_newd _ _) hbB) _ | exact kAA (kBB (kBB (blk_newd _ _) hbA) hbB) _ | exact kAA (kBB (kBB (blk_new _ _) hbA) hbB) _); rintro e w4 ⟨pb, rfl, hL, hb⟩))
 all_goals
  have HW := Azz.mk (show Below w.heap.size w w4 by repeat (first | exact Below.refl _ _ | exact HBV.out | apply bAA | apply bDD | apply bNN | (refine bTT ?_ (by assumption))))
  have HVW := Azz.mk (show Below V.heap.size V w4 by repeat (first | exact Below.refl _ _ | apply bAA | apply bDD | apply bNN | (refine bTT ?_ (by assumption))))
  have HL := Azz.mk hL
  clear hbA hbB ha hbb hL c0 c1 c2 c3 c4 c5
  clear hb
  go_wp2_with fail
  (with_reducible refine (caller_calls fc ⟨#[97]⟩ 1 rfl _).mono ?_)
  rintro e w5 ⟨Ac, cc, rfl, hc, hb⟩
  replace HW := Azz.mk (bTT HW.out hb)
  replace HVW := Azz.mk (bTT HVW.out hb)
  replace HL := Azz.mk (HL.out.below hb)
  have HC := Azz.mk hc
  clear hc hb
  go_wp2_with fail
  (with_reducible refine (caller_calls fd ⟨#[98]⟩ 0 rfl _).mono ?_)
  rintro e w6 ⟨Ad, cd, rfl, hd, hb⟩
  replace HW := Azz.mk (bTT HW.out hb)
  replace HVW := Azz.mk (bTT HVW.out hb)
  replace HL := Azz.mk (HL.out.below hb)
  replace HC := Azz.mk (HC.out.below hb)
  have HD := Azz.mk hd
  clear hd hb
  go_wp2_with fail
  (with_reducible refine (foldB _ _ _ Ac Ad cc cd ?g1 ?g2 ?g3 ?g4 ?g5).mono ?_)
  case g1 => exact HG.out.below (bAA (bAA HW.out _) _)
  case g2 => first | exact blk_new _ _ | exact kAA (blk_new _ _) _ | exact blk_new1 _ _ _
  case g3 => exact HC.out.below (bAA (bAA (Below.refl _ _) _) _)
  case g4 => exact HD.out.below (bAA (bAA (Below.refl _ _) _) _)
  case g5 => first | exact blk_new _ _ | exact kAA (blk_new _ _) _ | exact blk_new1 _ _ _
  rintro e w7 ⟨pc, rfl, hL2, hb⟩
  replace HL := Azz.mk (HL.out.below (bTT (bAA (bAA (Below.refl _ _) _) _) hb))
  replace HVW := Azz.mk (bTT (bAA (bAA HVW.out _) _) hb)
  replace HW := Azz.mk (bTT (bAA (bAA HW.out _) _) hb)
  have HL2 := Azz.mk hL2
  clear hL2 hb HC HD
  have rb7 := kBB HRB.out HVW.out
  have c0 : w7.cell? ⟨w.heap.size, 0, none⟩ = some (.string ⟨#[114]⟩) := (kCC rb7 0).trans rfl
  have c1 : w7.cell? ⟨w.heap.size, 1, none⟩ = some (.int .i64 1) := (kCC rb7 1).trans rfl
  have c2 : w7.cell? ⟨w.heap.size, 2, none⟩ = some (.bool false) := (kCC rb7 2).trans rfl
  have c3 : w7.cell? ⟨w.heap.size, 3, none⟩ = some (.int .i64 0) := (kCC rb7 3).trans rfl
  have c4 : w7.cell? ⟨w.heap.size, 4, none⟩ = some (.string ⟨#[192, 3, 95, 214]⟩) := (kCC rb7 4).trans rfl
  have c5 : w7.cell? ⟨w.heap.size, 5, none⟩ = some (.slice none 0 0) := (kCC rb7 5).trans rfl
  clear rb7
  go_wp2_with fail
  clear c0 c1 c2 c3 c4 c5
  (with_reducible refine (savedC _ _ _ ?g1 ?g2 ?g5).mono ?_)
  case g1 => exact HG.out.below (bAA (bAA HW.out _) _)
  case g2 => first | exact blk_new _ _ | exact kAA (blk_new _ _) _ | exact blk_new1 _ _ _
  case g5 => first | exact blk_new _ _ | exact kAA (blk_new _ _) _ | exact blk_new1 _ _ _
  rintro e w8 ⟨rfl, hb⟩
  replace HL := Azz.mk (HL.out.below (bTT (bAA (bAA (Below.refl _ _) _) _) hb))
  replace HL2 := Azz.mk (HL2.out.below (bTT (bAA (bAA (Below.refl _ _) _) _) hb))
  replace HVW := Azz.mk (bTT (bAA (bAA HVW.out _) _) hb)
  replace HW := Azz.mk (bTT (bAA (bAA HW.out _) _) hb)
  clear hb
  go_wp2_with fail
  (with_reducible refine (foldD _ _ ?g1 ?g5).mono ?_)
  case g1 => exact HG.out.below (bAA HW.out _)
  case g5 => exact blk_new _ _
  rintro e w9 ⟨rfl, hb⟩
  replace HL := Azz.mk (HL.out.below (bTT (bAA (Below.refl _ _) _) hb))
  replace HL2 := Azz.mk (HL2.out.below (bTT (bAA (Below.refl _ _) _) hb))
  replace HVW := Azz.mk (bTT (bAA HVW.out _) hb)
  replace HW := Azz.mk (bTT (bAA HW.out _) hb)
  clear hb
  go_wp2_with fail
  (with_reducible refine (same4 _ _ _ ?g2 ?g5).mono ?_)
  case g2 => exact HL.out.below (bAA (Below.refl _ _) _)
  case g5 => exact blk_new _ _
  rintro e w10 ⟨rfl, hb⟩
  replace HL2 := Azz.mk (HL2.out.below (bTT (bAA (Below.refl _ _) _) hb))
  replace HVW := Azz.mk (bTT (bAA HVW.out _) hb)
  replace HW := Azz.mk (bTT (bAA HW.out _) hb)
  clear hb HL
  go_wp2_with fail
  (with_reducible refine (same2 _ _ _ ?g2 ?g5).mono ?_)
  case g2 => exact HL2.out.below (bAA (Below.refl _ _) _)
  case g5 => exact blk_new _ _
  rintro e w11 ⟨rfl, hb⟩
  replace HVW := Azz.mk (bTT (bAA HVW.out _) hb)
  replace HW := Azz.mk (bTT (bAA HW.out _) hb)
  clear hb HL2
  have rb8 := kBB HRB.out HVW.out
  have c0 : w11.cell? ⟨w.heap.size, 0, none⟩ = some (.string ⟨#[114]⟩) := (kCC rb8 0).trans rfl
  have c1 : w11.cell? ⟨w.heap.size, 1, none⟩ = some (.int .i64 1) := (kCC rb8 1).trans rfl
  have c2 : w11.cell? ⟨w.heap.size, 2, none⟩ = some (.bool false) := (kCC rb8 2).trans rfl
  have c3 : w11.cell? ⟨w.heap.size, 3, none⟩ = some (.int .i64 0) := (kCC rb8 3).trans rfl
  have c4 : w11.cell? ⟨w.heap.size, 4, none⟩ = some (.string ⟨#[192, 3, 95, 214]⟩) := (kCC rb8 4).trans rfl
  have c5 : w11.cell? ⟨w.heap.size, 5, none⟩ = some (.slice none 0 0) := (kCC rb8 5).trans rfl
  clear rb8
  go_wp2_with fail
  clear c0 c1 c2 c3 c4 c5
  (with_reducible refine (alikeR _).mono ?_)
  rintro e w12 ⟨rfl, hb⟩
  replace HW := Azz.mk (bTT HW.out hb)
  clear hb HVW
  go_wp2
  go_ret
  exact ⟨rfl, HW.out⟩
end Go.Proofs.YtngmipfodjgmmaaDoor.Pure
