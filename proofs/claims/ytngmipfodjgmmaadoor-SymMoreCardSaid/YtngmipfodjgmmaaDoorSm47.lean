/- The walks and the plain laws of this claim, a part: what each function of the program computes. -/
import Derived.Test.YtngmipfodjgmmaaDoorSm23
import Derived.Test.YtngmipfodjgmmaaDoorSm32
import Derived.Test.YtngmipfodjgmmaaDoorSm46
namespace Go.Proofs.YtngmipfodjgmmaaDoor.P
open Go.RowKit Go.Proofs.YtngmipfodjgmmaaDoorW.PrintWords Go.Proofs.YtngmipfodjgmmaaDoorW.PrintLast Go.Proofs.YtngmipfodjgmmaaDoorW.PrintMore
attribute [local go_sem] max2_int min2_int max_two min_two max_three min_three max_four min_four   -- for this text's walks alone
set_option linter.unusedVariables false
set_option linter.unusedSimpArgs false
mutual
def part_Is.j0 : Nat → Bool → ByteArray → Int → Bool → Int → ByteArray → List (S85) → Option (Bool)
  | 0, _, _, _, _, _, _, _ => none
  | k + 1, x30, x195000, x195001, x195002, x195003, x195004, x195005 => if x30 = true then (some false) else (if (x195004.size : Int) > 4096 then (part_Is.j1 k true x195000 x195001 x195002 x195003 x195004 x195005) else (part_Is.j1 k (decide ((x195005.length : Int) > 64)) x195000 x195001 x195002 x195003 x195004 x195005))
def part_Is.j1 : Nat → Bool → ByteArray → Int → Bool → Int → ByteArray → List (S85) → Option (Bool)
  | 0, _, _, _, _, _, _, _ => none
  | k + 1, x40, x195000, x195001, x195002, x195003, x195004, x195005 => if x40 = true then (some false) else (part_Is.l0 k 0 x195005 (x195005.length : Int) 0 x195000 x195001 x195002 x195003 x195004 x195005)
def part_Is.l0 : Nat → Int → List (S85) → Int → Int → ByteArray → Int → Bool → Int → ByteArray → List (S85) → Option (Bool)
  | 0, _, _, _, _, _, _, _, _, _, _ => none
  | k + 1, x3, x42, x43, x44, x195000, x195001, x195002, x195003, x195004, x195005 => if x44 < x43 then (if 0 ≤ x44 then (if x44 < (x42.length : Int) then (if ((rd_T85 x42 x44).f1) = 1 then (part_Is.j3 k x3 8 x42 x43 x44 x195000 x195001 x195002 x195003 x195004 x195005 ((rd_T85 x42 x44).f0) ((rd_T85 x42 x44).f1) ((rd_T85 x42 x44).f2) ((rd_T85 x42 x44).f3)) else (part_Is.j3 k x3 4 x42 x43 x44 x195000 x195001 x195002 x195003 x195004 x195005 ((rd_T85 x42 x44).f0) ((rd_T85 x42 x44).f1) ((rd_T85 x42 x44).f2) ((rd_T85 x42 x44).f3))) else (none)) else (none)) else (some true)
def part_Is.j3 : Nat → Int → Int → List (S85) → Int → Int → ByteArray → Int → Bool → Int → ByteArray → List (S85) → Int → Int → Int → Int → Option (Bool)
  | 0, _, _, _, _, _, _, _, _, _, _, _, _, _, _, _ => none
  | k + 1, x3, x6, x42, x43, x44, x195000, x195001, x195002, x195003, x195004, x195005, x198000, x198001, x198002, x198003 => if x198000 < x3 then (part_Is.j4 k x6 x42 x43 x44 true x195000 x195001 x195002 x195003 x195004 x195005 x198000 x198001 x198002 x198003) else (if x198000 > (wrap64 ((x195004.size : Int) - x6)) then (part_Is.j4 k x6 x42 x43 x44 true x195000 x195001 x195002 x195003 x195004 x195005 x198000 x198001 x198002 x198003) else (part_Is.j4 k x6 x42 x43 x44 (decide (x198002 < 0)) x195000 x195001 x195002 x195003 x195004 x195005 x198000 x198001 x198002 x198003))
def part_Is.j4 : Nat → Int → List (S85) → Int → Int → Bool → ByteArray → Int → Bool → Int → ByteArray → List (S85) → Int → Int → Int → Int → Option (Bool)
  | 0, _, _, _, _, _, _, _, _, _, _, _, _, _, _, _ => none
  | k + 1, x6, x42, x43, x44, x69, x195000, x195001, x195002, x195003, x195004, x195005, x198000, x198001, x198002, x198003 => if x69 = true then (some false) else (if 0 ≤ x198000 then (if x198000 ≤ (wrap64 (x198000 + x6)) then (if (wrap64 (x198000 + x6)) ≤ (x195004.size : Int) then ((part_over.f k x195001 x198000 x198001 x198002 x198003 (x195004.extract (x198000 : Int).toNat ((wrap64 (x198000 + x6)) : Int).toNat)).bind fun t198 => (if t198 = true then (part_Is.l0 k (wrap64 (x198000 + x6)) x42 x43 (wrap64 (x44 + 1)) x195000 x195001 x195002 x195003 x195004 x195005) else (some false))) else (none)) else (none)) else (none))
end
def part_Is.f (k : Nat) (a0_0 : ByteArray) (a0_1 : Int) (a0_2 : Bool) (a0_3 : Int) (a0_4 : ByteArray) (l0_5 : List (S85)) : Option (Bool) := (local_IsName.f k a0_0).bind fun t195 => (if t195 = true then (if a0_1 < 1 then (part_Is.j0 k true a0_0 a0_1 a0_2 a0_3 a0_4 l0_5) else (if a0_1 > 3 then (part_Is.j0 k true a0_0 a0_1 a0_2 a0_3 a0_4 l0_5) else (if a0_3 < 0 then (part_Is.j0 k true a0_0 a0_1 a0_2 a0_3 a0_4 l0_5) else (part_Is.j0 k (decide (a0_3 > 12)) a0_0 a0_1 a0_2 a0_3 a0_4 l0_5)))) else (part_Is.j0 k true a0_0 a0_1 a0_2 a0_3 a0_4 l0_5))
theorem part_Is.mono_l : ∀ k, (∀ y0 y1 y2 y3 y4 y5 y6, LeO (part_Is.j0 k y0 y1 y2 y3 y4 y5 y6) (part_Is.j0 (k + 1) y0 y1 y2 y3 y4 y5 y6)) ∧ (∀ y0 y1 y2 y3 y4 y5 y6, LeO (part_Is.j1 k y0 y1 y2 y3 y4 y5 y6) (part_Is.j1 (k + 1) y0 y1 y2 y3 y4 y5 y6)) ∧ (∀ y0 y1 y2 y3 y4 y5 y6 y7 y8 y9, LeO (part_Is.l0 k y0 y1 y2 y3 y4 y5 y6 y7 y8 y9) (part_Is.l0 (k + 1) y0 y1 y2 y3 y4 y5 y6 y7 y8 y9)) ∧ (∀ y0 y1 y2 y3 y4 y5 y6 y7 y8 y9 y10 y11 y12 y13 y14, LeO (part_Is.j3 k y0 y1 y2 y3 y4 y5 y6 y7 y8 y9 y10 y11 y12 y13 y14) (part_Is.j3 (k + 1) y0 y1 y2 y3 y4 y5 y6 y7 y8 y9 y10 y11 y12 y13 y14)) ∧ (∀ y0 y1 y2 y3 y4 y5 y6 y7 y8 y9 y10 y11 y12 y13 y14, LeO (part_Is.j4 k y0 y1 y2 y3 y4 y5 y6 y7 y8 y9 y10 y11 y12 y13 y14) (part_Is.j4 (k + 1) y0 y1 y2 y3 y4 y5 y6 y7 y8 y9 y10 y11 y12 y13 y14))
  | 0 => ⟨fun _ _ _ _ _ _ _ r h => by simp [part_Is.j0] at h, fun _ _ _ _ _ _ _ r h => by simp [part_Is.j1] at h, fun _ _ _ _ _ _ _ _ _ _ r h => by simp [part_Is.l0] at h, fun _ _ _ _ _ _ _ _ _ _ _ _ _ _ _ r h => by simp [part_Is.j3] at h, fun _ _ _ _ _ _ _ _ _ _ _ _ _ _ _ r h => by simp [part_Is.j4] at h⟩
  | k + 1 => by
    obtain ⟨ih0, ih1, ih2, ih3, ih4⟩ := part_Is.mono_l k
    refine ⟨?_, ?_, ?_, ?_, ?_⟩
    · intro y0 y1 y2 y3 y4 y5 y6
      unfold part_Is.j0
      repeat' first
      | (with_reducible exact ih0 _ _ _ _ _ _ _)
      | (with_reducible exact ih1 _ _ _ _ _ _ _)
      | (with_reducible exact ih2 _ _ _ _ _ _ _ _ _ _)
      | (with_reducible exact ih3 _ _ _ _ _ _ _ _ _ _ _ _ _ _ _)
      | (with_reducible exact ih4 _ _ _ _ _ _ _ _ _ _ _ _ _ _ _)
      | (with_reducible exact local_IsName.mono _ _)
      | (with_reducible exact part_over.mono _ _ _ _ _ _ _)
      | (with_reducible exact LeO.refl _)
      | (with_reducible exact LeO.none _)
      | (with_reducible refine LeO.ite ?_ ?_)
      | (with_reducible refine LeO.bind ?_ (fun _ => ?_))
      | exact ih0 _ _ _ _ _ _ _
      | exact ih1 _ _ _ _ _ _ _
      | exact ih2 _ _ _ _ _ _ _ _ _ _
      | exact ih3 _ _ _ _ _ _ _ _ _ _ _ _ _ _ _
      | exact ih4 _ _ _ _ _ _ _ _ _ _ _ _ _ _ _
      | exact local_IsName.mono _ _
      | exact part_over.mono _ _ _ _ _ _ _
      | exact LeO.none _
      | refine LeO.ite ?_ ?_
      | refine LeO.bind ?_ (fun _ => ?_)
    · intro y0 y1 y2 y3 y4 y5 y6
      unfold part_Is.j1
      repeat' first
      | (with_reducible exact ih0 _ _ _ _ _ _ _)
      | (with_reducible exact ih1 _ _ _ _ _ _ _)
      | (with_reducible exact ih2 _ _ _ _ _ _ _ _ _ _)
      | (with_reducible exact ih3 _ _ _ _ _ _ _ _ _ _ _ _ _ _ _)
      | (with_reducible exact ih4 _ _ _ _ _ _ _ _ _ _ _ _ _ _ _)
      | (with_reducible exact local_IsName.mono _ _)
      | (with_reducible exact part_over.mono _ _ _ _ _ _ _)
      | (with_reducible exact LeO.refl _)
      | (with_reducible exact LeO.none _)
      | (with_reducible refine LeO.ite ?_ ?_)
      | (with_reducible refine LeO.bind ?_ (fun _ => ?_))
      | exact ih0 _ _ _ _ _ _ _
      | exact ih1 _ _ _ _ _ _ _
      | exact ih2 _ _ _ _ _ _ _ _ _ _
      | exact ih3 _ _ _ _ _ _ _ _ _ _ _ _ _ _ _
      | exact ih4 _ _ _ _ _ _ _ _ _ _ _ _ _ _ _
      | exact local_IsName.mono _ _
      | exact part_over.mono _ _ _ _ _ _ _
      | exact LeO.none _
      | refine LeO.ite ?_ ?_
      | refine LeO.bind ?_ (fun _ => ?_)
    · intro y0 y1 y2 y3 y4 y5 y6 y7 y8 y9
      unfold part_Is.l0
      repeat' first
      | (with_reducible exact ih0 _ _ _ _ _ _ _)
      | (with_reducible exact ih1 _ _ _ _ _ _ _)
      | (with_reducible exact ih2 _ _ _ _ _ _ _ _ _ _)
      | (with_reducible exact ih3 _ _ _ _ _ _ _ _ _ _ _ _ _ _ _)
      | (with_reducible exact ih4 _ _ _ _ _ _ _ _ _ _ _ _ _ _ _)
      | (with_reducible exact local_IsName.mono _ _)
      | (with_reducible exact part_over.mono _ _ _ _ _ _ _)
      | (with_reducible exact LeO.refl _)
      | (with_reducible exact LeO.none _)
      | (with_reducible refine LeO.ite ?_ ?_)
      | (with_reducible refine LeO.bind ?_ (fun _ => ?_))
      | exact ih0 _ _ _ _ _ _ _
      | exact ih1 _ _ _ _ _ _ _
      | exact ih2 _ _ _ _ _ _ _ _ _ _
      | exact ih3 _ _ _ _ _ _ _ _ _ _ _ _ _ _ _
      | exact ih4 _ _ _ _ _ _ _ _ _ _ _ _ _ _ _
      | exact local_IsName.mono _ _
      | exact part_over.mono _ _ _ _ _ _ _
      | exact LeO.none _
      | refine LeO.ite ?_ ?_
      | refine LeO.bind ?_ (fun _ => ?_)
    · intro y0 y1 y2 y3 y4 y5 y6 y7 y8 y9 y10 y11 y12 y13 y14
      unfold part_Is.j3
      repeat' first
      | (with_reducible exact ih0 _ _ _ _ _ _ _)
      | (with_reducible exact ih1 _ _ _ _ _ _ _)
      | (with_reducible exact ih2 _ _ _ _ _ _ _ _ _ _)
      | (with_reducible exact ih3 _ _ _ _ _ _ _ _ _ _ _ _ _ _ _)
      | (with_reducible exact ih4 _ _ _ _ _ _ _ _ _ _ _ _ _ _ _)
      | (with_reducible exact local_IsName.mono _ _)
      | (with_reducible exact part_over.mono _ _ _ _ _ _ _)
      | (with_reducible exact LeO.refl _)
      | (with_reducible exact LeO.none _)
      | (with_reducible refine LeO.ite ?_ ?_)
      | (with_reducible refine LeO.bind ?_ (fun _ => ?_))
      | exact ih0 _ _ _ _ _ _ _
      | exact ih1 _ _ _ _ _ _ _
      | exact ih2 _ _ _ _ _ _ _ _ _ _
      | exact ih3 _ _ _ _ _ _ _ _ _ _ _ _ _ _ _
      | exact ih4 _ _ _ _ _ _ _ _ _ _ _ _ _ _ _
      | exact local_IsName.mono _ _
      | exact part_over.mono _ _ _ _ _ _ _
      | exact LeO.none _
      | refine LeO.ite ?_ ?_
      | refine LeO.bind ?_ (fun _ => ?_)
    · intro y0 y1 y2 y3 y4 y5 y6 y7 y8 y9 y10 y11 y12 y13 y14
      unfold part_Is.j4
      repeat' first
      | (with_reducible exact ih0 _ _ _ _ _ _ _)
      | (with_reducible exact ih1 _ _ _ _ _ _ _)
      | (with_reducible exact ih2 _ _ _ _ _ _ _ _ _ _)
      | (with_reducible exact ih3 _ _ _ _ _ _ _ _ _ _ _ _ _ _ _)
      | (with_reducible exact ih4 _ _ _ _ _ _ _ _ _ _ _ _ _ _ _)
      | (with_reducible exact local_IsName.mono _ _)
      | (with_reducible exact part_over.mono _ _ _ _ _ _ _)
      | (with_reducible exact LeO.refl _)
      | (with_reducible exact LeO.none _)
      | (with_reducible refine LeO.ite ?_ ?_)
      | (with_reducible refine LeO.bind ?_ (fun _ => ?_))
      | exact ih0 _ _ _ _ _ _ _
      | exact ih1 _ _ _ _ _ _ _
      | exact ih2 _ _ _ _ _ _ _ _ _ _
      | exact ih3 _ _ _ _ _ _ _ _ _ _ _ _ _ _ _
      | exact ih4 _ _ _ _ _ _ _ _ _ _ _ _ _ _ _
      | exact local_IsName.mono _ _
      | exact part_over.mono _ _ _ _ _ _ _
      | exact LeO.none _
      | refine LeO.ite ?_ ?_
      | refine LeO.bind ?_ (fun _ => ?_)
theorem part_Is.mono : ∀ a0 a1 a2 a3 a4 a5 k, LeO (part_Is.f k a0 a1 a2 a3 a4 a5) (part_Is.f (k + 1) a0 a1 a2 a3 a4 a5) := by
  intro a0 a1 a2 a3 a4 a5 k
  obtain ⟨ih0, ih1, ih2, ih3, ih4⟩ := part_Is.mono_l k
  unfold part_Is.f
  repeat' first
      | (with_reducible exact ih0 _ _ _ _ _ _ _)
      | (with_reducible exact ih1 _ _ _ _ _ _ _)
      | (with_reducible exact ih2 _ _ _ _ _ _ _ _ _ _)
      | (with_reducible exact ih3 _ _ _ _ _ _ _ _ _ _ _ _ _ _ _)
      | (with_reducible exact ih4 _ _ _ _ _ _ _ _ _ _ _ _ _ _ _)
      | (with_reducible exact local_IsName.mono _ _)
      | (with_reducible exact part_over.mono _ _ _ _ _ _ _)
      | (with_reducible exact LeO.refl _)
      | (with_reducible exact LeO.none _)
      | (with_reducible refine LeO.ite ?_ ?_)
      | (with_reducible refine LeO.bind ?_ (fun _ => ?_))
      | exact ih0 _ _ _ _ _ _ _
      | exact ih1 _ _ _ _ _ _ _
      | exact ih2 _ _ _ _ _ _ _ _ _ _
      | exact ih3 _ _ _ _ _ _ _ _ _ _ _ _ _ _ _
      | exact ih4 _ _ _ _ _ _ _ _ _ _ _ _ _ _ _
      | exact local_IsName.mono _ _
      | exact part_over.mono _ _ _ _ _ _ _
      | exact LeO.none _
      | refine LeO.ite ?_ ?_
      | refine LeO.bind ?_ (fun _ => ?_)
def part_Is.T15 : Bool × List (List Nat × List Nat) := (true, [([], []), ([0], [0]), ([], []), ([], []), ([3], [3]), ([], []), ([5], [5]), ([], []), ([4, 6, 7], [4, 6, 7]), ([1, 2, 8], [1, 2, 8]), ([9], [9])])
def part_Is.B15 : List Nat := [0, 1, 0, 0, 8, 0, 32, 0, 248, 511, 1023]
theorem part_Is.tab15 : rtab .any (opsOf Tryd.f37 15) = part_Is.T15 := by kernel_rfl
theorem part_Is.bits15 : waitsOk part_Is.T15.2 part_Is.B15 = true := by kernel_rfl
set_option maxHeartbeats 8000000 in
set_option maxRecDepth 100000 in
theorem part_Is.calls (k : Nat) (a0_0 : ByteArray) (a0_1 : Int) (a0_2 : Bool) (a0_3 : Int) (a0_4 : ByteArray) (A0_5 : Option Addr) (c0_5 : Nat) (l0_5 : List (S85)) (r : Bool) (w : World) (hG : Glob w) (hr0_5 : Kd.C k85 w A0_5 l0_5.length l0_5) (hc0_5 : l0_5.length ≤ c0_5) (h : part_Is.f k a0_0 a0_1 a0_2 a0_3 a0_4 l0_5 = some r) :
    Calls Tryd.prog 37 #[.agg #[.string a0_0, .int .i64 a0_1, .bool a0_2, .int .i64 a0_3, .string a0_4, .slice A0_5 l0_5.length c0_5]] w fun e w' => e = .returned (.bool r) ∧ Below w.heap.size w w' := by
  have hu71 := Tryd.underlying71
  have hu85 := Tryd.underlying85
  have HR0_5 := Aside0.mk hr0_5
  have HC0_5 := Aside0.mk hc0_5
  clear hr0_5 hc0_5
  have HB := Aside0.mk (Below.refl w.heap.size w)
  have H : ((local_IsName.f k a0_0).bind fun t195 => (if t195 = true then (if a0_1 < 1 then (part_Is.j0 k true a0_0 a0_1 a0_2 a0_3 a0_4 l0_5) else (if a0_1 > 3 then (part_Is.j0 k true a0_0 a0_1 a0_2 a0_3 a0_4 l0_5) else (if a0_3 < 0 then (part_Is.j0 k true a0_0 a0_1 a0_2 a0_3 a0_4 l0_5) else (part_Is.j0 k (decide (a0_3 > 12)) a0_0 a0_1 a0_2 a0_3 a0_4 l0_5)))) else (part_Is.j0 k true a0_0 a0_1 a0_2 a0_3 a0_4 l0_5))) = some r := h
  clear h
  have HC2 := Aside0.mk H
  clear H
  go_enter Tryd.func37, Tryd.ntmps37
  go_upto_region 1 with (first | ((with_reducible refine gate_dst (N := 1) rfl ?_); (try (refine gate_guard (by rfl) ?_; dsimp only)); refine box_event ?hg (N := 1) ?hd (cs := #[.string a0_0, .int .i64 a0_1, .bool a0_2, .int .i64 a0_3, .string a0_4, .slice A0_5 l0_5.length c0_5]) (t := 71) ?hr ?_; (case hd => rfl); (case hg => rfl); (case hr => first | (go_simp; done) | (go_simp; rfl)); intro gb194 hg w3 hbox hb; have n0_ := Aside0.mk (below_step (by repeat (first | (with_reducible first | exact HB.out | apply below_alloc | apply pw_below_drewN | apply below_drew1) | exact HB.out)) hb); have n1_ := Aside0.mk (hbox); have n2_ := Aside0.mk ((by rw [hg]; exact (below_size (by repeat (first | (with_reducible first | exact HB.out | apply below_alloc | apply pw_below_drewN | apply below_drew1) | exact HB.out))) : w.heap.size ≤ gb194)); have n3_ := Aside0.mk ((by rw [hg]; exact (below_size (by repeat (first | (with_reducible first | exact HB.out | apply below_alloc | apply pw_below_drewN | apply below_drew1) | exact HB.out))) : w.heap.size ≤ gb194)); clear HB; have HB := n0_; have BK194 := n1_; have GW194 := n2_; have GE194 := n3_; clear n0_ n1_ n2_ n3_; clear hb hbox hg))
  (try simp only [Act.put, List.setIfInBounds_toArray, List.set_cons_zero, List.set_cons_succ])
  go_cut [30] (fun v30 wc => ∃ (kq : Nat) (x30_1 : Bool), v30 = .bool x30_1 ∧ Aside0 (part_Is.j0 kq x30_1 a0_0 a0_1 a0_2 a0_3 a0_4 l0_5 = some r) ∧ Aside0 (kq ≤ k) ∧ Aside0 (wc.heap[gb194]? = some (.cells #[.string a0_0, .int .i64 a0_1, .bool a0_2, .int .i64 a0_3, .string a0_4, (.slice A0_5 l0_5.length c0_5)] 71 (0, 0))) ∧ Aside0 (Below w.heap.size w wc))
  case first =>
    have H := HC2.out
    clear HC2
    replace H := Option.bind_eq_some_iff.mp H
    obtain ⟨t195, A40, H⟩ := H
    replace H : (if t195 = true then (if a0_1 < 1 then (part_Is.j0 k true a0_0 a0_1 a0_2 a0_3 a0_4 l0_5) else (if a0_1 > 3 then (part_Is.j0 k true a0_0 a0_1 a0_2 a0_3 a0_4 l0_5) else (if a0_3 < 0 then (part_Is.j0 k true a0_0 a0_1 a0_2 a0_3 a0_4 l0_5) else (part_Is.j0 k (decide (a0_3 > 12)) a0_0 a0_1 a0_2 a0_3 a0_4 l0_5)))) else (part_Is.j0 k true a0_0 a0_1 a0_2 a0_3 a0_4 l0_5)) = some r := H
    have A4 := Aside0.mk A40
    clear A40
    by_cases c5 : t195 = true
    · subst c5
      have H1 : (if a0_1 < 1 then (part_Is.j0 k true a0_0 a0_1 a0_2 a0_3 a0_4 l0_5) else (if a0_1 > 3 then (part_Is.j0 k true a0_0 a0_1 a0_2 a0_3 a0_4 l0_5) else (if a0_3 < 0 then (part_Is.j0 k true a0_0 a0_1 a0_2 a0_3 a0_4 l0_5) else (part_Is.j0 k (decide (a0_3 > 12)) a0_0 a0_1 a0_2 a0_3 a0_4 l0_5)))) = some r := by rw [if_pos rfl] at H; exact H
      clear H
      have H := H1
      clear H1
      by_cases c6 : a0_1 < 1
      · rw [if_pos c6] at H
        have c6b0 : decide (a0_1 < 1) = true := decide_eq_true c6
        clear c6
        (first | rw [c6b0] | (simp only [i64_w, i32_w]; rw [c6b0]) | skip)
        have H' := Aside0.mk H
        clear H
        have hcz7_0 : w3.cell? ⟨gb194, 0, none⟩ = some (.string a0_0) := (blk_cell BK194.out 0).trans rfl
        have hcz7_1 : w3.cell? ⟨gb194, 1, none⟩ = some (.int .i64 a0_1) := (blk_cell BK194.out 1).trans rfl
        have hcz7_2 : w3.cell? ⟨gb194, 2, none⟩ = some (.bool a0_2) := (blk_cell BK194.out 2).trans rfl
        have hcz7_3 : w3.cell? ⟨gb194, 3, none⟩ = some (.int .i64 a0_3) := (blk_cell BK194.out 3).trans rfl
        have hcz7_4 : w3.cell? ⟨gb194, 4, none⟩ = some (.string a0_4) := (blk_cell BK194.out 4).trans rfl
        have hcz7_5 : w3.cell? ⟨gb194, 5, none⟩ = some (.slice A0_5 l0_5.length c0_5) := (blk_cell BK194.out 5).trans rfl
        have hfz7_0 := blk_frozen BK194.out 0
        have hfz7_1 := blk_frozen BK194.out 1
        have hfz7_2 := blk_frozen BK194.out 2
        have hfz7_3 := blk_frozen BK194.out 3
        have hfz7_4 := blk_frozen BK194.out 4
        have hfz7_5 := blk_frozen BK194.out 5
        go_wp2_with (first | ((with_reducible refine gate_callee (f := 46) rfl ?_); refine goesL_ (some 9) rfl rfl Tryd.func46 (by kernel_rfl) rfl #[.string a0_0] rfl (by (try simp only [List.map_toArray, List.map_cons, List.map_nil]); first | done | rfl | (simp only [List.length_drop, List.length_take]; rfl)) ?_; (with_reducible refine (local_IsName.calls k a0_0 true _ A4.out).mono ?_); rintro e w8 ⟨rfl, hb⟩; refine ⟨_, rfl, ?_⟩; have n0_ := Aside0.mk (blk_below (g := gb194) (o := .cells #[.string a0_0, .int .i64 a0_1, .bool a0_2, .int .i64 a0_3, .string a0_4, .slice A0_5 l0_5.length c0_5] 71 (0, 0)) (by (with_reducible repeat (first | refine blk_drewN ?_ _ | refine blk_drew ?_ | refine blk_alloc ?_ _)); exact BK194.out) hb); have n1_ := Aside0.mk (below_step (by repeat (first | (with_reducible first | exact HB.out | apply below_alloc | apply pw_below_drewN | apply below_drew1 | refine below_set ?_ GE194.out) | exact HB.out)) hb); clear BK194; clear HB; have BK194 := n0_; have HB := n1_; clear n0_ n1_; (try clear hb); (try clear hb2); (try clear hk); (try clear hi); have hcz9_0 : w8.cell? ⟨gb194, 0, none⟩ = some (.string a0_0) := (blk_cell BK194.out 0).trans rfl; have hcz9_1 : w8.cell? ⟨gb194, 1, none⟩ = some (.int .i64 a0_1) := (blk_cell BK194.out 1).trans rfl; have hcz9_2 : w8.cell? ⟨gb194, 2, none⟩ = some (.bool a0_2) := (blk_cell BK194.out 2).trans rfl; have hcz9_3 : w8.cell? ⟨gb194, 3, none⟩ = some (.int .i64 a0_3) := (blk_cell BK194.out 3).trans rfl; have hcz9_4 : w8.cell? ⟨gb194, 4, none⟩ = some (.string a0_4) := (blk_cell BK194.out 4).trans rfl; have hcz9_5 : w8.cell? ⟨gb194, 5, none⟩ = some (.slice A0_5 l0_5.length c0_5) := (blk_cell BK194.out 5).trans rfl; have hfz9_0 := blk_frozen BK194.out 0; have hfz9_1 := blk_frozen BK194.out 1; have hfz9_2 := blk_frozen BK194.out 2; have hfz9_3 := blk_frozen BK194.out 3; have hfz9_4 := blk_frozen BK194.out 4; have hfz9_5 := blk_frozen BK194.out 5))
        go_meet
        case rel => exact ⟨_, (true), (by first | rfl | (simp; done) | (simp [*]; done)), H', ⟨by first | omega | exact Nat.le_refl _⟩, ⟨by (with_reducible repeat (first | refine blk_drewN ?_ _ | refine blk_drew ?_ | refine blk_alloc ?_ _)); exact BK194.out⟩, ⟨by repeat (first | (with_reducible first | exact HB.out | apply below_alloc | apply pw_below_drewN | apply below_drew1 | refine below_set ?_ GE194.out) | exact HB.out)⟩⟩
      · rw [if_neg c6] at H
        have c6b0 : decide (a0_1 < 1) = false := decide_eq_false c6
        clear c6
        (first | rw [c6b0] | (simp only [i64_w, i32_w]; rw [c6b0]) | skip)
        by_cases c10 : a0_1 > 3
        · rw [if_pos c10] at H
          have c10b0 : decide (3 < a0_1) = true := decide_eq_true c10
          clear c10
          have H' := Aside0.mk H
          clear H
          have hcz11_0 : w3.cell? ⟨gb194, 0, none⟩ = some (.string a0_0) := (blk_cell BK194.out 0).trans rfl
          have hcz11_1 : w3.cell? ⟨gb194, 1, none⟩ = some (.int .i64 a0_1) := (blk_cell BK194.out 1).trans rfl
          have hcz11_2 : w3.cell? ⟨gb194, 2, none⟩ = some (.bool a0_2) := (blk_cell BK194.out 2).trans rfl
          have hcz11_3 : w3.cell? ⟨gb194, 3, none⟩ = some (.int .i64 a0_3) := (blk_cell BK194.out 3).trans rfl
          have hcz11_4 : w3.cell? ⟨gb194, 4, none⟩ = some (.string a0_4) := (blk_cell BK194.out 4).trans rfl
          have hcz11_5 : w3.cell? ⟨gb194, 5, none⟩ = some (.slice A0_5 l0_5.length c0_5) := (blk_cell BK194.out 5).trans rfl
          have hfz11_0 := blk_frozen BK194.out 0
          have hfz11_1 := blk_frozen BK194.out 1
          have hfz11_2 := blk_frozen BK194.out 2
          have hfz11_3 := blk_frozen BK194.out 3
          have hfz11_4 := blk_frozen BK194.out 4
          have hfz11_5 := blk_frozen BK194.out 5
          go_wp2_with (first | ((with_reducible refine gate_callee (f := 46) rfl ?_); refine goesL_ (some 9) rfl rfl Tryd.func46 (by kernel_rfl) rfl #[.string a0_0] rfl (by (try simp only [List.map_toArray, List.map_cons, List.map_nil]); first | done | rfl | (simp only [List.length_drop, List.length_take]; rfl)) ?_; (with_reducible refine (local_IsName.calls k a0_0 true _ A4.out).mono ?_); rintro e w12 ⟨rfl, hb⟩; refine ⟨_, rfl, ?_⟩; have n0_ := Aside0.mk (blk_below (g := gb194) (o := .cells #[.string a0_0, .int .i64 a0_1, .bool a0_2, .int .i64 a0_3, .string a0_4, .slice A0_5 l0_5.length c0_5] 71 (0, 0)) (by (with_reducible repeat (first | refine blk_drewN ?_ _ | refine blk_drew ?_ | refine blk_alloc ?_ _)); exact BK194.out) hb); have n1_ := Aside0.mk (below_step (by repeat (first | (with_reducible first | exact HB.out | apply below_alloc | apply pw_below_drewN | apply below_drew1 | refine below_set ?_ GE194.out) | exact HB.out)) hb); clear BK194; clear HB; have BK194 := n0_; have HB := n1_; clear n0_ n1_; (try clear hb); (try clear hb2); (try clear hk); (try clear hi); have hcz13_0 : w12.cell? ⟨gb194, 0, none⟩ = some (.string a0_0) := (blk_cell BK194.out 0).trans rfl; have hcz13_1 : w12.cell? ⟨gb194, 1, none⟩ = some (.int .i64 a0_1) := (blk_cell BK194.out 1).trans rfl; have hcz13_2 : w12.cell? ⟨gb194, 2, none⟩ = some (.bool a0_2) := (blk_cell BK194.out 2).trans rfl; have hcz13_3 : w12.cell? ⟨gb194, 3, none⟩ = some (.int .i64 a0_3) := (blk_cell BK194.out 3).trans rfl; have hcz13_4 : w12.cell? ⟨gb194, 4, none⟩ = some (.string a0_4) := (blk_cell BK194.out 4).trans rfl; have hcz13_5 : w12.cell? ⟨gb194, 5, none⟩ = some (.slice A0_5 l0_5.length c0_5) := (blk_cell BK194.out 5).trans rfl; have hfz13_0 := blk_frozen BK194.out 0; have hfz13_1 := blk_frozen BK194.out 1; have hfz13_2 := blk_frozen BK194.out 2; have hfz13_3 := blk_frozen BK194.out 3; have hfz13_4 := blk_frozen BK194.out 4; have hfz13_5 := blk_frozen BK194.out 5))
          go_meet
          case rel => exact ⟨_, (true), (by first | rfl | (simp; done) | (simp [*]; done)), H', ⟨by first | omega | exact Nat.le_refl _⟩, ⟨by (with_reducible repeat (first | refine blk_drewN ?_ _ | refine blk_drew ?_ | refine blk_alloc ?_ _)); exact BK194.out⟩, ⟨by repeat (first | (with_reducible first | exact HB.out | apply below_alloc | apply pw_below_drewN | apply below_drew1 | refine below_set ?_ GE194.out) | exact HB.out)⟩⟩
        · rw [if_neg c10] at H
          have c10b0 : decide (3 < a0_1) = false := decide_eq_false c10
          clear c10
          by_cases c14 : a0_3 < 0
          · rw [if_pos c14] at H
            have c14b0 : decide (a0_3 < 0) = true := decide_eq_true c14
            clear c14
            have H' := Aside0.mk H
            clear H
            have hcz15_0 : w3.cell? ⟨gb194, 0, none⟩ = some (.string a0_0) := (blk_cell BK194.out 0).trans rfl
            have hcz15_1 : w3.cell? ⟨gb194, 1, none⟩ = some (.int .i64 a0_1) := (blk_cell BK194.out 1).trans rfl
            have hcz15_2 : w3.cell? ⟨gb194, 2, none⟩ = some (.bool a0_2) := (blk_cell BK194.out 2).trans rfl
            have hcz15_3 : w3.cell? ⟨gb194, 3, none⟩ = some (.int .i64 a0_3) := (blk_cell BK194.out 3).trans rfl
            have hcz15_4 : w3.cell? ⟨gb194, 4, none⟩ = some (.string a0_4) := (blk_cell BK194.out 4).trans rfl
            have hcz15_5 : w3.cell? ⟨gb194, 5, none⟩ = some (.slice A0_5 l0_5.length c0_5) := (blk_cell BK194.out 5).trans rfl
            have hfz15_0 := blk_frozen BK194.out 0
            have hfz15_1 := blk_frozen BK194.out 1
            have hfz15_2 := blk_frozen BK194.out 2
            have hfz15_3 := blk_frozen BK194.out 3
            have hfz15_4 := blk_frozen BK194.out 4
            have hfz15_5 := blk_frozen BK194.out 5
            go_wp2_with (first | ((with_reducible refine gate_callee (f := 46) rfl ?_); refine goesL_ (some 9) rfl rfl Tryd.func46 (by kernel_rfl) rfl #[.string a0_0] rfl (by (try simp only [List.map_toArray, List.map_cons, List.map_nil]); first | done | rfl | (simp only [List.length_drop, List.length_take]; rfl)) ?_; (with_reducible refine (local_IsName.calls k a0_0 true _ A4.out).mono ?_); rintro e w16 ⟨rfl, hb⟩; refine ⟨_, rfl, ?_⟩; have n0_ := Aside0.mk (blk_below (g := gb194) (o := .cells #[.string a0_0, .int .i64 a0_1, .bool a0_2, .int .i64 a0_3, .string a0_4, .slice A0_5 l0_5.length c0_5] 71 (0, 0)) (by (with_reducible repeat (first | refine blk_drewN ?_ _ | refine blk_drew ?_ | refine blk_alloc ?_ _)); exact BK194.out) hb); have n1_ := Aside0.mk (below_step (by repeat (first | (with_reducible first | exact HB.out | apply below_alloc | apply pw_below_drewN | apply below_drew1 | refine below_set ?_ GE194.out) | exact HB.out)) hb); clear BK194; clear HB; have BK194 := n0_; have HB := n1_; clear n0_ n1_; (try clear hb); (try clear hb2); (try clear hk); (try clear hi); have hcz17_0 : w16.cell? ⟨gb194, 0, none⟩ = some (.string a0_0) := (blk_cell BK194.out 0).trans rfl; have hcz17_1 : w16.cell? ⟨gb194, 1, none⟩ = some (.int .i64 a0_1) := (blk_cell BK194.out 1).trans rfl; have hcz17_2 : w16.cell? ⟨gb194, 2, none⟩ = some (.bool a0_2) := (blk_cell BK194.out 2).trans rfl; have hcz17_3 : w16.cell? ⟨gb194, 3, none⟩ = some (.int .i64 a0_3) := (blk_cell BK194.out 3).trans rfl; have hcz17_4 : w16.cell? ⟨gb194, 4, none⟩ = some (.string a0_4) := (blk_cell BK194.out 4).trans rfl; have hcz17_5 : w16.cell? ⟨gb194, 5, none⟩ = some (.slice A0_5 l0_5.length c0_5) := (blk_cell BK194.out 5).trans rfl; have hfz17_0 := blk_frozen BK194.out 0; have hfz17_1 := blk_frozen BK194.out 1; have hfz17_2 := blk_frozen BK194.out 2; have hfz17_3 := blk_frozen BK194.out 3; have hfz17_4 := blk_frozen BK194.out 4; have hfz17_5 := blk_frozen BK194.out 5))
            go_meet
            case rel => exact ⟨_, (true), (by first | rfl | (simp; done) | (simp [*]; done)), H', ⟨by first | omega | exact Nat.le_refl _⟩, ⟨by (with_reducible repeat (first | refine blk_drewN ?_ _ | refine blk_drew ?_ | refine blk_alloc ?_ _)); exact BK194.out⟩, ⟨by repeat (first | (with_reducible first | exact HB.out | apply below_alloc | apply pw_below_drewN | apply below_drew1 | refine below_set ?_ GE194.out) | exact HB.out)⟩⟩
          · rw [if_neg c14] at H
            have c14b0 : decide (a0_3 < 0) = false := decide_eq_false c14
            clear c14
            have H' := Aside0.mk H
            clear H
            have hcz18_0 : w3.cell? ⟨gb194, 0, none⟩ = some (.string a0_0) := (blk_cell BK194.out 0).trans rfl
            have hcz18_1 : w3.cell? ⟨gb194, 1, none⟩ = some (.int .i64 a0_1) := (blk_cell BK194.out 1).trans rfl
            have hcz18_2 : w3.cell? ⟨gb194, 2, none⟩ = some (.bool a0_2) := (blk_cell BK194.out 2).trans rfl
            have hcz18_3 : w3.cell? ⟨gb194, 3, none⟩ = some (.int .i64 a0_3) := (blk_cell BK194.out 3).trans rfl
            have hcz18_4 : w3.cell? ⟨gb194, 4, none⟩ = some (.string a0_4) := (blk_cell BK194.out 4).trans rfl
            have hcz18_5 : w3.cell? ⟨gb194, 5, none⟩ = some (.slice A0_5 l0_5.length c0_5) := (blk_cell BK194.out 5).trans rfl
            have hfz18_0 := blk_frozen BK194.out 0
            have hfz18_1 := blk_frozen BK194.out 1
            have hfz18_2 := blk_frozen BK194.out 2
            have hfz18_3 := blk_frozen BK194.out 3
            have hfz18_4 := blk_frozen BK194.out 4
            have hfz18_5 := blk_frozen BK194.out 5
            go_wp2_with (first | ((with_reducible refine gate_callee (f := 46) rfl ?_); refine goesL_ (some 9) rfl rfl Tryd.func46 (by kernel_rfl) rfl #[.string a0_0] rfl (by (try simp only [List.map_toArray, List.map_cons, List.map_nil]); first | done | rfl | (simp only [List.length_drop, List.length_take]; rfl)) ?_; (with_reducible refine (local_IsName.calls k a0_0 true _ A4.out).mono ?_); rintro e w19 ⟨rfl, hb⟩; refine ⟨_, rfl, ?_⟩; have n0_ := Aside0.mk (blk_below (g := gb194) (o := .cells #[.string a0_0, .int .i64 a0_1, .bool a0_2, .int .i64 a0_3, .string a0_4, .slice A0_5 l0_5.length c0_5] 71 (0, 0)) (by (with_reducible repeat (first | refine blk_drewN ?_ _ | refine blk_drew ?_ | refine blk_alloc ?_ _)); exact BK194.out) hb); have n1_ := Aside0.mk (below_step (by repeat (first | (with_reducible first | exact HB.out | apply below_alloc | apply pw_below_drewN | apply below_drew1 | refine below_set ?_ GE194.out) | exact HB.out)) hb); clear BK194; clear HB; have BK194 := n0_; have HB := n1_; clear n0_ n1_; (try clear hb); (try clear hb2); (try clear hk); (try clear hi); have hcz20_0 : w19.cell? ⟨gb194, 0, none⟩ = some (.string a0_0) := (blk_cell BK194.out 0).trans rfl; have hcz20_1 : w19.cell? ⟨gb194, 1, none⟩ = some (.int .i64 a0_1) := (blk_cell BK194.out 1).trans rfl; have hcz20_2 : w19.cell? ⟨gb194, 2, none⟩ = some (.bool a0_2) := (blk_cell BK194.out 2).trans rfl; have hcz20_3 : w19.cell? ⟨gb194, 3, none⟩ = some (.int .i64 a0_3) := (blk_cell BK194.out 3).trans rfl; have hcz20_4 : w19.cell? ⟨gb194, 4, none⟩ = some (.string a0_4) := (blk_cell BK194.out 4).trans rfl; have hcz20_5 : w19.cell? ⟨gb194, 5, none⟩ = some (.slice A0_5 l0_5.length c0_5) := (blk_cell BK194.out 5).trans rfl; have hfz20_0 := blk_frozen BK194.out 0; have hfz20_1 := blk_frozen BK194.out 1; have hfz20_2 := blk_frozen BK194.out 2; have hfz20_3 := blk_frozen BK194.out 3; have hfz20_4 := blk_frozen BK194.out 4; have hfz20_5 := blk_frozen BK194.out 5))
            go_meet
            case rel => exact ⟨_, (decide (a0_3 > 12)), (by first | rfl | (simp; done) | (simp [*]; done)), H', ⟨by first | omega | exact Nat.le_refl _⟩, ⟨by (with_reducible repeat (first | refine blk_drewN ?_ _ | refine blk_drew ?_ | refine blk_alloc ?_ _)); exact BK194.out⟩, ⟨by repeat (first | (with_reducible first | exact HB.out | apply below_alloc | apply pw_below_drewN | apply below_drew1 | refine below_set ?_ GE194.out) | exact HB.out)⟩⟩
    · replace c5 := Bool.eq_false_iff.mpr c5
      subst c5
      have H1 : (part_Is.j0 k true a0_0 a0_1 a0_2 a0_3 a0_4 l0_5) = some r := by rw [if_neg (show ¬ (false = true) by decide)] at H; exact H
      clear H
      have H := H1
      clear H1
      have H' := Aside0.mk H
      clear H
      have hcz21_0 : w3.cell? ⟨gb194, 0, none⟩ = some (.string a0_0) := (blk_cell BK194.out 0).trans rfl
      have hcz21_1 : w3.cell? ⟨gb194, 1, none⟩ = some (.int .i64 a0_1) := (blk_cell BK194.out 1).trans rfl
      have hcz21_2 : w3.cell? ⟨gb194, 2, none⟩ = some (.bool a0_2) := (blk_cell BK194.out 2).trans rfl
      have hcz21_3 : w3.cell? ⟨gb194, 3, none⟩ = some (.int .i64 a0_3) := (blk_cell BK194.out 3).trans rfl
      have hcz21_4 : w3.cell? ⟨gb194, 4, none⟩ = some (.string a0_4) := (blk_cell BK194.out 4).trans rfl
      have hcz21_5 : w3.cell? ⟨gb194, 5, none⟩ = some (.slice A0_5 l0_5.length c0_5) := (blk_cell BK194.out 5).trans rfl
      have hfz21_0 := blk_frozen BK194.out 0
      have hfz21_1 := blk_frozen BK194.out 1
      have hfz21_2 := blk_frozen BK194.out 2
      have hfz21_3 := blk_frozen BK194.out 3
      have hfz21_4 := blk_frozen BK194.out 4
      have hfz21_5 := blk_frozen BK194.out 5
      go_wp2_with (first | ((with_reducible refine gate_callee (f := 46) rfl ?_); refine goesL_ (some 9) rfl rfl Tryd.func46 (by kernel_rfl) rfl #[.string a0_0] rfl (by (try simp only [List.map_toArray, List.map_cons, List.map_nil]); first | done | rfl | (simp only [List.length_drop, List.length_take]; rfl)) ?_; (with_reducible refine (local_IsName.calls k a0_0 false _ A4.out).mono ?_); rintro e w22 ⟨rfl, hb⟩; refine ⟨_, rfl, ?_⟩; have n0_ := Aside0.mk (blk_below (g := gb194) (o := .cells #[.string a0_0, .int .i64 a0_1, .bool a0_2, .int .i64 a0_3, .string a0_4, .slice A0_5 l0_5.length c0_5] 71 (0, 0)) (by (with_reducible repeat (first | refine blk_drewN ?_ _ | refine blk_drew ?_ | refine blk_alloc ?_ _)); exact BK194.out) hb); have n1_ := Aside0.mk (below_step (by repeat (first | (with_reducible first | exact HB.out | apply below_alloc | apply pw_below_drewN | apply below_drew1 | refine below_set ?_ GE194.out) | exact HB.out)) hb); clear BK194; clear HB; have BK194 := n0_; have HB := n1_; clear n0_ n1_; (try clear hb); (try clear hb2); (try clear hk); (try clear hi)))
      go_meet
      case rel => exact ⟨_, (true), (by first | rfl | (simp; done) | (simp [*]; done)), H', ⟨by first | omega | exact Nat.le_refl _⟩, ⟨by (with_reducible repeat (first | refine blk_drewN ?_ _ | refine blk_drew ?_ | refine blk_alloc ?_ _)); exact BK194.out⟩, ⟨by repeat (first | (with_reducible first | exact HB.out | apply below_alloc | apply pw_below_drewN | apply below_drew1 | refine below_set ?_ GE194.out) | exact HB.out)⟩⟩
  case rest =>
    clear HC2
    try clear c1
    try clear p2
    try clear c3
    try clear c4
    try clear c5
    try clear c6
    try clear c6b0
    try clear c10
    try clear c10b0
    try clear c14
    try clear c14b0
    try clear hcz11_0
    try clear hcz11_1
    try clear hcz11_2
    try clear hcz11_3
    try clear hcz11_4
    try clear hcz11_5
    try clear hcz13_0
    try clear hcz13_1
    try clear hcz13_2
    try clear hcz13_3
    try clear hcz13_4
    try clear hcz13_5
    try clear hcz15_0
    try clear hcz15_1
    try clear hcz15_2
    try clear hcz15_3
    try clear hcz15_4
    try clear hcz15_5
    try clear hcz17_0
    try clear hcz17_1
    try clear hcz17_2
    try clear hcz17_3
    try clear hcz17_4
    try clear hcz17_5
    try clear hcz18_0
    try clear hcz18_1
    try clear hcz18_2
    try clear hcz18_3
    try clear hcz18_4
    try clear hcz18_5
    try clear hcz20_0
    try clear hcz20_1
    try clear hcz20_2
    try clear hcz20_3
    try clear hcz20_4
    try clear hcz20_5
    try clear hcz21_0
    try clear hcz21_1
    try clear hcz21_2
    try clear hcz21_3
    try clear hcz21_4
    try clear hcz21_5
    try clear hcz7_0
    try clear hcz7_1
    try clear hcz7_2
    try clear hcz7_3
    try clear hcz7_4
    try clear hcz7_5
    try clear hcz9_0
    try clear hcz9_1
    try clear hcz9_2
    try clear hcz9_3
    try clear hcz9_4
    try clear hcz9_5
    try clear hfz11_0
    try clear hfz11_1
    try clear hfz11_2
    try clear hfz11_3
    try clear hfz11_4
    try clear hfz11_5
    try clear hfz13_0
    try clear hfz13_1
    try clear hfz13_2
    try clear hfz13_3
    try clear hfz13_4
    try clear hfz13_5
    try clear hfz15_0
    try clear hfz15_1
    try clear hfz15_2
    try clear hfz15_3
    try clear hfz15_4
    try clear hfz15_5
    try clear hfz17_0
    try clear hfz17_1
    try clear hfz17_2
    try clear hfz17_3
    try clear hfz17_4
    try clear hfz17_5
    try clear hfz18_0
    try clear hfz18_1
    try clear hfz18_2
    try clear hfz18_3
    try clear hfz18_4
    try clear hfz18_5
    try clear hfz20_0
    try clear hfz20_1
    try clear hfz20_2
    try clear hfz20_3
    try clear hfz20_4
    try clear hfz20_5
    try clear hfz21_0
    try clear hfz21_1
    try clear hfz21_2
    try clear hfz21_3
    try clear hfz21_4
    try clear hfz21_5
    try clear hfz7_0
    try clear hfz7_1
    try clear hfz7_2
    try clear hfz7_3
    try clear hfz7_4
    try clear hfz7_5
    try clear hfz9_0
    try clear hfz9_1
    try clear hfz9_2
    try clear hfz9_3
    try clear hfz9_4
    try clear hfz9_5
    obtain ⟨kq, x30_1, rfl, HA, HJ1, BK194, HB⟩ := hcut
    cases kq with
    | zero => exact absurd HA.out (by simp [part_Is.j0])
    | succ kj1 =>
      have H := HA.out
      clear HA
      simp only [part_Is.j0] at H
      by_cases c23 : x30_1 = true
      · subst c23
        have H1 : (some false) = some r := by rw [if_pos rfl] at H; exact H
        clear H
        have H := H1
        clear H1
        obtain rfl := Option.some.inj H
        go_wp2
        go_ret
        exact ⟨by first | rfl | (simp [errW_none, errW_some] <;> rfl) | (simp [*, errW_none, errW_some] <;> rfl), by repeat (first | (with_reducible first | exact HB.out | apply below_alloc | apply pw_below_drewN | apply below_drew1 | refine below_set ?_ GE194.out) | exact HB.out)⟩
      · replace c23 := Bool.eq_false_iff.mpr c23
        subst c23
        have H1 : (if (a0_4.size : Int) > 4096 then (part_Is.j1 kj1 true a0_0 a0_1 a0_2 a0_3 a0_4 l0_5) else (part_Is.j1 kj1 (decide ((l0_5.length : Int) > 64)) a0_0 a0_1 a0_2 a0_3 a0_4 l0_5)) = some r := by rw [if_neg (show ¬ (false = true) by decide)] at H; exact H
        clear H
        have H := H1
        clear H1
        have HC24 := Aside0.mk H
        clear H
        go_upto_region 3 with (fail)
        go_cut [40] (fun v40 wc => ∃ (kq : Nat) (x40_23 : Bool), v40 = .bool x40_23 ∧ Aside0 (part_Is.j1 kq x40_23 a0_0 a0_1 a0_2 a0_3 a0_4 l0_5 = some r) ∧ Aside0 (kq ≤ kj1) ∧ Aside0 (wc.heap[gb194]? = some (.cells #[.string a0_0, .int .i64 a0_1, .bool a0_2, .int .i64 a0_3, .string a0_4, (.slice A0_5 l0_5.length c0_5)] 71 (0, 0))) ∧ Aside0 (Below w.heap.size w wc))
        case first =>
          have H := HC24.out
          clear HC24
          by_cases c25 : (a0_4.size : Int) > 4096
          · rw [if_pos c25] at H
            have c25b0 : decide (4096 < (a0_4.size : Int)) = true := decide_eq_true c25
            have c25b1 : decide (4096 < a0_4.size) = true := decide_eq_true (by omega)
            clear c25
            (first | rw [c25b0] | (simp only [i64_w, i32_w]; rw [c25b0]) | skip)
            have H' := Aside0.mk H
            clear H
            have hcz26_0 : wc.cell? ⟨gb194, 0, none⟩ = some (.string a0_0) := (blk_cell BK194.out 0).trans rfl
            have hcz26_1 : wc.cell? ⟨gb194, 1, none⟩ = some (.int .i64 a0_1) := (blk_cell BK194.out 1).trans rfl
            have hcz26_2 : wc.cell? ⟨gb194, 2, none⟩ = some (.bool a0_2) := (blk_cell BK194.out 2).trans rfl
            have hcz26_3 : wc.cell? ⟨gb194, 3, none⟩ = some (.int .i64 a0_3) := (blk_cell BK194.out 3).trans rfl
            have hcz26_4 : wc.cell? ⟨gb194, 4, none⟩ = some (.string a0_4) := (blk_cell BK194.out 4).trans rfl
            have hcz26_5 : wc.cell? ⟨gb194, 5, none⟩ = some (.slice A0_5 l0_5.length c0_5) := (blk_cell BK194.out 5).trans rfl
            have hfz26_0 := blk_frozen BK194.out 0
            have hfz26_1 := blk_frozen BK194.out 1
            have hfz26_2 := blk_frozen BK194.out 2
            have hfz26_3 := blk_frozen BK194.out 3
            have hfz26_4 := blk_frozen BK194.out 4
            have hfz26_5 := blk_frozen BK194.out 5
            go_wp2
            go_meet
            case rel => exact ⟨_, (true), (by first | rfl | (simp; done) | (simp [*]; done)), H', ⟨by have := HJ1.out; first | omega | exact Nat.le_refl _⟩, ⟨by (with_reducible repeat (first | refine blk_drewN ?_ _ | refine blk_drew ?_ | refine blk_alloc ?_ _)); exact BK194.out⟩, ⟨by repeat (first | (with_reducible first | exact HB.out | apply below_alloc | apply pw_below_drewN | apply below_drew1 | refine below_set ?_ GE194.out) | exact HB.out)⟩⟩
          · rw [if_neg c25] at H
            have c25b0 : decide (4096 < (a0_4.size : Int)) = false := decide_eq_false c25
            have c25b1 : decide (4096 < a0_4.size) = false := decide_eq_false (by omega)
            clear c25
            (first | rw [c25b0] | (simp only [i64_w, i32_w]; rw [c25b0]) | skip)
            have H' := Aside0.mk H
            clear H
            have hcz27_0 : wc.cell? ⟨gb194, 0, none⟩ = some (.string a0_0) := (blk_cell BK194.out 0).trans rfl
            have hcz27_1 : wc.cell? ⟨gb194, 1, none⟩ = some (.int .i64 a0_1) := (blk_cell BK194.out 1).trans rfl
            have hcz27_2 : wc.cell? ⟨gb194, 2, none⟩ = some (.bool a0_2) := (blk_cell BK194.out 2).trans rfl
            have hcz27_3 : wc.cell? ⟨gb194, 3, none⟩ = some (.int .i64 a0_3) := (blk_cell BK194.out 3).trans rfl
            have hcz27_4 : wc.cell? ⟨gb194, 4, none⟩ = some (.string a0_4) := (blk_cell BK194.out 4).trans rfl
            have hcz27_5 : wc.cell? ⟨gb194, 5, none⟩ = some (.slice A0_5 l0_5.length c0_5) := (blk_cell BK194.out 5).trans rfl
            have hfz27_0 := blk_frozen BK194.out 0
            have hfz27_1 := blk_frozen BK194.out 1
            have hfz27_2 := blk_frozen BK194.out 2
            have hfz27_3 := blk_frozen BK194.out 3
            have hfz27_4 := blk_frozen BK194.out 4
            have hfz27_5 := blk_frozen BK194.out 5
            go_wp2
            go_meet
            case rel => exact ⟨_, (decide ((l0_5.length : Int) > 64)), (by first | rfl | (simp; done) | (simp [*]; done)), H', ⟨by have := HJ1.out; first | omega | exact Nat.le_refl _⟩, ⟨by (with_reducible repeat (first | refine blk_drewN ?_ _ | refine blk_drew ?_ | refine blk_alloc ?_ _)); exact BK194.out⟩, ⟨by repeat (first | (with_reducible first | exact HB.out | apply below_alloc | apply pw_below_drewN | apply below_drew1 | refine below_set ?_ GE194.out) | exact HB.out)⟩⟩
        case rest =>
          clear HC24
          try clear c1
          try clear c2
          try clear p2
          try clear c3
          try clear c4
          try clear c5
          try clear c6
          try clear c6b0
          try clear c10
          try clear c10b0
          try clear c14
          try clear c14b0
          try clear c23
          try clear c25
          try clear c25b0
          try clear c25b1
          try clear hcz11_0
          try clear hcz11_1
          try clear hcz11_2
          try clear hcz11_3
          try clear hcz11_4
          try clear hcz11_5
          try clear hcz13_0
          try clear hcz13_1
          try clear hcz13_2
          try clear hcz13_3
          try clear hcz13_4
          try clear hcz13_5
          try clear hcz15_0
          try clear hcz15_1
          try clear hcz15_2
          try clear hcz15_3
          try clear hcz15_4
          try clear hcz15_5
          try clear hcz17_0
          try clear hcz17_1
          try clear hcz17_2
          try clear hcz17_3
          try clear hcz17_4
          try clear hcz17_5
          try clear hcz18_0
          try clear hcz18_1
          try clear hcz18_2
          try clear hcz18_3
          try clear hcz18_4
          try clear hcz18_5
          try clear hcz20_0
          try clear hcz20_1
          try clear hcz20_2
          try clear hcz20_3
          try clear hcz20_4
          try clear hcz20_5
          try clear hcz21_0
          try clear hcz21_1
          try clear hcz21_2
          try clear hcz21_3
          try clear hcz21_4
          try clear hcz21_5
          try clear hcz26_0
          try clear hcz26_1
          try clear hcz26_2
          try clear hcz26_3
          try clear hcz26_4
          try clear hcz26_5
          try clear hcz27_0
          try clear hcz27_1
          try clear hcz27_2
          try clear hcz27_3
          try clear hcz27_4
          try clear hcz27_5
          try clear hcz7_0
          try clear hcz7_1
          try clear hcz7_2
          try clear hcz7_3
          try clear hcz7_4
          try clear hcz7_5
          try clear hcz9_0
          try clear hcz9_1
          try clear hcz9_2
          try clear hcz9_3
          try clear hcz9_4
          try clear hcz9_5
          try clear hfz11_0
          try clear hfz11_1
          try clear hfz11_2
          try clear hfz11_3
          try clear hfz11_4
          try clear hfz11_5
          try clear hfz13_0
          try clear hfz13_1
          try clear hfz13_2
          try clear hfz13_3
          try clear hfz13_4
          try clear hfz13_5
          try clear hfz15_0
          try clear hfz15_1
          try clear hfz15_2
          try clear hfz15_3
          try clear hfz15_4
          try clear hfz15_5
          try clear hfz17_0
          try clear hfz17_1
          try clear hfz17_2
          try clear hfz17_3
          try clear hfz17_4
          try clear hfz17_5
          try clear hfz18_0
          try clear hfz18_1
          try clear hfz18_2
          try clear hfz18_3
          try clear hfz18_4
          try clear hfz18_5
          try clear hfz20_0
          try clear hfz20_1
          try clear hfz20_2
          try clear hfz20_3
          try clear hfz20_4
          try clear hfz20_5
          try clear hfz21_0
          try clear hfz21_1
          try clear hfz21_2
          try clear hfz21_3
          try clear hfz21_4
          try clear hfz21_5
          try clear hfz26_0
          try clear hfz26_1
          try clear hfz26_2
          try clear hfz26_3
          try clear hfz26_4
          try clear hfz26_5
          try clear hfz27_0
          try clear hfz27_1
          try clear hfz27_2
          try clear hfz27_3
          try clear hfz27_4
          try clear hfz27_5
          try clear hfz7_0
          try clear hfz7_1
          try clear hfz7_2
          try clear hfz7_3
          try clear hfz7_4
          try clear hfz7_5
          try clear hfz9_0
          try clear hfz9_1
          try clear hfz9_2
          try clear hfz9_3
          try clear hfz9_4
          try clear hfz9_5
          try clear p2
          obtain ⟨kq, x40_23, rfl, HA, HJ23, BK194, HB⟩ := hcut
          cases kq with
          | zero => exact absurd HA.out (by simp [part_Is.j1])
          | succ kj23 =>
            have H := HA.out
            clear HA
            simp only [part_Is.j1] at H
            by_cases c28 : x40_23 = true
            · subst c28
              have H1 : (some false) = some r := by rw [if_pos rfl] at H; exact H
              clear H
              have H := H1
              clear H1
              obtain rfl := Option.some.inj H
              go_wp2
              go_ret
              exact ⟨by first | rfl | (simp [errW_none, errW_some] <;> rfl) | (simp [*, errW_none, errW_some] <;> rfl), by repeat (first | (with_reducible first | exact HB.out | apply below_alloc | apply pw_below_drewN | apply below_drew1 | refine below_set ?_ GE194.out) | exact HB.out)⟩
            · replace c28 := Bool.eq_false_iff.mpr c28
              subst c28
              have H1 : (part_Is.l0 kj23 0 l0_5 (l0_5.length : Int) 0 a0_0 a0_1 a0_2 a0_3 a0_4 l0_5) = some r := by rw [if_neg (show ¬ (false = true) by decide)] at H; exact H
              clear H
              have H := H1
              clear H1
              have H' := Aside0.mk H
              clear H
              have hcz29_0 : wc.cell? ⟨gb194, 0, none⟩ = some (.string a0_0) := (blk_cell BK194.out 0).trans rfl
              have hcz29_1 : wc.cell? ⟨gb194, 1, none⟩ = some (.int .i64 a0_1) := (blk_cell BK194.out 1).trans rfl
              have hcz29_2 : wc.cell? ⟨gb194, 2, none⟩ = some (.bool a0_2) := (blk_cell BK194.out 2).trans rfl
              have hcz29_3 : wc.cell? ⟨gb194, 3, none⟩ = some (.int .i64 a0_3) := (blk_cell BK194.out 3).trans rfl
              have hcz29_4 : wc.cell? ⟨gb194, 4, none⟩ = some (.string a0_4) := (blk_cell BK194.out 4).trans rfl
              have hcz29_5 : wc.cell? ⟨gb194, 5, none⟩ = some (.slice A0_5 l0_5.length c0_5) := (blk_cell BK194.out 5).trans rfl
              have hfz29_0 := blk_frozen BK194.out 0
              have hfz29_1 := blk_frozen BK194.out 1
              have hfz29_2 := blk_frozen BK194.out 2
              have hfz29_3 := blk_frozen BK194.out 3
              have hfz29_4 := blk_frozen BK194.out 4
              have hfz29_5 := blk_frozen BK194.out 5
              go_wp2
              go_loopg [3, 44] kj23 (fun kq v3 v44 w' => ∃ (x3_3 : Int) (x44_3 : Int), v3 = .int .i64 x3_3 ∧ v44 = .int .i64 x44_3 ∧ Aside0 (part_Is.l0 kq x3_3 l0_5 (l0_5.length : Int) x44_3 a0_0 a0_1 a0_2 a0_3 a0_4 l0_5 = some r) ∧ Aside0 (kq ≤ kj23) ∧ Aside0 (w'.heap[gb194]? = some (.cells #[.string a0_0, .int .i64 a0_1, .bool a0_2, .int .i64 a0_3, .string a0_4, (.slice A0_5 l0_5.length c0_5)] 71 (0, 0))) ∧ Aside0 (Below w.heap.size w w'))
              case atStart => exact ⟨(0), (0), (by first | rfl | (simp; done) | (simp [*]; done)), (by first | rfl | (simp; done) | (simp [*]; done)), H', ⟨Nat.le_refl _⟩, ⟨by (with_reducible repeat (first | refine blk_drewN ?_ _ | refine blk_drew ?_ | refine blk_alloc ?_ _)); exact BK194.out⟩, ⟨by repeat (first | (with_reducible first | exact HB.out | apply below_alloc | apply pw_below_drewN | apply below_drew1 | refine below_set ?_ GE194.out) | exact HB.out)⟩⟩
              case round =>
                clear H'
                try clear c1
                try clear c2
                try clear p2
                try clear c3
                try clear c4
                try clear c5
                try clear c6
                try clear c6b0
                try clear c10
                try clear c10b0
                try clear c14
                try clear c14b0
                try clear c23
                try clear c25
                try clear c25b0
                try clear c25b1
                try clear c28
                try clear hcz11_0
                try clear hcz11_1
                try clear hcz11_2
                try clear hcz11_3
                try clear hcz11_4
                try clear hcz11_5
                try clear hcz13_0
                try clear hcz13_1
                try clear hcz13_2
                try clear hcz13_3
                try clear hcz13_4
                try clear hcz13_5
                try clear hcz15_0
                try clear hcz15_1
                try clear hcz15_2
                try clear hcz15_3
                try clear hcz15_4
                try clear hcz15_5
                try clear hcz17_0
                try clear hcz17_1
                try clear hcz17_2
                try clear hcz17_3
                try clear hcz17_4
                try clear hcz17_5
                try clear hcz18_0
                try clear hcz18_1
                try clear hcz18_2
                try clear hcz18_3
                try clear hcz18_4
                try clear hcz18_5
                try clear hcz20_0
                try clear hcz20_1
                try clear hcz20_2
                try clear hcz20_3
                try clear hcz20_4
                try clear hcz20_5
                try clear hcz21_0
                try clear hcz21_1
                try clear hcz21_2
                try clear hcz21_3
                try clear hcz21_4
                try clear hcz21_5
                try clear hcz26_0
                try clear hcz26_1
                try clear hcz26_2
                try clear hcz26_3
                try clear hcz26_4
                try clear hcz26_5
                try clear hcz27_0
                try clear hcz27_1
                try clear hcz27_2
                try clear hcz27_3
                try clear hcz27_4
                try clear hcz27_5
                try clear hcz29_0
                try clear hcz29_1
                try clear hcz29_2
                try clear hcz29_3
                try clear hcz29_4
                try clear hcz29_5
                try clear hcz7_0
                try clear hcz7_1
                try clear hcz7_2
                try clear hcz7_3
                try clear hcz7_4
                try clear hcz7_5
                try clear hcz9_0
                try clear hcz9_1
                try clear hcz9_2
                try clear hcz9_3
                try clear hcz9_4
                try clear hcz9_5
                try clear hfz11_0
                try clear hfz11_1
                try clear hfz11_2
                try clear hfz11_3
                try clear hfz11_4
                try clear hfz11_5
                try clear hfz13_0
                try clear hfz13_1
                try clear hfz13_2
                try clear hfz13_3
                try clear hfz13_4
                try clear hfz13_5
                try clear hfz15_0
                try clear hfz15_1
                try clear hfz15_2
                try clear hfz15_3
                try clear hfz15_4
                try clear hfz15_5
                try clear hfz17_0
                try clear hfz17_1
                try clear hfz17_2
                try clear hfz17_3
                try clear hfz17_4
                try clear hfz17_5
                try clear hfz18_0
                try clear hfz18_1
                try clear hfz18_2
                try clear hfz18_3
                try clear hfz18_4
                try clear hfz18_5
                try clear hfz20_0
                try clear hfz20_1
                try clear hfz20_2
                try clear hfz20_3
                try clear hfz20_4
                try clear hfz20_5
                try clear hfz21_0
                try clear hfz21_1
                try clear hfz21_2
                try clear hfz21_3
                try clear hfz21_4
                try clear hfz21_5
                try clear hfz26_0
                try clear hfz26_1
                try clear hfz26_2
                try clear hfz26_3
                try clear hfz26_4
                try clear hfz26_5
                try clear hfz27_0
                try clear hfz27_1
                try clear hfz27_2
                try clear hfz27_3
                try clear hfz27_4
                try clear hfz27_5
                try clear hfz29_0
                try clear hfz29_1
                try clear hfz29_2
                try clear hfz29_3
                try clear hfz29_4
                try clear hfz29_5
                try clear hfz7_0
                try clear hfz7_1
                try clear hfz7_2
                try clear hfz7_3
                try clear hfz7_4
                try clear hfz7_5
                try clear hfz9_0
                try clear hfz9_1
                try clear hfz9_2
                try clear hfz9_3
                try clear hfz9_4
                try clear hfz9_5
                try clear p2
                obtain ⟨x3_3, x44_3, rfl, rfl, HA, HK3, BK194, HB⟩ := hrel
                cases gk with
                | zero => exact absurd HA.out (by simp [part_Is.l0])
                | succ k3 =>
                  have H := HA.out
                  clear HA
                  simp only [part_Is.l0] at H
                  by_cases c30 : x44_3 < (l0_5.length : Int)
                  · rw [if_pos c30] at H
                    have c30b0 : decide (x44_3 < (l0_5.length : Int)) = true := decide_eq_true c30
                    clear c30
                    by_cases c31 : 0 ≤ x44_3
                    · rw [if_pos c31] at H
                      have c31b0 : decide (0 ≤ x44_3) = true := decide_eq_true c31
                      clear c31
                      by_cases c32 : x44_3 < (l0_5.length : Int)
                      · rw [if_pos c32] at H
                        have c32b0 : decide (x44_3 < (l0_5.length : Int)) = true := decide_eq_true c32
                        clear c32
                        have HC33 := Aside0.mk H
                        clear H
                        have p196 : 0 ≤ (x44_3 : Int) := of_decide_eq_true (by first | (with_reducible assumption) | assumption)
                        have q196 : x44_3 < (l0_5.length : Int) := of_decide_eq_true (by first | (with_reducible assumption) | assumption)
                        obtain ⟨ad196, e196, hx196_0, hx196_1, hx196_2, hx196_3⟩ := at_T85 HR0_5.out x44_3 p196 q196
                        cases e196
                        replace hx196_0 := (HB.out.cell (World.block_lt_of_cell? w _ hx196_0)).trans hx196_0
                        replace hx196_1 := (HB.out.cell (World.block_lt_of_cell? w _ hx196_1)).trans hx196_1
                        replace hx196_2 := (HB.out.cell (World.block_lt_of_cell? w _ hx196_2)).trans hx196_2
                        replace hx196_3 := (HB.out.cell (World.block_lt_of_cell? w _ hx196_3)).trans hx196_3
                        replace p196 := eq_true p196
                        replace q196 := eq_true q196
                        go_upto_if 50 with (first | ((with_reducible refine gate_dst (N := 5) rfl ?_); (try (refine gate_guard (by rfl) ?_; dsimp only)); refine box_event ?hg (N := 5) ?hd (cs := #[.int .i64 0, .int .i64 0, .int .i64 0, .int .i64 0]) (t := 85) ?hr ?_; (case hd => rfl); (case hg => rfl); (case hr => first | (go_simp; done) | (go_simp; rfl)); intro gb197 hg w34 hbox hb; have n0_ := Aside0.mk (blk_below (g := gb194) (o := .cells #[.string a0_0, .int .i64 a0_1, .bool a0_2, .int .i64 a0_3, .string a0_4, .slice (some ad196) l0_5.length c0_5] 71 (0, 0)) (by (with_reducible repeat (first | refine blk_drewN ?_ _ | refine blk_drew ?_ | refine blk_alloc ?_ _)); exact BK194.out) hb); have n1_ := Aside0.mk (below_step (by repeat (first | (with_reducible first | exact HB.out | apply below_alloc | apply pw_below_drewN | apply below_drew1 | refine below_set ?_ GE194.out) | exact HB.out)) hb); have n2_ := Aside0.mk (hbox); have n3_ := Aside0.mk ((by rw [hg]; exact (below_size (by repeat (first | (with_reducible first | exact HB.out | apply below_alloc | apply pw_below_drewN | apply below_drew1 | refine below_set ?_ GE194.out) | exact HB.out))) : w.heap.size ≤ gb197)); have n4_ := Aside0.mk ((by rw [hg]; exact (below_size (by repeat (first | (with_reducible first | exact HB.out | apply below_alloc | apply pw_below_drewN | apply below_drew1 | refine below_set ?_ GE194.out) | exact HB.out))) : w.heap.size ≤ gb197)); have n5_ := Aside0.mk ((by rw [hg]; exact Nat.ne_of_lt (blk_lt (g := gb194) (o := .cells #[.string a0_0, .int .i64 a0_1, .bool a0_2, .int .i64 a0_3, .string a0_4, .slice (some ad196) l0_5.length c0_5] 71 (0, 0)) (by (with_reducible repeat (first | refine blk_drewN ?_ _ | refine blk_drew ?_ | refine blk_alloc ?_ _)); exact BK194.out)) : gb194 ≠ gb197)); have n6_ := Aside0.mk ((by rw [hg]; exact Nat.ne_of_gt (blk_lt (g := gb194) (o := .cells #[.string a0_0, .int .i64 a0_1, .bool a0_2, .int .i64 a0_3, .string a0_4, .slice (some ad196) l0_5.length c0_5] 71 (0, 0)) (by (with_reducible repeat (first | refine blk_drewN ?_ _ | refine blk_drew ?_ | refine blk_alloc ?_ _)); exact BK194.out)) : gb197 ≠ gb194)); clear BK194; clear HB; have BK194 := n0_; have HB := n1_; have BK197 := n2_; have GW197 := n3_; have GE197 := n4_; have NB194_197 := n5_; have NB197_194 := n6_; clear n0_ n1_ n2_ n3_ n4_ n5_ n6_; clear hb hbox hg; have hnb35 := NB197_194.out; have hnc35 := NB194_197.out; have hcz36_0 : w34.cell? ⟨gb197, 0, none⟩ = some (.int .i64 0) := (blk_cell BK197.out 0).trans rfl; have hcz36_1 : w34.cell? ⟨gb197, 1, none⟩ = some (.int .i64 0) := (blk_cell BK197.out 1).trans rfl; have hcz36_2 : w34.cell? ⟨gb197, 2, none⟩ = some (.int .i64 0) := (blk_cell BK197.out 2).trans rfl; have hcz36_3 : w34.cell? ⟨gb197, 3, none⟩ = some (.int .i64 0) := (blk_cell BK197.out 3).trans rfl; have hfz36_0 := blk_frozen BK197.out 0; have hfz36_1 := blk_frozen BK197.out 1; have hfz36_2 := blk_frozen BK197.out 2; have hfz36_3 := blk_frozen BK197.out 3))
                        (try simp only [Act.put, List.setIfInBounds_toArray, List.set_cons_zero, List.set_cons_succ])
                        go_cut [6] (fun v6 wc => ∃ (kq : Nat) (x6_32 : Int), v6 = .int .i64 x6_32 ∧ Aside0 (part_Is.j3 kq x3_3 x6_32 l0_5 (l0_5.length : Int) x44_3 a0_0 a0_1 a0_2 a0_3 a0_4 l0_5 ((rd_T85 l0_5 x44_3).f0) ((rd_T85 l0_5 x44_3).f1) ((rd_T85 l0_5 x44_3).f2) ((rd_T85 l0_5 x44_3).f3) = some r) ∧ Aside0 (kq ≤ k3) ∧ Aside0 (wc.heap[gb194]? = some (.cells #[.string a0_0, .int .i64 a0_1, .bool a0_2, .int .i64 a0_3, .string a0_4, (.slice (some ad196) l0_5.length c0_5)] 71 (0, 0))) ∧ Aside0 (wc.heap[gb197]? = some (.cells #[.int .i64 ((rd_T85 l0_5 x44_3).f0), .int .i64 ((rd_T85 l0_5 x44_3).f1), .int .i64 ((rd_T85 l0_5 x44_3).f2), .int .i64 ((rd_T85 l0_5 x44_3).f3)] 85 (0, 0))) ∧ Aside0 (Below w.heap.size w wc))
                        case first =>
                          have H := HC33.out
                          clear HC33
                          by_cases c37 : ((rd_T85 l0_5 x44_3).f1) = 1
                          · rw [if_pos c37] at H
                            have c37b0 : (((rd_T85 l0_5 x44_3).f1) == 1) = true := beq_iff_eq.mpr c37
                            have c37b1 : (((rd_T85 l0_5 x44_3).f1) != 1) = false := bne_eq_false_iff_eq.mpr c37
                            clear c37
                            (first | rw [c37b0] | (simp only [i64_w, i32_w]; rw [c37b0]) | skip)
                            have H' := Aside0.mk H
                            clear H
                            go_wp2
                            go_meet
                            case rel => exact ⟨_, (8), (by first | rfl | (simp; done) | (simp [*]; done)), H', ⟨by have := HJ1.out; have := HJ23.out; have := HK3.out; first | omega | exact Nat.le_refl _⟩, ⟨by (with_reducible repeat (first | refine blk_drewN ?_ _ | refine blk_drew ?_ | refine blk_alloc ?_ _)); refine blk_far ?_ NB194_197.out _; (with_reducible repeat (first | refine blk_drewN ?_ _ | refine blk_drew ?_ | refine blk_alloc ?_ _)); refine blk_far ?_ NB194_197.out _; (with_reducible repeat (first | refine blk_drewN ?_ _ | refine blk_drew ?_ | refine blk_alloc ?_ _)); refine blk_far ?_ NB194_197.out _; (with_reducible repeat (first | refine blk_drewN ?_ _ | refine blk_drew ?_ | refine blk_alloc ?_ _)); refine blk_far ?_ NB194_197.out _; (with_reducible repeat (first | refine blk_drewN ?_ _ | refine blk_drew ?_ | refine blk_alloc ?_ _)); exact BK194.out⟩, ⟨by (with_reducible repeat (first | refine blk_drewN ?_ _ | refine blk_drew ?_ | refine blk_alloc ?_ _)); refine blk_put (cs := #[.int .i64 ((rd_T85 l0_5 x44_3).f0), .int .i64 ((rd_T85 l0_5 x44_3).f1), .int .i64 ((rd_T85 l0_5 x44_3).f2), .int .i64 0]) ?_ 3 _ rfl; (with_reducible repeat (first | refine blk_drewN ?_ _ | refine blk_drew ?_ | refine blk_alloc ?_ _)); refine blk_put (cs := #[.int .i64 ((rd_T85 l0_5 x44_3).f0), .int .i64 ((rd_T85 l0_5 x44_3).f1), .int .i64 0, .int .i64 0]) ?_ 2 _ rfl; (with_reducible repeat (first | refine blk_drewN ?_ _ | refine blk_drew ?_ | refine blk_alloc ?_ _)); refine blk_put (cs := #[.int .i64 ((rd_T85 l0_5 x44_3).f0), .int .i64 0, .int .i64 0, .int .i64 0]) ?_ 1 _ rfl; (with_reducible repeat (first | refine blk_drewN ?_ _ | refine blk_drew ?_ | refine blk_alloc ?_ _)); refine blk_put (cs := #[.int .i64 0, .int .i64 0, .int .i64 0, .int .i64 0]) ?_ 0 _ rfl; (with_reducible repeat (first | refine blk_drewN ?_ _ | refine blk_drew ?_ | refine blk_alloc ?_ _)); exact BK197.out⟩, ⟨by repeat (first | (with_reducible first | exact HB.out | apply below_alloc | apply pw_below_drewN | apply below_drew1 | refine below_set ?_ GE194.out | refine below_set ?_ GE197.out) | exact HB.out)⟩⟩
                          · rw [if_neg c37] at H
                            have c37b0 : (((rd_T85 l0_5 x44_3).f1) == 1) = false := beq_eq_false_iff_ne.mpr c37
                            have c37b1 : (((rd_T85 l0_5 x44_3).f1) != 1) = true := bne_iff_ne.mpr c37
                            (first | rw [c37b0] | (simp only [i64_w, i32_w]; rw [c37b0]) | skip)
                            have H' := Aside0.mk H
                            clear H
                            go_wp2
                            go_meet
                            case rel => exact ⟨_, (4), (by first | rfl | (simp; done) | (simp [*]; done)), H', ⟨by have := HJ1.out; have := HJ23.out; have := HK3.out; first | omega | exact Nat.le_refl _⟩, ⟨by (with_reducible repeat (first | refine blk_drewN ?_ _ | refine blk_drew ?_ | refine blk_alloc ?_ _)); refine blk_far ?_ NB194_197.out _; (with_reducible repeat (first | refine blk_drewN ?_ _ | refine blk_drew ?_ | refine blk_alloc ?_ _)); refine blk_far ?_ NB194_197.out _; (with_reducible repeat (first | refine blk_drewN ?_ _ | refine blk_drew ?_ | refine blk_alloc ?_ _)); refine blk_far ?_ NB194_197.out _; (with_reducible repeat (first | refine blk_drewN ?_ _ | refine blk_drew ?_ | refine blk_alloc ?_ _)); refine blk_far ?_ NB194_197.out _; (with_reducible repeat (first | refine blk_drewN ?_ _ | refine blk_drew ?_ | refine blk_alloc ?_ _)); exact BK194.out⟩, ⟨by (with_reducible repeat (first | refine blk_drewN ?_ _ | refine blk_drew ?_ | refine blk_alloc ?_ _)); refine blk_put (cs := #[.int .i64 ((rd_T85 l0_5 x44_3).f0), .int .i64 ((rd_T85 l0_5 x44_3).f1), .int .i64 ((rd_T85 l0_5 x44_3).f2), .int .i64 0]) ?_ 3 _ rfl; (with_reducible repeat (first | refine blk_drewN ?_ _ | refine blk_drew ?_ | refine blk_alloc ?_ _)); refine blk_put (cs := #[.int .i64 ((rd_T85 l0_5 x44_3).f0), .int .i64 ((rd_T85 l0_5 x44_3).f1), .int .i64 0, .int .i64 0]) ?_ 2 _ rfl; (with_reducible repeat (first | refine blk_drewN ?_ _ | refine blk_drew ?_ | refine blk_alloc ?_ _)); refine blk_put (cs := #[.int .i64 ((rd_T85 l0_5 x44_3).f0), .int .i64 0, .int .i64 0, .int .i64 0]) ?_ 1 _ rfl; (with_reducible repeat (first | refine blk_drewN ?_ _ | refine blk_drew ?_ | refine blk_alloc ?_ _)); refine blk_put (cs := #[.int .i64 0, .int .i64 0, .int .i64 0, .int .i64 0]) ?_ 0 _ rfl; (with_reducible repeat (first | refine blk_drewN ?_ _ | refine blk_drew ?_ | refine blk_alloc ?_ _)); exact BK197.out⟩, ⟨by repeat (first | (with_reducible first | exact HB.out | apply below_alloc | apply pw_below_drewN | apply below_drew1 | refine below_set ?_ GE194.out | refine below_set ?_ GE197.out) | exact HB.out)⟩⟩
                        case rest =>
                          clear HC33
                          try clear c1
                          try clear p1
                          try clear q1
                          try clear hx1
                          try clear c2
                          try clear p2
                          try clear c3
                          try clear c4
                          try clear c5
                          try clear c6
                          try clear c6b0
                          try clear c10
                          try clear c10b0
                          try clear c14
                          try clear c14b0
                          try clear p19
                          try clear q19
                          try clear hx19
                          try clear c23
                          try clear c25
                          try clear c25b0
                          try clear c25b1
                          try clear c28
                          try clear c30
                          try clear c30b0
                          try clear c31
                          try clear c31b0
                          try clear c32
                          try clear c32b0
                          try clear c35
                          try clear c37
                          try clear c37b0
                          try clear c37b1
                          try clear hcz11_0
                          try clear hcz11_1
                          try clear hcz11_2
                          try clear hcz11_3
                          try clear hcz11_4
                          try clear hcz11_5
                          try clear hcz13_0
                          try clear hcz13_1
                          try clear hcz13_2
                          try clear hcz13_3
                          try clear hcz13_4
                          try clear hcz13_5
                          try clear hcz15_0
                          try clear hcz15_1
                          try clear hcz15_2
                          try clear hcz15_3
                          try clear hcz15_4
                          try clear hcz15_5
                          try clear hcz17_0
                          try clear hcz17_1
                          try clear hcz17_2
                          try clear hcz17_3
                          try clear hcz17_4
                          try clear hcz17_5
                          try clear hcz18_0
                          try clear hcz18_1
                          try clear hcz18_2
                          try clear hcz18_3
                          try clear hcz18_4
                          try clear hcz18_5
                          try clear hcz20_0
                          try clear hcz20_1
                          try clear hcz20_2
                          try clear hcz20_3
                          try clear hcz20_4
                          try clear hcz20_5
                          try clear hcz21_0
                          try clear hcz21_1
                          try clear hcz21_2
                          try clear hcz21_3
                          try clear hcz21_4
                          try clear hcz21_5
                          try clear hcz26_0
                          try clear hcz26_1
                          try clear hcz26_2
                          try clear hcz26_3
                          try clear hcz26_4
                          try clear hcz26_5
                          try clear hcz27_0
                          try clear hcz27_1
                          try clear hcz27_2
                          try clear hcz27_3
                          try clear hcz27_4
                          try clear hcz27_5
                          try clear hcz29_0
                          try clear hcz29_1
                          try clear hcz29_2
                          try clear hcz29_3
                          try clear hcz29_4
                          try clear hcz29_5
                          try clear hcz36_0
                          try clear hcz36_1
                          try clear hcz36_2
                          try clear hcz36_3
                          try clear hcz7_0
                          try clear hcz7_1
                          try clear hcz7_2
                          try clear hcz7_3
                          try clear hcz7_4
                          try clear hcz7_5
                          try clear hcz9_0
                          try clear hcz9_1
                          try clear hcz9_2
                          try clear hcz9_3
                          try clear hcz9_4
                          try clear hcz9_5
                          try clear hfz11_0
                          try clear hfz11_1
                          try clear hfz11_2
                          try clear hfz11_3
                          try clear hfz11_4
                          try clear hfz11_5
                          try clear hfz13_0
                          try clear hfz13_1
                          try clear hfz13_2
                          try clear hfz13_3
                          try clear hfz13_4
                          try clear hfz13_5
                          try clear hfz15_0
                          try clear hfz15_1
                          try clear hfz15_2
                          try clear hfz15_3
                          try clear hfz15_4
                          try clear hfz15_5
                          try clear hfz17_0
                          try clear hfz17_1
                          try clear hfz17_2
                          try clear hfz17_3
                          try clear hfz17_4
                          try clear hfz17_5
                          try clear hfz18_0
                          try clear hfz18_1
                          try clear hfz18_2
                          try clear hfz18_3
                          try clear hfz18_4
                          try clear hfz18_5
                          try clear hfz20_0
                          try clear hfz20_1
                          try clear hfz20_2
                          try clear hfz20_3
                          try clear hfz20_4
                          try clear hfz20_5
                          try clear hfz21_0
                          try clear hfz21_1
                          try clear hfz21_2
                          try clear hfz21_3
                          try clear hfz21_4
                          try clear hfz21_5
                          try clear hfz26_0
                          try clear hfz26_1
                          try clear hfz26_2
                          try clear hfz26_3
                          try clear hfz26_4
                          try clear hfz26_5
                          try clear hfz27_0
                          try clear hfz27_1
                          try clear hfz27_2
                          try clear hfz27_3
                          try clear hfz27_4
                          try clear hfz27_5
                          try clear hfz29_0
                          try clear hfz29_1
                          try clear hfz29_2
                          try clear hfz29_3
                          try clear hfz29_4
                          try clear hfz29_5
                          try clear hfz36_0
                          try clear hfz36_1
                          try clear hfz36_2
                          try clear hfz36_3
                          try clear hfz7_0
                          try clear hfz7_1
                          try clear hfz7_2
                          try clear hfz7_3
                          try clear hfz7_4
                          try clear hfz7_5
                          try clear hfz9_0
                          try clear hfz9_1
                          try clear hfz9_2
                          try clear hfz9_3
                          try clear hfz9_4
                          try clear hfz9_5
                          try clear hx196_0
                          try clear hx196_1
                          try clear hx196_2
                          try clear hx196_3
                          try clear p196
                          try clear p2
                          try clear q196
                          obtain ⟨kq, x6_32, rfl, HA, HJ32, BK194, BK197, HB⟩ := hcut
                          cases kq with
                          | zero => exact absurd HA.out (by simp [part_Is.j3])
                          | succ kj32 =>
                            have H := HA.out
                            clear HA
                            simp only [part_Is.j3] at H
                            have HC38 := Aside0.mk H
                            clear H
                            go_upto_region 12 with (fail)
                            go_cut [69] (fun v69 wc => ∃ (kq : Nat) (x69_37 : Bool), v69 = .bool x69_37 ∧ Aside0 (part_Is.j4 kq x6_32 l0_5 (l0_5.length : Int) x44_3 x69_37 a0_0 a0_1 a0_2 a0_3 a0_4 l0_5 ((rd_T85 l0_5 x44_3).f0) ((rd_T85 l0_5 x44_3).f1) ((rd_T85 l0_5 x44_3).f2) ((rd_T85 l0_5 x44_3).f3) = some r) ∧ Aside0 (kq ≤ kj32) ∧ Aside0 (wc.heap[gb194]? = some (.cells #[.string a0_0, .int .i64 a0_1, .bool a0_2, .int .i64 a0_3, .string a0_4, (.slice (some ad196) l0_5.length c0_5)] 71 (0, 0))) ∧ Aside0 (wc.heap[gb197]? = some (.cells #[.int .i64 ((rd_T85 l0_5 x44_3).f0), .int .i64 ((rd_T85 l0_5 x44_3).f1), .int .i64 ((rd_T85 l0_5 x44_3).f2), .int .i64 ((rd_T85 l0_5 x44_3).f3)] 85 (0, 0))) ∧ Aside0 (Below w.heap.size w wc))
                            case first =>
                              have H := HC38.out
                              clear HC38
                              by_cases c39 : ((rd_T85 l0_5 x44_3).f0) < x3_3
                              · rw [if_pos c39] at H
                                have c39b0 : decide (((rd_T85 l0_5 x44_3).f0) < x3_3) = true := decide_eq_true c39
                                clear c39
                                (first | rw [c39b0] | (simp only [i64_w, i32_w]; rw [c39b0]) | skip)
                                have H' := Aside0.mk H
                                clear H
                                have hnb40 := NB197_194.out
                                have hnc40 := NB194_197.out
                                have hcz41_0 : wc.cell? ⟨gb197, 0, none⟩ = some (.int .i64 ((rd_T85 l0_5 x44_3).f0)) := (blk_cell BK197.out 0).trans rfl
                                have hcz41_1 : wc.cell? ⟨gb197, 1, none⟩ = some (.int .i64 ((rd_T85 l0_5 x44_3).f1)) := (blk_cell BK197.out 1).trans rfl
                                have hcz41_2 : wc.cell? ⟨gb197, 2, none⟩ = some (.int .i64 ((rd_T85 l0_5 x44_3).f2)) := (blk_cell BK197.out 2).trans rfl
                                have hcz41_3 : wc.cell? ⟨gb197, 3, none⟩ = some (.int .i64 ((rd_T85 l0_5 x44_3).f3)) := (blk_cell BK197.out 3).trans rfl
                                have hfz41_0 := blk_frozen BK197.out 0
                                have hfz41_1 := blk_frozen BK197.out 1
                                have hfz41_2 := blk_frozen BK197.out 2
                                have hfz41_3 := blk_frozen BK197.out 3
                                go_wp2
                                go_meet
                                case rel => exact ⟨_, (true), (by first | rfl | (simp; done) | (simp [*]; done)), H', ⟨by have := HJ1.out; have := HJ23.out; have := HK3.out; have := HJ32.out; first | omega | exact Nat.le_refl _⟩, ⟨by (with_reducible repeat (first | refine blk_drewN ?_ _ | refine blk_drew ?_ | refine blk_alloc ?_ _)); exact BK194.out⟩, ⟨by (with_reducible repeat (first | refine blk_drewN ?_ _ | refine blk_drew ?_ | refine blk_alloc ?_ _)); exact BK197.out⟩, ⟨by repeat (first | (with_reducible first | exact HB.out | apply below_alloc | apply pw_below_drewN | apply below_drew1 | refine below_set ?_ GE194.out | refine below_set ?_ GE197.out) | exact HB.out)⟩⟩
                              · rw [if_neg c39] at H
                                have c39b0 : decide (((rd_T85 l0_5 x44_3).f0) < x3_3) = false := decide_eq_false c39
                                clear c39
                                (first | rw [c39b0] | (simp only [i64_w, i32_w]; rw [c39b0]) | skip)
                                by_cases c42 : ((rd_T85 l0_5 x44_3).f0) > (wrap64 ((a0_4.size : Int) - x6_32))
                                · rw [if_pos c42] at H
                                  have c42b0 : decide ((wrap64 ((a0_4.size : Int) - x6_32)) < ((rd_T85 l0_5 x44_3).f0)) = true := decide_eq_true c42
                                  clear c42
                                  have H' := Aside0.mk H
                                  clear H
                                  have hnb43 := NB197_194.out
                                  have hnc43 := NB194_197.out
                                  have hcz44_0 : wc.cell? ⟨gb197, 0, none⟩ = some (.int .i64 ((rd_T85 l0_5 x44_3).f0)) := (blk_cell BK197.out 0).trans rfl
                                  have hcz44_1 : wc.cell? ⟨gb197, 1, none⟩ = some (.int .i64 ((rd_T85 l0_5 x44_3).f1)) := (blk_cell BK197.out 1).trans rfl
                                  have hcz44_2 : wc.cell? ⟨gb197, 2, none⟩ = some (.int .i64 ((rd_T85 l0_5 x44_3).f2)) := (blk_cell BK197.out 2).trans rfl
                                  have hcz44_3 : wc.cell? ⟨gb197, 3, none⟩ = some (.int .i64 ((rd_T85 l0_5 x44_3).f3)) := (blk_cell BK197.out 3).trans rfl
                                  have hfz44_0 := blk_frozen BK197.out 0
                                  have hfz44_1 := blk_frozen BK197.out 1
                                  have hfz44_2 := blk_frozen BK197.out 2
                                  have hfz44_3 := blk_frozen BK197.out 3
                                  have hcz45_0 : wc.cell? ⟨gb194, 0, none⟩ = some (.string a0_0) := (blk_cell BK194.out 0).trans rfl
                                  have hcz45_1 : wc.cell? ⟨gb194, 1, none⟩ = some (.int .i64 a0_1) := (blk_cell BK194.out 1).trans rfl
                                  have hcz45_2 : wc.cell? ⟨gb194, 2, none⟩ = some (.bool a0_2) := (blk_cell BK194.out 2).trans rfl
                                  have hcz45_3 : wc.cell? ⟨gb194, 3, none⟩ = some (.int .i64 a0_3) := (blk_cell BK194.out 3).trans rfl
                                  have hcz45_4 : wc.cell? ⟨gb194, 4, none⟩ = some (.string a0_4) := (blk_cell BK194.out 4).trans rfl
                                  have hcz45_5 : wc.cell? ⟨gb194, 5, none⟩ = some (.slice (some ad196) l0_5.length c0_5) := (blk_cell BK194.out 5).trans rfl
                                  have hfz45_0 := blk_frozen BK194.out 0
                                  have hfz45_1 := blk_frozen BK194.out 1
                                  have hfz45_2 := blk_frozen BK194.out 2
                                  have hfz45_3 := blk_frozen BK194.out 3
                                  have hfz45_4 := blk_frozen BK194.out 4
                                  have hfz45_5 := blk_frozen BK194.out 5
                                  go_wp2
                                  go_meet
                                  case rel => exact ⟨_, (true), (by first | rfl | (simp; done) | (simp [*]; done)), H', ⟨by have := HJ1.out; have := HJ23.out; have := HK3.out; have := HJ32.out; first | omega | exact Nat.le_refl _⟩, ⟨by (with_reducible repeat (first | refine blk_drewN ?_ _ | refine blk_drew ?_ | refine blk_alloc ?_ _)); exact BK194.out⟩, ⟨by (with_reducible repeat (first | refine blk_drewN ?_ _ | refine blk_drew ?_ | refine blk_alloc ?_ _)); exact BK197.out⟩, ⟨by repeat (first | (with_reducible first | exact HB.out | apply below_alloc | apply pw_below_drewN | apply below_drew1 | refine below_set ?_ GE194.out | refine below_set ?_ GE197.out) | exact HB.out)⟩⟩
                                · rw [if_neg c42] at H
                                  have c42b0 : decide ((wrap64 ((a0_4.size : Int) - x6_32)) < ((rd_T85 l0_5 x44_3).f0)) = false := decide_eq_false c42
                                  clear c42
                                  have H' := Aside0.mk H
                                  clear H
                                  have hnb46 := NB197_194.out
                                  have hnc46 := NB194_197.out
                                  have hcz47_0 : wc.cell? ⟨gb197, 0, none⟩ = some (.int .i64 ((rd_T85 l0_5 x44_3).f0)) := (blk_cell BK197.out 0).trans rfl
                                  have hcz47_1 : wc.cell? ⟨gb197, 1, none⟩ = some (.int .i64 ((rd_T85 l0_5 x44_3).f1)) := (blk_cell BK197.out 1).trans rfl
                                  have hcz47_2 : wc.cell? ⟨gb197, 2, none⟩ = some (.int .i64 ((rd_T85 l0_5 x44_3).f2)) := (blk_cell BK197.out 2).trans rfl
                                  have hcz47_3 : wc.cell? ⟨gb197, 3, none⟩ = some (.int .i64 ((rd_T85 l0_5 x44_3).f3)) := (blk_cell BK197.out 3).trans rfl
                                  have hfz47_0 := blk_frozen BK197.out 0
                                  have hfz47_1 := blk_frozen BK197.out 1
                                  have hfz47_2 := blk_frozen BK197.out 2
                                  have hfz47_3 := blk_frozen BK197.out 3
                                  have hcz48_0 : wc.cell? ⟨gb194, 0, none⟩ = some (.string a0_0) := (blk_cell BK194.out 0).trans rfl
                                  have hcz48_1 : wc.cell? ⟨gb194, 1, none⟩ = some (.int .i64 a0_1) := (blk_cell BK194.out 1).trans rfl
                                  have hcz48_2 : wc.cell? ⟨gb194, 2, none⟩ = some (.bool a0_2) := (blk_cell BK194.out 2).trans rfl
                                  have hcz48_3 : wc.cell? ⟨gb194, 3, none⟩ = some (.int .i64 a0_3) := (blk_cell BK194.out 3).trans rfl
                                  have hcz48_4 : wc.cell? ⟨gb194, 4, none⟩ = some (.string a0_4) := (blk_cell BK194.out 4).trans rfl
                                  have hcz48_5 : wc.cell? ⟨gb194, 5, none⟩ = some (.slice (some ad196) l0_5.length c0_5) := (blk_cell BK194.out 5).trans rfl
                                  have hfz48_0 := blk_frozen BK194.out 0
                                  have hfz48_1 := blk_frozen BK194.out 1
                                  have hfz48_2 := blk_frozen BK194.out 2
                                  have hfz48_3 := blk_frozen BK194.out 3
                                  have hfz48_4 := blk_frozen BK194.out 4
                                  have hfz48_5 := blk_frozen BK194.out 5
                                  go_wp2
                                  go_meet
                                  case rel => exact ⟨_, (decide (((rd_T85 l0_5 x44_3).f2) < 0)), (by first | rfl | (simp; done) | (simp [*]; done)), H', ⟨by have := HJ1.out; have := HJ23.out; have := HK3.out; have := HJ32.out; first | omega | exact Nat.le_refl _⟩, ⟨by (with_reducible repeat (first | refine blk_drewN ?_ _ | refine blk_drew ?_ | refine blk_alloc ?_ _)); exact BK194.out⟩, ⟨by (with_reducible repeat (first | refine blk_drewN ?_ _ | refine blk_drew ?_ | refine blk_alloc ?_ _)); exact BK197.out⟩, ⟨by repeat (first | (with_reducible first | exact HB.out | apply below_alloc | apply pw_below_drewN | apply below_drew1 | refine below_set ?_ GE194.out | refine below_set ?_ GE197.out) | exact HB.out)⟩⟩
                            case rest =>
                              clear HC38
                              try clear c1
                              try clear p1
                              try clear q1
                              try clear hx1
                              try clear c2
                              try clear p2
                              try clear c3
                              try clear c4
                              try clear c5
                              try clear c6
                              try clear c6b0
                              try clear p6
                              try clear c10
                              try clear c10b0
                              try clear c14
                              try clear c14b0
                              try clear p19
                              try clear q19
                              try clear hx19
                              try clear c23
                              try clear c25
                              try clear c25b0
                              try clear c25b1
                              try clear c28
                              try clear c30
                              try clear c30b0
                              try clear c31
                              try clear c31b0
                              try clear c32
                              try clear c32b0
                              try clear c35
                              try clear c37
                              try clear c37b0
                              try clear c37b1
                              try clear c39
                              try clear c39b0
                              try clear c40
                              try clear c42
                              try clear c42b0
                              try clear c43
                              try clear c46
                              try clear hcz11_0
                              try clear hcz11_1
                              try clear hcz11_2
                              try clear hcz11_3
                              try clear hcz11_4
                              try clear hcz11_5
                              try clear hcz13_0
                              try clear hcz13_1
                              try clear hcz13_2
                              try clear hcz13_3
                              try clear hcz13_4
                              try clear hcz13_5
                              try clear hcz15_0
                              try clear hcz15_1
                              try clear hcz15_2
                              try clear hcz15_3
                              try clear hcz15_4
                              try clear hcz15_5
                              try clear hcz17_0
                              try clear hcz17_1
                              try clear hcz17_2
                              try clear hcz17_3
                              try clear hcz17_4
                              try clear hcz17_5
                              try clear hcz18_0
                              try clear hcz18_1
                              try clear hcz18_2
                              try clear hcz18_3
                              try clear hcz18_4
                              try clear hcz18_5
                              try clear hcz20_0
                              try clear hcz20_1
                              try clear hcz20_2
                              try clear hcz20_3
                              try clear hcz20_4
                              try clear hcz20_5
                              try clear hcz21_0
                              try clear hcz21_1
                              try clear hcz21_2
                              try clear hcz21_3
                              try clear hcz21_4
                              try clear hcz21_5
                              try clear hcz26_0
                              try clear hcz26_1
                              try clear hcz26_2
                              try clear hcz26_3
                              try clear hcz26_4
                              try clear hcz26_5
                              try clear hcz27_0
                              try clear hcz27_1
                              try clear hcz27_2
                              try clear hcz27_3
                              try clear hcz27_4
                              try clear hcz27_5
                              try clear hcz29_0
                              try clear hcz29_1
                              try clear hcz29_2
                              try clear hcz29_3
                              try clear hcz29_4
                              try clear hcz29_5
                              try clear hcz36_0
                              try clear hcz36_1
                              try clear hcz36_2
                              try clear hcz36_3
                              try clear hcz41_0
                              try clear hcz41_1
                              try clear hcz41_2
                              try clear hcz41_3
                              try clear hcz44_0
                              try clear hcz44_1
                              try clear hcz44_2
                              try clear hcz44_3
                              try clear hcz45_0
                              try clear hcz45_1
                              try clear hcz45_2
                              try clear hcz45_3
                              try clear hcz45_4
                              try clear hcz45_5
                              try clear hcz47_0
                              try clear hcz47_1
                              try clear hcz47_2
                              try clear hcz47_3
                              try clear hcz48_0
                              try clear hcz48_1
                              try clear hcz48_2
                              try clear hcz48_3
                              try clear hcz48_4
                              try clear hcz48_5
                              try clear hcz7_0
                              try clear hcz7_1
                              try clear hcz7_2
                              try clear hcz7_3
                              try clear hcz7_4
                              try clear hcz7_5
                              try clear hcz9_0
                              try clear hcz9_1
                              try clear hcz9_2
                              try clear hcz9_3
                              try clear hcz9_4
                              try clear hcz9_5
                              try clear hfz11_0
                              try clear hfz11_1
                              try clear hfz11_2
                              try clear hfz11_3
                              try clear hfz11_4
                              try clear hfz11_5
                              try clear hfz13_0
                              try clear hfz13_1
                              try clear hfz13_2
                              try clear hfz13_3
                              try clear hfz13_4
                              try clear hfz13_5
                              try clear hfz15_0
                              try clear hfz15_1
                              try clear hfz15_2
                              try clear hfz15_3
                              try clear hfz15_4
                              try clear hfz15_5
                              try clear hfz17_0
                              try clear hfz17_1
                              try clear hfz17_2
                              try clear hfz17_3
                              try clear hfz17_4
                              try clear hfz17_5
                              try clear hfz18_0
                              try clear hfz18_1
                              try clear hfz18_2
                              try clear hfz18_3
                              try clear hfz18_4
                              try clear hfz18_5
                              try clear hfz20_0
                              try clear hfz20_1
                              try clear hfz20_2
                              try clear hfz20_3
                              try clear hfz20_4
                              try clear hfz20_5
                              try clear hfz21_0
                              try clear hfz21_1
                              try clear hfz21_2
                              try clear hfz21_3
                              try clear hfz21_4
                              try clear hfz21_5
                              try clear hfz26_0
                              try clear hfz26_1
                              try clear hfz26_2
                              try clear hfz26_3
                              try clear hfz26_4
                              try clear hfz26_5
                              try clear hfz27_0
                              try clear hfz27_1
                              try clear hfz27_2
                              try clear hfz27_3
                              try clear hfz27_4
                              try clear hfz27_5
                              try clear hfz29_0
                              try clear hfz29_1
                              try clear hfz29_2
                              try clear hfz29_3
                              try clear hfz29_4
                              try clear hfz29_5
                              try clear hfz36_0
                              try clear hfz36_1
                              try clear hfz36_2
                              try clear hfz36_3
                              try clear hfz41_0
                              try clear hfz41_1
                              try clear hfz41_2
                              try clear hfz41_3
                              try clear hfz44_0
                              try clear hfz44_1
                              try clear hfz44_2
                              try clear hfz44_3
                              try clear hfz45_0
                              try clear hfz45_1
                              try clear hfz45_2
                              try clear hfz45_3
                              try clear hfz45_4
                              try clear hfz45_5
                              try clear hfz47_0
                              try clear hfz47_1
                              try clear hfz47_2
                              try clear hfz47_3
                              try clear hfz48_0
                              try clear hfz48_1
                              try clear hfz48_2
                              try clear hfz48_3
                              try clear hfz48_4
                              try clear hfz48_5
                              try clear hfz7_0
                              try clear hfz7_1
                              try clear hfz7_2
                              try clear hfz7_3
                              try clear hfz7_4
                              try clear hfz7_5
                              try clear hfz9_0
                              try clear hfz9_1
                              try clear hfz9_2
                              try clear hfz9_3
                              try clear hfz9_4
                              try clear hfz9_5
                              try clear hx196_0
                              try clear hx196_1
                              try clear hx196_2
                              try clear hx196_3
                              try clear p1
                              try clear p19
                              try clear p196
                              try clear p2
                              try clear q1
                              try clear q19
                              try clear q196
                              obtain ⟨kq, x69_37, rfl, HA, HJ37, BK194, BK197, HB⟩ := hcut
                              cases kq with
                              | zero => exact absurd HA.out (by simp [part_Is.j4])
                              | succ kj37 =>
                                have H := HA.out
                                clear HA
                                simp only [part_Is.j4] at H
                                by_cases c49 : x69_37 = true
                                · subst c49
                                  have H1 : (some false) = some r := by rw [if_pos rfl] at H; exact H
                                  clear H
                                  have H := H1
                                  clear H1
                                  obtain rfl := Option.some.inj H
                                  go_wp2
                                  go_ret
                                  exact ⟨by first | rfl | (simp [errW_none, errW_some] <;> rfl) | (simp [*, errW_none, errW_some] <;> rfl), by repeat (first | (with_reducible first | exact HB.out | apply below_alloc | apply pw_below_drewN | apply below_drew1 | refine below_set ?_ GE194.out | refine below_set ?_ GE197.out) | exact HB.out)⟩
                                · replace c49 := Bool.eq_false_iff.mpr c49
                                  subst c49
                                  have H1 : (if 0 ≤ ((rd_T85 l0_5 x44_3).f0) then (if ((rd_T85 l0_5 x44_3).f0) ≤ (wrap64 (((rd_T85 l0_5 x44_3).f0) + x6_32)) then (if (wrap64 (((rd_T85 l0_5 x44_3).f0) + x6_32)) ≤ (a0_4.size : Int) then ((part_over.f kj37 a0_1 ((rd_T85 l0_5 x44_3).f0) ((rd_T85 l0_5 x44_3).f1) ((rd_T85 l0_5 x44_3).f2) ((rd_T85 l0_5 x44_3).f3) (a0_4.extract (((rd_T85 l0_5 x44_3).f0) : Int).toNat ((wrap64 (((rd_T85 l0_5 x44_3).f0) + x6_32)) : Int).toNat)).bind fun t198 => (if t198 = true then (part_Is.l0 kj37 (wrap64 (((rd_T85 l0_5 x44_3).f0) + x6_32)) l0_5 (l0_5.length : Int) (wrap64 (x44_3 + 1)) a0_0 a0_1 a0_2 a0_3 a0_4 l0_5) else (some false))) else (none)) else (none)) else (none)) = some r := by rw [if_neg (show ¬ (false = true) by decide)] at H; exact H
                                  clear H
                                  have H := H1
                                  clear H1
                                  by_cases c50 : 0 ≤ ((rd_T85 l0_5 x44_3).f0)
                                  · rw [if_pos c50] at H
                                    have c50b0 := eq_true c50
                                    have c50b1 : decide (0 ≤ ((rd_T85 l0_5 x44_3).f0)) = true := decide_eq_true c50
                                    clear c50
                                    by_cases c51 : ((rd_T85 l0_5 x44_3).f0) ≤ (wrap64 (((rd_T85 l0_5 x44_3).f0) + x6_32))
                                    · rw [if_pos c51] at H
                                      have c51b0 := eq_true c51
                                      have c51b1 : decide (((rd_T85 l0_5 x44_3).f0) ≤ (wrap64 (((rd_T85 l0_5 x44_3).f0) + x6_32))) = true := decide_eq_true c51
                                      by_cases c52 : (wrap64 (((rd_T85 l0_5 x44_3).f0) + x6_32)) ≤ (a0_4.size : Int)
                                      · rw [if_pos c52] at H
                                        have c52b0 := eq_true c52
                                        have c52b1 : decide ((wrap64 (((rd_T85 l0_5 x44_3).f0) + x6_32)) ≤ (a0_4.size : Int)) = true := decide_eq_true c52
                                        replace H := Option.bind_eq_some_iff.mp H
                                        obtain ⟨t198, A530, H⟩ := H
                                        replace H : (if t198 = true then (part_Is.l0 kj37 (wrap64 (((rd_T85 l0_5 x44_3).f0) + x6_32)) l0_5 (l0_5.length : Int) (wrap64 (x44_3 + 1)) a0_0 a0_1 a0_2 a0_3 a0_4 l0_5) else (some false)) = some r := H
                                        have A53 := Aside0.mk A530
                                        clear A530
                                        by_cases c54 : t198 = true
                                        · subst c54
                                          have H1 : (part_Is.l0 kj37 (wrap64 (((rd_T85 l0_5 x44_3).f0) + x6_32)) l0_5 (l0_5.length : Int) (wrap64 (x44_3 + 1)) a0_0 a0_1 a0_2 a0_3 a0_4 l0_5) = some r := by rw [if_pos rfl] at H; exact H
                                          clear H
                                          have H := H1
                                          clear H1
                                          have H' := Aside0.mk H
                                          clear H
                                          have hnb55 := NB197_194.out
                                          have hnc55 := NB194_197.out
                                          have hcz56_0 : wc.cell? ⟨gb197, 0, none⟩ = some (.int .i64 ((rd_T85 l0_5 x44_3).f0)) := (blk_cell BK197.out 0).trans rfl
                                          have hcz56_1 : wc.cell? ⟨gb197, 1, none⟩ = some (.int .i64 ((rd_T85 l0_5 x44_3).f1)) := (blk_cell BK197.out 1).trans rfl
                                          have hcz56_2 : wc.cell? ⟨gb197, 2, none⟩ = some (.int .i64 ((rd_T85 l0_5 x44_3).f2)) := (blk_cell BK197.out 2).trans rfl
                                          have hcz56_3 : wc.cell? ⟨gb197, 3, none⟩ = some (.int .i64 ((rd_T85 l0_5 x44_3).f3)) := (blk_cell BK197.out 3).trans rfl
                                          have hfz56_0 := blk_frozen BK197.out 0
                                          have hfz56_1 := blk_frozen BK197.out 1
                                          have hfz56_2 := blk_frozen BK197.out 2
                                          have hfz56_3 := blk_frozen BK197.out 3
                                          try go_wp2
                                          have n0_ := Aside0.mk (blk_drew BK194.out)
                                          have n1_ := Aside0.mk (blk_drew BK197.out)
                                          have n2_ := Aside0.mk (below_drew1 HB.out)
                                          clear BK194
                                          clear BK197
                                          clear HB
                                          have BK194 := n0_
                                          have BK197 := n1_
                                          have HB := n2_
                                          clear n0_ n1_ n2_
                                          refine start_ (n := 11) (S := fun w' => w'.cell? ⟨gb194, 0, none⟩ = some (.string a0_0) ∧ w'.cell? ⟨gb194, 1, none⟩ = some (.int .i64 a0_1) ∧ w'.cell? ⟨gb194, 2, none⟩ = some (.bool a0_2) ∧ w'.cell? ⟨gb194, 3, none⟩ = some (.int .i64 a0_3) ∧ w'.cell? ⟨gb194, 4, none⟩ = some (.string a0_4) ∧ w'.cell? ⟨gb194, 5, none⟩ = some (.slice (some ad196) l0_5.length c0_5) ∧ w'.cell? ⟨gb197, 0, none⟩ = some (.int .i64 ((rd_T85 l0_5 x44_3).f0)) ∧ w'.cell? ⟨gb197, 1, none⟩ = some (.int .i64 ((rd_T85 l0_5 x44_3).f1)) ∧ w'.cell? ⟨gb197, 2, none⟩ = some (.int .i64 ((rd_T85 l0_5 x44_3).f2)) ∧ w'.cell? ⟨gb197, 3, none⟩ = some (.int .i64 ((rd_T85 l0_5 x44_3).f3))) (ds := []) #[false, false, false, false, false, false, false, false, false, false, false] (by kernel_rfl) rfl rfl ⟨(blk_cell BK194.out 0).trans rfl, (blk_cell BK194.out 1).trans rfl, (blk_cell BK194.out 2).trans rfl, (blk_cell BK194.out 3).trans rfl, (blk_cell BK194.out 4).trans rfl, (blk_cell BK194.out 5).trans rfl, (blk_cell BK197.out 0).trans rfl, (blk_cell BK197.out 1).trans rfl, (blk_cell BK197.out 2).trans rfl, (blk_cell BK197.out 3).trans rfl⟩ (fun hHeld => ?_); refine with_tabW part_Is.tab15 part_Is.bits15 (fun HT_ HW_ => ?_)
                                          generalize wc.drew = w57 at BK194 BK197 HB hHeld ⊢
                                          refine pure_ (i := 0) (N := some 74) (v := ?_) (a' := ?_) #[true, false, false, false, false, false, false, false, false, false, false] rfl rfl (any_of HT_.out (by kernel_rfl)) (fun _ _ _ h => h) (Or.inl ⟨by rfl, ?_⟩) ?_ ?_
                                          rotate_left
                                          · intro w'
                                            go_simp
                                            with_reducible rfl
                                          rotate_left
                                          · simp only [Act.put, List.setIfInBounds_toArray, List.set_cons_zero, List.set_cons_succ, i64_w, i32_w]
                                            rfl
                                          refine pure_ (i := 3) (N := some 77) (v := ?_) (a' := ?_) #[true, false, false, true, false, false, false, false, false, false, false] rfl rfl (any_of HT_.out (by kernel_rfl)) (fun _ _ _ h => h) (Or.inl ⟨by rfl, ?_⟩) ?_ ?_
                                          rotate_left
                                          · intro w'
                                            go_simp
                                            with_reducible rfl
                                          rotate_left
                                          · simp only [Act.put, List.setIfInBounds_toArray, List.set_cons_zero, List.set_cons_succ, i64_w, i32_w]
                                            rfl
                                          refine pure_ (i := 5) (N := some 79) (v := ?_) (a' := ?_) #[true, false, false, true, false, true, false, false, false, false, false] rfl rfl (any_of HT_.out (by kernel_rfl)) (fun _ _ _ h => h) (Or.inl ⟨by rfl, ?_⟩) ?_ ?_
                                          rotate_left
                                          · intro w'
                                            go_simp
                                            with_reducible rfl
                                          rotate_left
                                          · simp only [Act.put, List.setIfInBounds_toArray, List.set_cons_zero, List.set_cons_succ, i64_w, i32_w]
                                            rfl
                                          refine pure_ (i := 7) (N := some 81) (v := ?_) (a' := ?_) #[true, false, false, true, false, true, false, true, false, false, false] rfl rfl (any_of HT_.out (by kernel_rfl)) (fun _ _ _ h => h) (Or.inl ⟨by rfl, ?_⟩) ?_ ?_
                                          rotate_left
                                          · intro w'
                                            go_simp
                                            with_reducible rfl
                                          rotate_left
                                          · simp only [Act.put, List.setIfInBounds_toArray, List.set_cons_zero, List.set_cons_succ, i64_w, i32_w]
                                            rfl
                                          refine take_ (i := 1) (N := some 75) (v := ?_) (a' := ?_) #[true, true, false, true, false, true, false, true, false, false, false] rfl rfl (take_ofW HT_.out HW_.out (by kernel_rfl)) (fun _ _ _ h => h) (Or.inl ⟨by rfl, ?_⟩) hHeld ?_ ?_
                                          rotate_left
                                          · rintro w' ⟨s0, s1, s2, s3, s4, s5, s6, s7, s8, s9⟩
                                            go_simp
                                            with_reducible rfl
                                          rotate_left
                                          · simp only [Act.put, List.setIfInBounds_toArray, List.set_cons_zero, List.set_cons_succ, i64_w, i32_w]
                                            rfl
                                          refine take_ (i := 2) (N := some 76) (v := ?_) (a' := ?_) #[true, true, true, true, false, true, false, true, false, false, false] rfl rfl (take_ofW HT_.out HW_.out (by kernel_rfl)) (fun _ _ _ h => h) (Or.inl ⟨by rfl, ?_⟩) hHeld ?_ ?_
                                          rotate_left
                                          · rintro w' ⟨s0, s1, s2, s3, s4, s5, s6, s7, s8, s9⟩
                                            go_simp
                                            with_reducible rfl
                                          rotate_left
                                          · simp only [Act.put, List.setIfInBounds_toArray, List.set_cons_zero, List.set_cons_succ, i64_w, i32_w]
                                            rfl
                                          refine take_ (i := 4) (N := some 78) (v := ?_) (a' := ?_) #[true, true, true, true, true, true, false, true, false, false, false] rfl rfl (take_ofW HT_.out HW_.out (by kernel_rfl)) (fun _ _ _ h => h) (Or.inl ⟨by rfl, ?_⟩) hHeld ?_ ?_
                                          rotate_left
                                          · rintro w' ⟨s0, s1, s2, s3, s4, s5, s6, s7, s8, s9⟩
                                            go_simp
                                            with_reducible rfl
                                          rotate_left
                                          · simp only [Act.put, List.setIfInBounds_toArray, List.set_cons_zero, List.set_cons_succ, i64_w, i32_w]
                                            rfl
                                          refine take_ (i := 6) (N := some 80) (v := ?_) (a' := ?_) #[true, true, true, true, true, true, true, true, false, false, false] rfl rfl (take_ofW HT_.out HW_.out (by kernel_rfl)) (fun _ _ _ h => h) (Or.inl ⟨by rfl, ?_⟩) hHeld ?_ ?_
                                          rotate_left
                                          · rintro w' ⟨s0, s1, s2, s3, s4, s5, s6, s7, s8, s9⟩
                                            go_simp
                                            with_reducible rfl
                                          rotate_left
                                          · simp only [Act.put, List.setIfInBounds_toArray, List.set_cons_zero, List.set_cons_succ, i64_w, i32_w]
                                            rfl
                                          refine pure_ (i := 8) (N := some 82) (v := ?_) (a' := ?_) #[true, true, true, true, true, true, true, true, true, false, false] rfl rfl (any_of HT_.out (by kernel_rfl)) (fun _ _ _ h => h) (Or.inl ⟨by rfl, ?_⟩) ?_ ?_
                                          rotate_left
                                          · intro w'
                                            go_simp
                                            with_reducible rfl
                                          rotate_left
                                          · simp only [Act.put, List.setIfInBounds_toArray, List.set_cons_zero, List.set_cons_succ, i64_w, i32_w]
                                            rfl
                                          refine one_ (i := 9) (N := some 83) #[true, true, true, true, true, true, true, true, true, true, false] rfl rfl (one_of HT_.out (by kernel_rfl)) (by decide) (fun K hK => ?_)
                                          refine goes_ Tryd.func51 (by kernel_rfl) rfl #[.int .i64 a0_1, .agg #[.int .i64 ((rd_T85 l0_5 x44_3).f0), .int .i64 ((rd_T85 l0_5 x44_3).f1), .int .i64 ((rd_T85 l0_5 x44_3).f2), .int .i64 ((rd_T85 l0_5 x44_3).f3)], .string (a0_4.extract (((rd_T85 l0_5 x44_3).f0) : Int).toNat ((wrap64 (((rd_T85 l0_5 x44_3).f0) + x6_32)) : Int).toNat)] (by rfl) rfl rfl (by (try simp only [List.map_toArray, List.map_cons, List.map_nil]); first | done | rfl | (simp only [List.length_drop, List.length_take]; rfl)) ?_
                                          with_reducible refine (part_over.calls kj37 a0_1 ((rd_T85 l0_5 x44_3).f0) ((rd_T85 l0_5 x44_3).f1) ((rd_T85 l0_5 x44_3).f2) ((rd_T85 l0_5 x44_3).f3) (a0_4.extract (((rd_T85 l0_5 x44_3).f0) : Int).toNat ((wrap64 (((rd_T85 l0_5 x44_3).f0) + x6_32)) : Int).toNat) true _ ?side1 A53.out).mono ?_
                                          (case side1 => exact Glob.below hG (by repeat (first | (with_reducible first | exact HB.out | apply below_alloc | apply pw_below_drewN | apply below_drew1 | refine below_set ?_ GE194.out | refine below_set ?_ GE197.out) | exact HB.out)))
                                          rintro e w58 ⟨rfl, hb⟩
                                          refine ⟨_, rfl, ?_⟩
                                          have n0_ := Aside0.mk (blk_below (g := gb194) (o := .cells #[.string a0_0, .int .i64 a0_1, .bool a0_2, .int .i64 a0_3, .string a0_4, .slice (some ad196) l0_5.length c0_5] 71 (0, 0)) (by (with_reducible repeat (first | refine blk_drewN ?_ _ | refine blk_drew ?_ | refine blk_alloc ?_ _)); exact BK194.out) hb)
                                          have n1_ := Aside0.mk (blk_below (g := gb197) (o := .cells #[.int .i64 ((rd_T85 l0_5 x44_3).f0), .int .i64 ((rd_T85 l0_5 x44_3).f1), .int .i64 ((rd_T85 l0_5 x44_3).f2), .int .i64 ((rd_T85 l0_5 x44_3).f3)] 85 (0, 0)) (by (with_reducible repeat (first | refine blk_drewN ?_ _ | refine blk_drew ?_ | refine blk_alloc ?_ _)); exact BK197.out) hb)
                                          have n2_ := Aside0.mk (below_step (by repeat (first | (with_reducible first | exact HB.out | apply below_alloc | apply pw_below_drewN | apply below_drew1 | refine below_set ?_ GE194.out | refine below_set ?_ GE197.out) | exact HB.out)) hb)
                                          clear BK194
                                          clear BK197
                                          clear HB
                                          have BK194 := n0_
                                          have BK197 := n1_
                                          have HB := n2_
                                          clear n0_ n1_ n2_
                                          (try clear hb)
                                          (try clear hb2)
                                          (try clear hk)
                                          (try clear hi)
                                          refine hK.out _ _ ⟨(blk_cell BK194.out 0).trans rfl, (blk_cell BK194.out 1).trans rfl, (blk_cell BK194.out 2).trans rfl, (blk_cell BK194.out 3).trans rfl, (blk_cell BK194.out 4).trans rfl, (blk_cell BK194.out 5).trans rfl, (blk_cell BK197.out 0).trans rfl, (blk_cell BK197.out 1).trans rfl, (blk_cell BK197.out 2).trans rfl, (blk_cell BK197.out 3).trans rfl⟩ (fun hHeld => ?_)
                                          clear hK K
                                          refine norm_ (a' := ?_) ?_ ?_
                                          rotate_left
                                          · show Act.put _ (some 83) _ = _
                                            simp only [Act.put, List.setIfInBounds_toArray, List.set_cons_zero, List.set_cons_succ, i64_w, i32_w]
                                            rfl
                                          refine pure_ (i := 10) (N := some 84) (v := ?_) (a' := ?_) #[true, true, true, true, true, true, true, true, true, true, true] rfl rfl (any_of HT_.out (by kernel_rfl)) (fun _ _ _ h => h) (Or.inl ⟨by rfl, ?_⟩) ?_ ?_
                                          rotate_left
                                          · intro w'
                                            go_simp
                                            with_reducible rfl
                                          rotate_left
                                          · simp only [Act.put, List.setIfInBounds_toArray, List.set_cons_zero, List.set_cons_succ, i64_w, i32_w]
                                            rfl
                                          refine done_ (done_of HT_.out (by kernel_rfl)) ?_
                                          try go_wp2
                                          go_roundg kj37
                                          case measure => have := HJ1.out; have := HJ23.out; have := HK3.out; have := HJ32.out; have := HJ37.out; omega
                                          case rel => exact ⟨(wrap64 (((rd_T85 l0_5 x44_3).f0) + x6_32)), (wrap64 (x44_3 + 1)), (by first | rfl | (simp; done) | (simp [*]; done)), (by first | rfl | (simp; done) | (simp [*]; done)), H', ⟨by have := HJ1.out; have := HJ23.out; have := HK3.out; have := HJ32.out; have := HJ37.out; omega⟩, ⟨by (with_reducible repeat (first | refine blk_drewN ?_ _ | refine blk_drew ?_ | refine blk_alloc ?_ _)); exact BK194.out⟩, ⟨by repeat (first | (with_reducible first | exact HB.out | apply below_alloc | apply pw_below_drewN | apply below_drew1 | refine below_set ?_ GE194.out | refine below_set ?_ GE197.out) | exact HB.out)⟩⟩
                                        · replace c54 := Bool.eq_false_iff.mpr c54
                                          subst c54
                                          have H1 : (some false) = some r := by rw [if_neg (show ¬ (false = true) by decide)] at H; exact H
                                          clear H
                                          have H := H1
                                          clear H1
                                          obtain rfl := Option.some.inj H
                                          have hnb59 := NB197_194.out
                                          have hnc59 := NB194_197.out
                                          have hcz60_0 : wc.cell? ⟨gb197, 0, none⟩ = some (.int .i64 ((rd_T85 l0_5 x44_3).f0)) := (blk_cell BK197.out 0).trans rfl
                                          have hcz60_1 : wc.cell? ⟨gb197, 1, none⟩ = some (.int .i64 ((rd_T85 l0_5 x44_3).f1)) := (blk_cell BK197.out 1).trans rfl
                                          have hcz60_2 : wc.cell? ⟨gb197, 2, none⟩ = some (.int .i64 ((rd_T85 l0_5 x44_3).f2)) := (blk_cell BK197.out 2).trans rfl
                                          have hcz60_3 : wc.cell? ⟨gb197, 3, none⟩ = some (.int .i64 ((rd_T85 l0_5 x44_3).f3)) := (blk_cell BK197.out 3).trans rfl
                                          have hfz60_0 := blk_frozen BK197.out 0
                                          have hfz60_1 := blk_frozen BK197.out 1
                                          have hfz60_2 := blk_frozen BK197.out 2
                                          have hfz60_3 := blk_frozen BK197.out 3
                                          try go_wp2
                                          have n0_ := Aside0.mk (blk_drew BK194.out)
                                          have n1_ := Aside0.mk (blk_drew BK197.out)
                                          have n2_ := Aside0.mk (below_drew1 HB.out)
                                          clear BK194
                                          clear BK197
                                          clear HB
                                          have BK194 := n0_
                                          have BK197 := n1_
                                          have HB := n2_
                                          clear n0_ n1_ n2_
                                          refine start_ (n := 11) (S := fun w' => w'.cell? ⟨gb194, 0, none⟩ = some (.string a0_0) ∧ w'.cell? ⟨gb194, 1, none⟩ = some (.int .i64 a0_1) ∧ w'.cell? ⟨gb194, 2, none⟩ = some (.bool a0_2) ∧ w'.cell? ⟨gb194, 3, none⟩ = some (.int .i64 a0_3) ∧ w'.cell? ⟨gb194, 4, none⟩ = some (.string a0_4) ∧ w'.cell? ⟨gb194, 5, none⟩ = some (.slice (some ad196) l0_5.length c0_5) ∧ w'.cell? ⟨gb197, 0, none⟩ = some (.int .i64 ((rd_T85 l0_5 x44_3).f0)) ∧ w'.cell? ⟨gb197, 1, none⟩ = some (.int .i64 ((rd_T85 l0_5 x44_3).f1)) ∧ w'.cell? ⟨gb197, 2, none⟩ = some (.int .i64 ((rd_T85 l0_5 x44_3).f2)) ∧ w'.cell? ⟨gb197, 3, none⟩ = some (.int .i64 ((rd_T85 l0_5 x44_3).f3))) (ds := []) #[false, false, false, false, false, false, false, false, false, false, false] (by kernel_rfl) rfl rfl ⟨(blk_cell BK194.out 0).trans rfl, (blk_cell BK194.out 1).trans rfl, (blk_cell BK194.out 2).trans rfl, (blk_cell BK194.out 3).trans rfl, (blk_cell BK194.out 4).trans rfl, (blk_cell BK194.out 5).trans rfl, (blk_cell BK197.out 0).trans rfl, (blk_cell BK197.out 1).trans rfl, (blk_cell BK197.out 2).trans rfl, (blk_cell BK197.out 3).trans rfl⟩ (fun hHeld => ?_); refine with_tabW part_Is.tab15 part_Is.bits15 (fun HT_ HW_ => ?_)
                                          generalize wc.drew = w61 at BK194 BK197 HB hHeld ⊢
                                          refine pure_ (i := 0) (N := some 74) (v := ?_) (a' := ?_) #[true, false, false, false, false, false, false, false, false, false, false] rfl rfl (any_of HT_.out (by kernel_rfl)) (fun _ _ _ h => h) (Or.inl ⟨by rfl, ?_⟩) ?_ ?_
                                          rotate_left
                                          · intro w'
                                            go_simp
                                            with_reducible rfl
                                          rotate_left
                                          · simp only [Act.put, List.setIfInBounds_toArray, List.set_cons_zero, List.set_cons_succ, i64_w, i32_w]
                                            rfl
                                          refine pure_ (i := 3) (N := some 77) (v := ?_) (a' := ?_) #[true, false, false, true, false, false, false, false, false, false, false] rfl rfl (any_of HT_.out (by kernel_rfl)) (fun _ _ _ h => h) (Or.inl ⟨by rfl, ?_⟩) ?_ ?_
                                          rotate_left
                                          · intro w'
                                            go_simp
                                            with_reducible rfl
                                          rotate_left
                                          · simp only [Act.put, List.setIfInBounds_toArray, List.set_cons_zero, List.set_cons_succ, i64_w, i32_w]
                                            rfl
                                          refine pure_ (i := 5) (N := some 79) (v := ?_) (a' := ?_) #[true, false, false, true, false, true, false, false, false, false, false] rfl rfl (any_of HT_.out (by kernel_rfl)) (fun _ _ _ h => h) (Or.inl ⟨by rfl, ?_⟩) ?_ ?_
                                          rotate_left
                                          · intro w'
                                            go_simp
                                            with_reducible rfl
                                          rotate_left
                                          · simp only [Act.put, List.setIfInBounds_toArray, List.set_cons_zero, List.set_cons_succ, i64_w, i32_w]
                                            rfl
                                          refine pure_ (i := 7) (N := some 81) (v := ?_) (a' := ?_) #[true, false, false, true, false, true, false, true, false, false, false] rfl rfl (any_of HT_.out (by kernel_rfl)) (fun _ _ _ h => h) (Or.inl ⟨by rfl, ?_⟩) ?_ ?_
                                          rotate_left
                                          · intro w'
                                            go_simp
                                            with_reducible rfl
                                          rotate_left
                                          · simp only [Act.put, List.setIfInBounds_toArray, List.set_cons_zero, List.set_cons_succ, i64_w, i32_w]
                                            rfl
                                          refine take_ (i := 1) (N := some 75) (v := ?_) (a' := ?_) #[true, true, false, true, false, true, false, true, false, false, false] rfl rfl (take_ofW HT_.out HW_.out (by kernel_rfl)) (fun _ _ _ h => h) (Or.inl ⟨by rfl, ?_⟩) hHeld ?_ ?_
                                          rotate_left
                                          · rintro w' ⟨s0, s1, s2, s3, s4, s5, s6, s7, s8, s9⟩
                                            go_simp
                                            with_reducible rfl
                                          rotate_left
                                          · simp only [Act.put, List.setIfInBounds_toArray, List.set_cons_zero, List.set_cons_succ, i64_w, i32_w]
                                            rfl
                                          refine take_ (i := 2) (N := some 76) (v := ?_) (a' := ?_) #[true, true, true, true, false, true, false, true, false, false, false] rfl rfl (take_ofW HT_.out HW_.out (by kernel_rfl)) (fun _ _ _ h => h) (Or.inl ⟨by rfl, ?_⟩) hHeld ?_ ?_
                                          rotate_left
                                          · rintro w' ⟨s0, s1, s2, s3, s4, s5, s6, s7, s8, s9⟩
                                            go_simp
                                            with_reducible rfl
                                          rotate_left
                                          · simp only [Act.put, List.setIfInBounds_toArray, List.set_cons_zero, List.set_cons_succ, i64_w, i32_w]
                                            rfl
                                          refine take_ (i := 4) (N := some 78) (v := ?_) (a' := ?_) #[true, true, true, true, true, true, false, true, false, false, false] rfl rfl (take_ofW HT_.out HW_.out (by kernel_rfl)) (fun _ _ _ h => h) (Or.inl ⟨by rfl, ?_⟩) hHeld ?_ ?_
                                          rotate_left
                                          · rintro w' ⟨s0, s1, s2, s3, s4, s5, s6, s7, s8, s9⟩
                                            go_simp
                                            with_reducible rfl
                                          rotate_left
                                          · simp only [Act.put, List.setIfInBounds_toArray, List.set_cons_zero, List.set_cons_succ, i64_w, i32_w]
                                            rfl
                                          refine take_ (i := 6) (N := some 80) (v := ?_) (a' := ?_) #[true, true, true, true, true, true, true, true, false, false, false] rfl rfl (take_ofW HT_.out HW_.out (by kernel_rfl)) (fun _ _ _ h => h) (Or.inl ⟨by rfl, ?_⟩) hHeld ?_ ?_
                                          rotate_left
                                          · rintro w' ⟨s0, s1, s2, s3, s4, s5, s6, s7, s8, s9⟩
                                            go_simp
                                            with_reducible rfl
                                          rotate_left
                                          · simp only [Act.put, List.setIfInBounds_toArray, List.set_cons_zero, List.set_cons_succ, i64_w, i32_w]
                                            rfl
                                          refine pure_ (i := 8) (N := some 82) (v := ?_) (a' := ?_) #[true, true, true, true, true, true, true, true, true, false, false] rfl rfl (any_of HT_.out (by kernel_rfl)) (fun _ _ _ h => h) (Or.inl ⟨by rfl, ?_⟩) ?_ ?_
                                          rotate_left
                                          · intro w'
                                            go_simp
                                            with_reducible rfl
                                          rotate_left
                                          · simp only [Act.put, List.setIfInBounds_toArray, List.set_cons_zero, List.set_cons_succ, i64_w, i32_w]
                                            rfl
                                          refine one_ (i := 9) (N := some 83) #[true, true, true, true, true, true, true, true, true, true, false] rfl rfl (one_of HT_.out (by kernel_rfl)) (by decide) (fun K hK => ?_)
                                          refine goes_ Tryd.func51 (by kernel_rfl) rfl #[.int .i64 a0_1, .agg #[.int .i64 ((rd_T85 l0_5 x44_3).f0), .int .i64 ((rd_T85 l0_5 x44_3).f1), .int .i64 ((rd_T85 l0_5 x44_3).f2), .int .i64 ((rd_T85 l0_5 x44_3).f3)], .string (a0_4.extract (((rd_T85 l0_5 x44_3).f0) : Int).toNat ((wrap64 (((rd_T85 l0_5 x44_3).f0) + x6_32)) : Int).toNat)] (by rfl) rfl rfl (by (try simp only [List.map_toArray, List.map_cons, List.map_nil]); first | done | rfl | (simp only [List.length_drop, List.length_take]; rfl)) ?_
                                          with_reducible refine (part_over.calls kj37 a0_1 ((rd_T85 l0_5 x44_3).f0) ((rd_T85 l0_5 x44_3).f1) ((rd_T85 l0_5 x44_3).f2) ((rd_T85 l0_5 x44_3).f3) (a0_4.extract (((rd_T85 l0_5 x44_3).f0) : Int).toNat ((wrap64 (((rd_T85 l0_5 x44_3).f0) + x6_32)) : Int).toNat) false _ ?side1 A53.out).mono ?_
                                          (case side1 => exact Glob.below hG (by repeat (first | (with_reducible first | exact HB.out | apply below_alloc | apply pw_below_drewN | apply below_drew1 | refine below_set ?_ GE194.out | refine below_set ?_ GE197.out) | exact HB.out)))
                                          rintro e w62 ⟨rfl, hb⟩
                                          refine ⟨_, rfl, ?_⟩
                                          have n0_ := Aside0.mk (blk_below (g := gb194) (o := .cells #[.string a0_0, .int .i64 a0_1, .bool a0_2, .int .i64 a0_3, .string a0_4, .slice (some ad196) l0_5.length c0_5] 71 (0, 0)) (by (with_reducible repeat (first | refine blk_drewN ?_ _ | refine blk_drew ?_ | refine blk_alloc ?_ _)); exact BK194.out) hb)
                                          have n1_ := Aside0.mk (blk_below (g := gb197) (o := .cells #[.int .i64 ((rd_T85 l0_5 x44_3).f0), .int .i64 ((rd_T85 l0_5 x44_3).f1), .int .i64 ((rd_T85 l0_5 x44_3).f2), .int .i64 ((rd_T85 l0_5 x44_3).f3)] 85 (0, 0)) (by (with_reducible repeat (first | refine blk_drewN ?_ _ | refine blk_drew ?_ | refine blk_alloc ?_ _)); exact BK197.out) hb)
                                          have n2_ := Aside0.mk (below_step (by repeat (first | (with_reducible first | exact HB.out | apply below_alloc | apply pw_below_drewN | apply below_drew1 | refine below_set ?_ GE194.out | refine below_set ?_ GE197.out) | exact HB.out)) hb)
                                          clear BK194
                                          clear BK197
                                          clear HB
                                          have BK194 := n0_
                                          have BK197 := n1_
                                          have HB := n2_
                                          clear n0_ n1_ n2_
                                          (try clear hb)
                                          (try clear hb2)
                                          (try clear hk)
                                          (try clear hi)
                                          refine hK.out _ _ ⟨(blk_cell BK194.out 0).trans rfl, (blk_cell BK194.out 1).trans rfl, (blk_cell BK194.out 2).trans rfl, (blk_cell BK194.out 3).trans rfl, (blk_cell BK194.out 4).trans rfl, (blk_cell BK194.out 5).trans rfl, (blk_cell BK197.out 0).trans rfl, (blk_cell BK197.out 1).trans rfl, (blk_cell BK197.out 2).trans rfl, (blk_cell BK197.out 3).trans rfl⟩ (fun hHeld => ?_)
                                          clear hK K
                                          refine norm_ (a' := ?_) ?_ ?_
                                          rotate_left
                                          · show Act.put _ (some 83) _ = _
                                            simp only [Act.put, List.setIfInBounds_toArray, List.set_cons_zero, List.set_cons_succ, i64_w, i32_w]
                                            rfl
                                          refine pure_ (i := 10) (N := some 84) (v := ?_) (a' := ?_) #[true, true, true, true, true, true, true, true, true, true, true] rfl rfl (any_of HT_.out (by kernel_rfl)) (fun _ _ _ h => h) (Or.inl ⟨by rfl, ?_⟩) ?_ ?_
                                          rotate_left
                                          · intro w'
                                            go_simp
                                            with_reducible rfl
                                          rotate_left
                                          · simp only [Act.put, List.setIfInBounds_toArray, List.set_cons_zero, List.set_cons_succ, i64_w, i32_w]
                                            rfl
                                          refine done_ (done_of HT_.out (by kernel_rfl)) ?_
                                          try go_wp2
                                          go_ret
                                          exact ⟨by first | rfl | (simp [errW_none, errW_some] <;> rfl) | (simp [*, errW_none, errW_some] <;> rfl), by repeat (first | (with_reducible first | exact HB.out | apply below_alloc | apply pw_below_drewN | apply below_drew1 | refine below_set ?_ GE194.out | refine below_set ?_ GE197.out) | exact HB.out)⟩
                                      · rw [if_neg c52] at H
                                        exact absurd H (by simp)
                                    · rw [if_neg c51] at H
                                      exact absurd H (by simp)
                                  · rw [if_neg c50] at H
                                    exact absurd H (by simp)
                      · rw [if_neg c32] at H
                        exact absurd H (by simp)
                    · rw [if_neg c31] at H
                      exact absurd H (by simp)
                  · rw [if_neg c30] at H
                    have c30b0 : decide (x44_3 < (l0_5.length : Int)) = false := decide_eq_false c30
                    clear c30
                    obtain rfl := Option.some.inj H
                    go_wp2
                    go_ret
                    exact ⟨by first | rfl | (simp [errW_none, errW_some] <;> rfl) | (simp [*, errW_none, errW_some] <;> rfl), by repeat (first | (with_reducible first | exact HB.out | apply below_alloc | apply pw_below_drewN | apply below_drew1 | refine below_set ?_ GE194.out) | exact HB.out)⟩
end Go.Proofs.YtngmipfodjgmmaaDoor.P
