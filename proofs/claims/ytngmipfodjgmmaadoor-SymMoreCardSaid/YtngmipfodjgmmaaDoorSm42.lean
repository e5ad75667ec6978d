/- The walks and the plain laws of this claim, a part: what each function of the program computes. -/
import Derived.Test.YtngmipfodjgmmaaDoorSm23
import Derived.Test.YtngmipfodjgmmaaDoorSm32
import Derived.Test.YtngmipfodjgmmaaDoorSm39
import Derived.Test.YtngmipfodjgmmaaDoorSm40
import Derived.Test.YtngmipfodjgmmaaDoorSm41
namespace Go.Proofs.YtngmipfodjgmmaaDoor.P
open Go.RowKit Go.Proofs.YtngmipfodjgmmaaDoorW.PrintWords Go.Proofs.YtngmipfodjgmmaaDoorW.PrintLast Go.Proofs.YtngmipfodjgmmaaDoorW.PrintMore
attribute [local go_sem] max2_int min2_int max_two min_two max_three min_three max_four min_four   -- for this text's walks alone
set_option linter.unusedVariables false
set_option linter.unusedSimpArgs false
def inst_Is.j0 : Nat → Int → Bool → Int → Int → Int → Int → Int → Int → Int → Int → Int → Int → Option (Bool)
  | 0, _, _, _, _, _, _, _, _, _, _, _, _ => none
  | k + 1, x3, x45, x175000, x175001, x175002, x175003, x175004, x175005, x175006, x175007, x175008, x175009 => if x45 = true then (some false) else (if x3 = 3 then ((mask_Is.f k x175006).bind fun t184 => (if t184 = true then ((inst_number.f k x3 x175005).bind fun t185 => (if t185 = true then ((inst_amount.f x3 x175007 x175008).bind fun t186 => (if t186 = true then ((inst_cond.f x3 x175009).bind fun t187 => (some t187)) else (some false))) else (some false))) else (some false))) else (if x175006 = 0 then ((inst_number.f k x3 x175005).bind fun t188 => (if t188 = true then ((inst_amount.f x3 x175007 x175008).bind fun t189 => (if t189 = true then ((inst_cond.f x3 x175009).bind fun t190 => (some t190)) else (some false))) else (some false))) else (some false)))
def inst_Is.f (k : Nat) (a0_0 : Int) (a0_1 : Int) (a0_2 : Int) (a0_3 : Int) (a0_4 : Int) (a0_5 : Int) (a0_6 : Int) (a0_7 : Int) (a0_8 : Int) (a0_9 : Int) : Option (Bool) := (inst_Shape.f a0_0).bind fun t175 => (if t175 = 0 then (some false) else ((inst_has.f k t175).bind fun bt176 => ((inst_register.f a0_1 bt176.1).bind fun t180 => (if t180 = true then ((inst_register.f a0_2 bt176.2.1).bind fun t181 => (if t181 = true then ((inst_register.f a0_3 bt176.2.2.1).bind fun t182 => (if t182 = true then ((inst_register.f a0_4 bt176.2.2.2).bind fun t183 => (inst_Is.j0 k t175 (!t183) a0_0 a0_1 a0_2 a0_3 a0_4 a0_5 a0_6 a0_7 a0_8 a0_9)) else (inst_Is.j0 k t175 true a0_0 a0_1 a0_2 a0_3 a0_4 a0_5 a0_6 a0_7 a0_8 a0_9))) else (inst_Is.j0 k t175 true a0_0 a0_1 a0_2 a0_3 a0_4 a0_5 a0_6 a0_7 a0_8 a0_9))) else (inst_Is.j0 k t175 true a0_0 a0_1 a0_2 a0_3 a0_4 a0_5 a0_6 a0_7 a0_8 a0_9)))))
theorem inst_Is.mono_l : ∀ k, (∀ y0 y1 y2 y3 y4 y5 y6 y7 y8 y9 y10 y11, LeO (inst_Is.j0 k y0 y1 y2 y3 y4 y5 y6 y7 y8 y9 y10 y11) (inst_Is.j0 (k + 1) y0 y1 y2 y3 y4 y5 y6 y7 y8 y9 y10 y11))
  | 0 => fun _ _ _ _ _ _ _ _ _ _ _ _ r h => by simp [inst_Is.j0] at h
  | k + 1 => by
    have ih0 := inst_Is.mono_l k
    · intro y0 y1 y2 y3 y4 y5 y6 y7 y8 y9 y10 y11
      unfold inst_Is.j0
      repeat' first
      | (with_reducible exact ih0 _ _ _ _ _ _ _ _ _ _ _ _)
      | (with_reducible exact inst_has.mono _ _)
      | (with_reducible exact inst_number.mono _ _ _)
      | (with_reducible exact mask_Is.mono _ _)
      | (with_reducible exact LeO.refl _)
      | (with_reducible exact LeO.none _)
      | (with_reducible refine LeO.ite ?_ ?_)
      | (with_reducible refine LeO.bind ?_ (fun _ => ?_))
      | exact ih0 _ _ _ _ _ _ _ _ _ _ _ _
      | exact inst_has.mono _ _
      | exact inst_number.mono _ _ _
      | exact mask_Is.mono _ _
      | exact LeO.none _
      | refine LeO.ite ?_ ?_
      | refine LeO.bind ?_ (fun _ => ?_)
theorem inst_Is.mono : ∀ a0 a1 a2 a3 a4 a5 a6 a7 a8 a9 k, LeO (inst_Is.f k a0 a1 a2 a3 a4 a5 a6 a7 a8 a9) (inst_Is.f (k + 1) a0 a1 a2 a3 a4 a5 a6 a7 a8 a9) := by
  intro a0 a1 a2 a3 a4 a5 a6 a7 a8 a9 k
  have ih0 := inst_Is.mono_l k
  unfold inst_Is.f
  repeat' first
      | (with_reducible exact ih0 _ _ _ _ _ _ _ _ _ _ _ _)
      | (with_reducible exact inst_has.mono _ _)
      | (with_reducible exact inst_number.mono _ _ _)
      | (with_reducible exact mask_Is.mono _ _)
      | (with_reducible exact LeO.refl _)
      | (with_reducible exact LeO.none _)
      | (with_reducible refine LeO.ite ?_ ?_)
      | (with_reducible refine LeO.bind ?_ (fun _ => ?_))
      | exact ih0 _ _ _ _ _ _ _ _ _ _ _ _
      | exact inst_has.mono _ _
      | exact inst_number.mono _ _ _
      | exact mask_Is.mono _ _
      | exact LeO.none _
      | refine LeO.ite ?_ ?_
      | refine LeO.bind ?_ (fun _ => ?_)
set_option maxHeartbeats 8000000 in
set_option maxRecDepth 100000 in
theorem inst_Is.calls (k : Nat) (a0_0 : Int) (a0_1 : Int) (a0_2 : Int) (a0_3 : Int) (a0_4 : Int) (a0_5 : Int) (a0_6 : Int) (a0_7 : Int) (a0_8 : Int) (a0_9 : Int) (r : Bool) (w : World) (hG : Glob w) (h : inst_Is.f k a0_0 a0_1 a0_2 a0_3 a0_4 a0_5 a0_6 a0_7 a0_8 a0_9 = some r) :
    Calls Tryd.prog 77 #[.agg #[.int .i64 a0_0, .int .i64 a0_1, .int .i64 a0_2, .int .i64 a0_3, .int .i64 a0_4, .int .i64 a0_5, .int .u64 a0_6, .int .i64 a0_7, .int .i64 a0_8, .int .i64 a0_9]] w fun e w' => e = .returned (.bool r) ∧ Below w.heap.size w w' := by
  have hu124 := Tryd.underlying124
  have HB := Aside0.mk (Below.refl w.heap.size w)
  have H : ((inst_Shape.f a0_0).bind fun t175 => (if t175 = 0 then (some false) else ((inst_has.f k t175).bind fun bt176 => ((inst_register.f a0_1 bt176.1).bind fun t180 => (if t180 = true then ((inst_register.f a0_2 bt176.2.1).bind fun t181 => (if t181 = true then ((inst_register.f a0_3 bt176.2.2.1).bind fun t182 => (if t182 = true then ((inst_register.f a0_4 bt176.2.2.2).bind fun t183 => (inst_Is.j0 k t175 (!t183) a0_0 a0_1 a0_2 a0_3 a0_4 a0_5 a0_6 a0_7 a0_8 a0_9)) else (inst_Is.j0 k t175 true a0_0 a0_1 a0_2 a0_3 a0_4 a0_5 a0_6 a0_7 a0_8 a0_9))) else (inst_Is.j0 k t175 true a0_0 a0_1 a0_2 a0_3 a0_4 a0_5 a0_6 a0_7 a0_8 a0_9))) else (inst_Is.j0 k t175 true a0_0 a0_1 a0_2 a0_3 a0_4 a0_5 a0_6 a0_7 a0_8 a0_9)))))) = some r := h
  clear h
  replace H := Option.bind_eq_some_iff.mp H
  obtain ⟨t175, A20, H⟩ := H
  replace H : (if t175 = 0 then (some false) else ((inst_has.f k t175).bind fun bt176 => ((inst_register.f a0_1 bt176.1).bind fun t180 => (if t180 = true then ((inst_register.f a0_2 bt176.2.1).bind fun t181 => (if t181 = true then ((inst_register.f a0_3 bt176.2.2.1).bind fun t182 => (if t182 = true then ((inst_register.f a0_4 bt176.2.2.2).bind fun t183 => (inst_Is.j0 k t175 (!t183) a0_0 a0_1 a0_2 a0_3 a0_4 a0_5 a0_6 a0_7 a0_8 a0_9)) else (inst_Is.j0 k t175 true a0_0 a0_1 a0_2 a0_3 a0_4 a0_5 a0_6 a0_7 a0_8 a0_9))) else (inst_Is.j0 k t175 true a0_0 a0_1 a0_2 a0_3 a0_4 a0_5 a0_6 a0_7 a0_8 a0_9))) else (inst_Is.j0 k t175 true a0_0 a0_1 a0_2 a0_3 a0_4 a0_5 a0_6 a0_7 a0_8 a0_9))))) = some r := H
  have A2 := Aside0.mk A20
  clear A20
  by_cases c3 : t175 = 0
  · rw [if_pos c3] at H
    have c3b0 : (t175 == 0) = true := beq_iff_eq.mpr c3
    have c3b1 : (t175 != 0) = false := bne_eq_false_iff_eq.mpr c3
    clear c3
    obtain rfl := Option.some.inj H
    go_enter Tryd.func77, Tryd.ntmps77
    go_wp2_with (first | ((with_reducible refine gate_dst (N := 1) rfl ?_); refine box_event ?hg (N := 1) ?hd (cs := #[.int .i64 a0_0, .int .i64 a0_1, .int .i64 a0_2, .int .i64 a0_3, .int .i64 a0_4, .int .i64 a0_5, .int .u64 a0_6, .int .i64 a0_7, .int .i64 a0_8, .int .i64 a0_9]) (t := 124) ?hr ?_; (case hd => rfl); (case hg => rfl); (case hr => first | (go_simp; done) | (go_simp; rfl)); intro gb174 hg w4 hbox hb; have n0_ := Aside0.mk (below_step (by repeat (first | (with_reducible first | exact HB.out | apply below_alloc | apply pw_below_drewN | apply below_drew1) | exact HB.out)) hb); have n1_ := Aside0.mk (hbox); have n2_ := Aside0.mk ((by rw [hg]; exact (below_size (by repeat (first | (with_reducible first | exact HB.out | apply below_alloc | apply pw_below_drewN | apply below_drew1) | exact HB.out))) : w.heap.size ≤ gb174)); have n3_ := Aside0.mk ((by rw [hg]; exact (below_size (by repeat (first | (with_reducible first | exact HB.out | apply below_alloc | apply pw_below_drewN | apply below_drew1) | exact HB.out))) : w.heap.size ≤ gb174)); clear HB; have HB := n0_; have BK174 := n1_; have GW174 := n2_; have GE174 := n3_; clear n0_ n1_ n2_ n3_; clear hb hbox hg; have hcz5_0 : w4.cell? ⟨gb174, 0, none⟩ = some (.int .i64 a0_0) := (blk_cell BK174.out 0).trans rfl; have hcz5_1 : w4.cell? ⟨gb174, 1, none⟩ = some (.int .i64 a0_1) := (blk_cell BK174.out 1).trans rfl; have hcz5_2 : w4.cell? ⟨gb174, 2, none⟩ = some (.int .i64 a0_2) := (blk_cell BK174.out 2).trans rfl; have hcz5_3 : w4.cell? ⟨gb174, 3, none⟩ = some (.int .i64 a0_3) := (blk_cell BK174.out 3).trans rfl; have hcz5_4 : w4.cell? ⟨gb174, 4, none⟩ = some (.int .i64 a0_4) := (blk_cell BK174.out 4).trans rfl; have hcz5_5 : w4.cell? ⟨gb174, 5, none⟩ = some (.int .i64 a0_5) := (blk_cell BK174.out 5).trans rfl; have hcz5_6 : w4.cell? ⟨gb174, 6, none⟩ = some (.int .u64 a0_6) := (blk_cell BK174.out 6).trans rfl; have hcz5_7 : w4.cell? ⟨gb174, 7, none⟩ = some (.int .i64 a0_7) := (blk_cell BK174.out 7).trans rfl; have hcz5_8 : w4.cell? ⟨gb174, 8, none⟩ = some (.int .i64 a0_8) := (blk_cell BK174.out 8).trans rfl; have hcz5_9 : w4.cell? ⟨gb174, 9, none⟩ = some (.int .i64 a0_9) := (blk_cell BK174.out 9).trans rfl; have hfz5_0 := blk_frozen BK174.out 0; have hfz5_1 := blk_frozen BK174.out 1; have hfz5_2 := blk_frozen BK174.out 2; have hfz5_3 := blk_frozen BK174.out 3; have hfz5_4 := blk_frozen BK174.out 4; have hfz5_5 := blk_frozen BK174.out 5; have hfz5_6 := blk_frozen BK174.out 6; have hfz5_7 := blk_frozen BK174.out 7; have hfz5_8 := blk_frozen BK174.out 8; have hfz5_9 := blk_frozen BK174.out 9) | ((with_reducible refine gate_callee (f := 85) rfl ?_); refine goesL_ (some 10) rfl rfl Tryd.func85 (by kernel_rfl) rfl #[.int .i64 a0_0] rfl (by (try simp only [List.map_toArray, List.map_cons, List.map_nil]); first | done | rfl | (simp only [List.length_drop, List.length_take]; rfl)) ?_; (with_reducible refine (inst_Shape.calls a0_0 t175 _ ?side1 A2.out).mono ?_); (case side1 => exact Glob.below hG (by repeat (first | (with_reducible first | exact HB.out | apply below_alloc | apply pw_below_drewN | apply below_drew1 | refine below_set ?_ GE174.out) | exact HB.out))); rintro e w' ⟨rfl, ⟨nd, rfl⟩⟩; refine ⟨_, rfl, ?_⟩))
    go_ret
    exact ⟨by first | rfl | (simp [errW_none, errW_some] <;> rfl) | (simp [*, errW_none, errW_some] <;> rfl), by repeat (first | (with_reducible first | exact HB.out | apply below_alloc | apply pw_below_drewN | apply below_drew1 | refine below_set ?_ GE174.out) | exact HB.out)⟩
  · rw [if_neg c3] at H
    have c3b0 : (t175 == 0) = false := beq_eq_false_iff_ne.mpr c3
    have c3b1 : (t175 != 0) = true := bne_iff_ne.mpr c3
    replace H := Option.bind_eq_some_iff.mp H
    obtain ⟨⟨t176, t177, t178, t179⟩, A60, H⟩ := H
    replace H : ((inst_register.f a0_1 t176).bind fun t180 => (if t180 = true then ((inst_register.f a0_2 t177).bind fun t181 => (if t181 = true then ((inst_register.f a0_3 t178).bind fun t182 => (if t182 = true then ((inst_register.f a0_4 t179).bind fun t183 => (inst_Is.j0 k t175 (!t183) a0_0 a0_1 a0_2 a0_3 a0_4 a0_5 a0_6 a0_7 a0_8 a0_9)) else (inst_Is.j0 k t175 true a0_0 a0_1 a0_2 a0_3 a0_4 a0_5 a0_6 a0_7 a0_8 a0_9))) else (inst_Is.j0 k t175 true a0_0 a0_1 a0_2 a0_3 a0_4 a0_5 a0_6 a0_7 a0_8 a0_9))) else (inst_Is.j0 k t175 true a0_0 a0_1 a0_2 a0_3 a0_4 a0_5 a0_6 a0_7 a0_8 a0_9))) = some r := H
    have A6 := Aside0.mk A60
    clear A60
    have HC7 := Aside0.mk H
    clear H
    go_enter Tryd.func77, Tryd.ntmps77
    go_upto_region 5 with (first | ((with_reducible refine gate_dst (N := 1) rfl ?_); refine box_event ?hg (N := 1) ?hd (cs := #[.int .i64 a0_0, .int .i64 a0_1, .int .i64 a0_2, .int .i64 a0_3, .int .i64 a0_4, .int .i64 a0_5, .int .u64 a0_6, .int .i64 a0_7, .int .i64 a0_8, .int .i64 a0_9]) (t := 124) ?hr ?_; (case hd => rfl); (case hg => rfl); (case hr => first | (go_simp; done) | (go_simp; rfl)); intro gb174 hg w8 hbox hb; have n0_ := Aside0.mk (below_step (by repeat (first | (with_reducible first | exact HB.out | apply below_alloc | apply pw_below_drewN | apply below_drew1) | exact HB.out)) hb); have n1_ := Aside0.mk (hbox); have n2_ := Aside0.mk ((by rw [hg]; exact (below_size (by repeat (first | (with_reducible first | exact HB.out | apply below_alloc | apply pw_below_drewN | apply below_drew1) | exact HB.out))) : w.heap.size ≤ gb174)); have n3_ := Aside0.mk ((by rw [hg]; exact (below_size (by repeat (first | (with_reducible first | exact HB.out | apply below_alloc | apply pw_below_drewN | apply below_drew1) | exact HB.out))) : w.heap.size ≤ gb174)); clear HB; have HB := n0_; have BK174 := n1_; have GW174 := n2_; have GE174 := n3_; clear n0_ n1_ n2_ n3_; clear hb hbox hg; have hcz9_0 : w8.cell? ⟨gb174, 0, none⟩ = some (.int .i64 a0_0) := (blk_cell BK174.out 0).trans rfl; have hcz9_1 : w8.cell? ⟨gb174, 1, none⟩ = some (.int .i64 a0_1) := (blk_cell BK174.out 1).trans rfl; have hcz9_2 : w8.cell? ⟨gb174, 2, none⟩ = some (.int .i64 a0_2) := (blk_cell BK174.out 2).trans rfl; have hcz9_3 : w8.cell? ⟨gb174, 3, none⟩ = some (.int .i64 a0_3) := (blk_cell BK174.out 3).trans rfl; have hcz9_4 : w8.cell? ⟨gb174, 4, none⟩ = some (.int .i64 a0_4) := (blk_cell BK174.out 4).trans rfl; have hcz9_5 : w8.cell? ⟨gb174, 5, none⟩ = some (.int .i64 a0_5) := (blk_cell BK174.out 5).trans rfl; have hcz9_6 : w8.cell? ⟨gb174, 6, none⟩ = some (.int .u64 a0_6) := (blk_cell BK174.out 6).trans rfl; have hcz9_7 : w8.cell? ⟨gb174, 7, none⟩ = some (.int .i64 a0_7) := (blk_cell BK174.out 7).trans rfl; have hcz9_8 : w8.cell? ⟨gb174, 8, none⟩ = some (.int .i64 a0_8) := (blk_cell BK174.out 8).trans rfl; have hcz9_9 : w8.cell? ⟨gb174, 9, none⟩ = some (.int .i64 a0_9) := (blk_cell BK174.out 9).trans rfl; have hfz9_0 := blk_frozen BK174.out 0; have hfz9_1 := blk_frozen BK174.out 1; have hfz9_2 := blk_frozen BK174.out 2; have hfz9_3 := blk_frozen BK174.out 3; have hfz9_4 := blk_frozen BK174.out 4; have hfz9_5 := blk_frozen BK174.out 5; have hfz9_6 := blk_frozen BK174.out 6; have hfz9_7 := blk_frozen BK174.out 7; have hfz9_8 := blk_frozen BK174.out 8; have hfz9_9 := blk_frozen BK174.out 9) | ((with_reducible refine gate_callee (f := 85) rfl ?_); refine goesL_ (some 10) rfl rfl Tryd.func85 (by kernel_rfl) rfl #[.int .i64 a0_0] rfl (by (try simp only [List.map_toArray, List.map_cons, List.map_nil]); first | done | rfl | (simp only [List.length_drop, List.length_take]; rfl)) ?_; (with_reducible refine (inst_Shape.calls a0_0 t175 _ ?side1 A2.out).mono ?_); (case side1 => exact Glob.below hG (by repeat (first | (with_reducible first | exact HB.out | apply below_alloc | apply pw_below_drewN | apply below_drew1 | refine below_set ?_ GE174.out) | exact HB.out))); rintro e w' ⟨rfl, ⟨nd, rfl⟩⟩; refine ⟨_, rfl, ?_⟩) | ((with_reducible refine gate_callee (f := 89) rfl ?_); refine goesL_ (some 15) rfl rfl Tryd.func89 (by kernel_rfl) rfl #[.int .i64 t175] rfl (by (try simp only [List.map_toArray, List.map_cons, List.map_nil]); first | done | rfl | (simp only [List.length_drop, List.length_take]; rfl)) ?_; (with_reducible refine (inst_has.calls k t175 t176 t177 t178 t179 _ A6.out).mono ?_); rintro e w' ⟨rfl, ⟨nd, rfl⟩⟩; refine ⟨_, rfl, ?_⟩))
    (try simp only [Act.put, List.setIfInBounds_toArray, List.set_cons_zero, List.set_cons_succ])
    go_cut [45] (fun v45 wc => ∃ (kq : Nat) (x45_6 : Bool), v45 = .bool x45_6 ∧ Aside0 (inst_Is.j0 kq t175 x45_6 a0_0 a0_1 a0_2 a0_3 a0_4 a0_5 a0_6 a0_7 a0_8 a0_9 = some r) ∧ Aside0 (kq ≤ k) ∧ Aside0 (wc.heap[gb174]? = some (.cells #[.int .i64 a0_0, .int .i64 a0_1, .int .i64 a0_2, .int .i64 a0_3, .int .i64 a0_4, .int .i64 a0_5, .int .u64 a0_6, .int .i64 a0_7, .int .i64 a0_8, .int .i64 a0_9] 124 (0, 0))) ∧ Aside0 (Below w.heap.size w wc))
    case first =>
      have H := HC7.out
      clear HC7
      replace H := Option.bind_eq_some_iff.mp H
      obtain ⟨t180, A100, H⟩ := H
      replace H : (if t180 = true then ((inst_register.f a0_2 t177).bind fun t181 => (if t181 = true then ((inst_register.f a0_3 t178).bind fun t182 => (if t182 = true then ((inst_register.f a0_4 t179).bind fun t183 => (inst_Is.j0 k t175 (!t183) a0_0 a0_1 a0_2 a0_3 a0_4 a0_5 a0_6 a0_7 a0_8 a0_9)) else (inst_Is.j0 k t175 true a0_0 a0_1 a0_2 a0_3 a0_4 a0_5 a0_6 a0_7 a0_8 a0_9))) else (inst_Is.j0 k t175 true a0_0 a0_1 a0_2 a0_3 a0_4 a0_5 a0_6 a0_7 a0_8 a0_9))) else (inst_Is.j0 k t175 true a0_0 a0_1 a0_2 a0_3 a0_4 a0_5 a0_6 a0_7 a0_8 a0_9)) = some r := H
      have A10 := Aside0.mk A100
      clear A100
      by_cases c11 : t180 = true
      · subst c11
        have H1 : ((inst_register.f a0_2 t177).bind fun t181 => (if t181 = true then ((inst_register.f a0_3 t178).bind fun t182 => (if t182 = true then ((inst_register.f a0_4 t179).bind fun t183 => (inst_Is.j0 k t175 (!t183) a0_0 a0_1 a0_2 a0_3 a0_4 a0_5 a0_6 a0_7 a0_8 a0_9)) else (inst_Is.j0 k t175 true a0_0 a0_1 a0_2 a0_3 a0_4 a0_5 a0_6 a0_7 a0_8 a0_9))) else (inst_Is.j0 k t175 true a0_0 a0_1 a0_2 a0_3 a0_4 a0_5 a0_6 a0_7 a0_8 a0_9))) = some r := by rw [if_pos rfl] at H; exact H
        clear H
        have H := H1
        clear H1
        replace H := Option.bind_eq_some_iff.mp H
        obtain ⟨t181, A120, H⟩ := H
        replace H : (if t181 = true then ((inst_register.f a0_3 t178).bind fun t182 => (if t182 = true then ((inst_register.f a0_4 t179).bind fun t183 => (inst_Is.j0 k t175 (!t183) a0_0 a0_1 a0_2 a0_3 a0_4 a0_5 a0_6 a0_7 a0_8 a0_9)) else (inst_Is.j0 k t175 true a0_0 a0_1 a0_2 a0_3 a0_4 a0_5 a0_6 a0_7 a0_8 a0_9))) else (inst_Is.j0 k t175 true a0_0 a0_1 a0_2 a0_3 a0_4 a0_5 a0_6 a0_7 a0_8 a0_9)) = some r := H
        have A12 := Aside0.mk A120
        clear A120
        by_cases c13 : t181 = true
        · subst c13
          have H1 : ((inst_register.f a0_3 t178).bind fun t182 => (if t182 = true then ((inst_register.f a0_4 t179).bind fun t183 => (inst_Is.j0 k t175 (!t183) a0_0 a0_1 a0_2 a0_3 a0_4 a0_5 a0_6 a0_7 a0_8 a0_9)) else (inst_Is.j0 k t175 true a0_0 a0_1 a0_2 a0_3 a0_4 a0_5 a0_6 a0_7 a0_8 a0_9))) = some r := by rw [if_pos rfl] at H; exact H
          clear H
          have H := H1
          clear H1
          replace H := Option.bind_eq_some_iff.mp H
          obtain ⟨t182, A140, H⟩ := H
          replace H : (if t182 = true then ((inst_register.f a0_4 t179).bind fun t183 => (inst_Is.j0 k t175 (!t183) a0_0 a0_1 a0_2 a0_3 a0_4 a0_5 a0_6 a0_7 a0_8 a0_9)) else (inst_Is.j0 k t175 true a0_0 a0_1 a0_2 a0_3 a0_4 a0_5 a0_6 a0_7 a0_8 a0_9)) = some r := H
          have A14 := Aside0.mk A140
          clear A140
          by_cases c15 : t182 = true
          · subst c15
            have H1 : ((inst_register.f a0_4 t179).bind fun t183 => (inst_Is.j0 k t175 (!t183) a0_0 a0_1 a0_2 a0_3 a0_4 a0_5 a0_6 a0_7 a0_8 a0_9)) = some r := by rw [if_pos rfl] at H; exact H
            clear H
            have H := H1
            clear H1
            replace H := Option.bind_eq_some_iff.mp H
            obtain ⟨t183, A160, H⟩ := H
            replace H : (inst_Is.j0 k t175 (!t183) a0_0 a0_1 a0_2 a0_3 a0_4 a0_5 a0_6 a0_7 a0_8 a0_9) = some r := H
            have A16 := Aside0.mk A160
            clear A160
            have H' := Aside0.mk H
            clear H
            have hcz17_0 : w8.cell? ⟨gb174, 0, none⟩ = some (.int .i64 a0_0) := (blk_cell BK174.out 0).trans rfl
            have hcz17_1 : w8.cell? ⟨gb174, 1, none⟩ = some (.int .i64 a0_1) := (blk_cell BK174.out 1).trans rfl
            have hcz17_2 : w8.cell? ⟨gb174, 2, none⟩ = some (.int .i64 a0_2) := (blk_cell BK174.out 2).trans rfl
            have hcz17_3 : w8.cell? ⟨gb174, 3, none⟩ = some (.int .i64 a0_3) := (blk_cell BK174.out 3).trans rfl
            have hcz17_4 : w8.cell? ⟨gb174, 4, none⟩ = some (.int .i64 a0_4) := (blk_cell BK174.out 4).trans rfl
            have hcz17_5 : w8.cell? ⟨gb174, 5, none⟩ = some (.int .i64 a0_5) := (blk_cell BK174.out 5).trans rfl
            have hcz17_6 : w8.cell? ⟨gb174, 6, none⟩ = some (.int .u64 a0_6) := (blk_cell BK174.out 6).trans rfl
            have hcz17_7 : w8.cell? ⟨gb174, 7, none⟩ = some (.int .i64 a0_7) := (blk_cell BK174.out 7).trans rfl
            have hcz17_8 : w8.cell? ⟨gb174, 8, none⟩ = some (.int .i64 a0_8) := (blk_cell BK174.out 8).trans rfl
            have hcz17_9 : w8.cell? ⟨gb174, 9, none⟩ = some (.int .i64 a0_9) := (blk_cell BK174.out 9).trans rfl
            have hfz17_0 := blk_frozen BK174.out 0
            have hfz17_1 := blk_frozen BK174.out 1
            have hfz17_2 := blk_frozen BK174.out 2
            have hfz17_3 := blk_frozen BK174.out 3
            have hfz17_4 := blk_frozen BK174.out 4
            have hfz17_5 := blk_frozen BK174.out 5
            have hfz17_6 := blk_frozen BK174.out 6
            have hfz17_7 := blk_frozen BK174.out 7
            have hfz17_8 := blk_frozen BK174.out 8
            have hfz17_9 := blk_frozen BK174.out 9
            go_wp2_with (first | ((with_reducible refine gate_callee (f := 90) rfl ?_); refine goesL_ (some 23) rfl rfl Tryd.func90 (by kernel_rfl) rfl #[.int .i64 a0_1, .bool t176] rfl (by (try simp only [List.map_toArray, List.map_cons, List.map_nil]); first | done | rfl | (simp only [List.length_drop, List.length_take]; rfl)) ?_; (with_reducible refine (inst_register.calls a0_1 t176 true _ A10.out).mono ?_); rintro e w' ⟨rfl, ⟨nd, rfl⟩⟩; refine ⟨_, rfl, ?_⟩) | (go_at_call 90; (with_reducible refine (inst_register.calls a0_2 t177 true _ A12.out).mono ?_); rintro e w' ⟨rfl, ⟨nd, rfl⟩⟩) | (go_at_call 90; (with_reducible refine (inst_register.calls a0_3 t178 true _ A14.out).mono ?_); rintro e w' ⟨rfl, ⟨nd, rfl⟩⟩) | (go_at_call 90; (with_reducible refine (inst_register.calls a0_4 t179 t183 _ A16.out).mono ?_); rintro e w' ⟨rfl, ⟨nd, rfl⟩⟩))
            go_meet
            case rel => exact ⟨_, (!t183), (by first | rfl | (simp; done) | (simp [*]; done)), H', ⟨by first | omega | exact Nat.le_refl _⟩, ⟨by (with_reducible repeat (first | refine blk_drewN ?_ _ | refine blk_drew ?_ | refine blk_alloc ?_ _)); exact BK174.out⟩, ⟨by repeat (first | (with_reducible first | exact HB.out | apply below_alloc | apply pw_below_drewN | apply below_drew1 | refine below_set ?_ GE174.out) | exact HB.out)⟩⟩
          · replace c15 := Bool.eq_false_iff.mpr c15
            subst c15
            have H1 : (inst_Is.j0 k t175 true a0_0 a0_1 a0_2 a0_3 a0_4 a0_5 a0_6 a0_7 a0_8 a0_9) = some r := by rw [if_neg (show ¬ (false = true) by decide)] at H; exact H
            clear H
            have H := H1
            clear H1
            have H' := Aside0.mk H
            clear H
            have hcz18_0 : w8.cell? ⟨gb174, 0, none⟩ = some (.int .i64 a0_0) := (blk_cell BK174.out 0).trans rfl
            have hcz18_1 : w8.cell? ⟨gb174, 1, none⟩ = some (.int .i64 a0_1) := (blk_cell BK174.out 1).trans rfl
            have hcz18_2 : w8.cell? ⟨gb174, 2, none⟩ = some (.int .i64 a0_2) := (blk_cell BK174.out 2).trans rfl
            have hcz18_3 : w8.cell? ⟨gb174, 3, none⟩ = some (.int .i64 a0_3) := (blk_cell BK174.out 3).trans rfl
            have hcz18_4 : w8.cell? ⟨gb174, 4, none⟩ = some (.int .i64 a0_4) := (blk_cell BK174.out 4).trans rfl
            have hcz18_5 : w8.cell? ⟨gb174, 5, none⟩ = some (.int .i64 a0_5) := (blk_cell BK174.out 5).trans rfl
            have hcz18_6 : w8.cell? ⟨gb174, 6, none⟩ = some (.int .u64 a0_6) := (blk_cell BK174.out 6).trans rfl
            have hcz18_7 : w8.cell? ⟨gb174, 7, none⟩ = some (.int .i64 a0_7) := (blk_cell BK174.out 7).trans rfl
            have hcz18_8 : w8.cell? ⟨gb174, 8, none⟩ = some (.int .i64 a0_8) := (blk_cell BK174.out 8).trans rfl
            have hcz18_9 : w8.cell? ⟨gb174, 9, none⟩ = some (.int .i64 a0_9) := (blk_cell BK174.out 9).trans rfl
            have hfz18_0 := blk_frozen BK174.out 0
            have hfz18_1 := blk_frozen BK174.out 1
            have hfz18_2 := blk_frozen BK174.out 2
            have hfz18_3 := blk_frozen BK174.out 3
            have hfz18_4 := blk_frozen BK174.out 4
            have hfz18_5 := blk_frozen BK174.out 5
            have hfz18_6 := blk_frozen BK174.out 6
            have hfz18_7 := blk_frozen BK174.out 7
            have hfz18_8 := blk_frozen BK174.out 8
            have hfz18_9 := blk_frozen BK174.out 9
            go_wp2_with (first | ((with_reducible refine gate_callee (f := 90) rfl ?_); refine goesL_ (some 23) rfl rfl Tryd.func90 (by kernel_rfl) rfl #[.int .i64 a0_1, .bool t176] rfl (by (try simp only [List.map_toArray, List.map_cons, List.map_nil]); first | done | rfl | (simp only [List.length_drop, List.length_take]; rfl)) ?_; (with_reducible refine (inst_register.calls a0_1 t176 true _ A10.out).mono ?_); rintro e w' ⟨rfl, ⟨nd, rfl⟩⟩; refine ⟨_, rfl, ?_⟩) | (go_at_call 90; (with_reducible refine (inst_register.calls a0_2 t177 true _ A12.out).mono ?_); rintro e w' ⟨rfl, ⟨nd, rfl⟩⟩) | (go_at_call 90; (with_reducible refine (inst_register.calls a0_3 t178 false _ A14.out).mono ?_); rintro e w' ⟨rfl, ⟨nd, rfl⟩⟩))
            go_meet
            case rel => exact ⟨_, (true), (by first | rfl | (simp; done) | (simp [*]; done)), H', ⟨by first | omega | exact Nat.le_refl _⟩, ⟨by (with_reducible repeat (first | refine blk_drewN ?_ _ | refine blk_drew ?_ | refine blk_alloc ?_ _)); exact BK174.out⟩, ⟨by repeat (first | (with_reducible first | exact HB.out | apply below_alloc | apply pw_below_drewN | apply below_drew1 | refine below_set ?_ GE174.out) | exact HB.out)⟩⟩
        · replace c13 := Bool.eq_false_iff.mpr c13
          subst c13
          have H1 : (inst_Is.j0 k t175 true a0_0 a0_1 a0_2 a0_3 a0_4 a0_5 a0_6 a0_7 a0_8 a0_9) = some r := by rw [if_neg (show ¬ (false = true) by decide)] at H; exact H
          clear H
          have H := H1
          clear H1
          have H' := Aside0.mk H
          clear H
          have hcz19_0 : w8.cell? ⟨gb174, 0, none⟩ = some (.int .i64 a0_0) := (blk_cell BK174.out 0).trans rfl
          have hcz19_1 : w8.cell? ⟨gb174, 1, none⟩ = some (.int .i64 a0_1) := (blk_cell BK174.out 1).trans rfl
          have hcz19_2 : w8.cell? ⟨gb174, 2, none⟩ = some (.int .i64 a0_2) := (blk_cell BK174.out 2).trans rfl
          have hcz19_3 : w8.cell? ⟨gb174, 3, none⟩ = some (.int .i64 a0_3) := (blk_cell BK174.out 3).trans rfl
          have hcz19_4 : w8.cell? ⟨gb174, 4, none⟩ = some (.int .i64 a0_4) := (blk_cell BK174.out 4).trans rfl
          have hcz19_5 : w8.cell? ⟨gb174, 5, none⟩ = some (.int .i64 a0_5) := (blk_cell BK174.out 5).trans rfl
          have hcz19_6 : w8.cell? ⟨gb174, 6, none⟩ = some (.int .u64 a0_6) := (blk_cell BK174.out 6).trans rfl
          have hcz19_7 : w8.cell? ⟨gb174, 7, none⟩ = some (.int .i64 a0_7) := (blk_cell BK174.out 7).trans rfl
          have hcz19_8 : w8.cell? ⟨gb174, 8, none⟩ = some (.int .i64 a0_8) := (blk_cell BK174.out 8).trans rfl
          have hcz19_9 : w8.cell? ⟨gb174, 9, none⟩ = some (.int .i64 a0_9) := (blk_cell BK174.out 9).trans rfl
          have hfz19_0 := blk_frozen BK174.out 0
          have hfz19_1 := blk_frozen BK174.out 1
          have hfz19_2 := blk_frozen BK174.out 2
          have hfz19_3 := blk_frozen BK174.out 3
          have hfz19_4 := blk_frozen BK174.out 4
          have hfz19_5 := blk_frozen BK174.out 5
          have hfz19_6 := blk_frozen BK174.out 6
          have hfz19_7 := blk_frozen BK174.out 7
          have hfz19_8 := blk_frozen BK174.out 8
          have hfz19_9 := blk_frozen BK174.out 9
          go_wp2_with (first | ((with_reducible refine gate_callee (f := 90) rfl ?_); refine goesL_ (some 23) rfl rfl Tryd.func90 (by kernel_rfl) rfl #[.int .i64 a0_1, .bool t176] rfl (by (try simp only [List.map_toArray, List.map_cons, List.map_nil]); first | done | rfl | (simp only [List.length_drop, List.length_take]; rfl)) ?_; (with_reducible refine (inst_register.calls a0_1 t176 true _ A10.out).mono ?_); rintro e w' ⟨rfl, ⟨nd, rfl⟩⟩; refine ⟨_, rfl, ?_⟩) | (go_at_call 90; (with_reducible refine (inst_register.calls a0_2 t177 false _ A12.out).mono ?_); rintro e w' ⟨rfl, ⟨nd, rfl⟩⟩))
          go_meet
          case rel => exact ⟨_, (true), (by first | rfl | (simp; done) | (simp [*]; done)), H', ⟨by first | omega | exact Nat.le_refl _⟩, ⟨by (with_reducible repeat (first | refine blk_drewN ?_ _ | refine blk_drew ?_ | refine blk_alloc ?_ _)); exact BK174.out⟩, ⟨by repeat (first | (with_reducible first | exact HB.out | apply below_alloc | apply pw_below_drewN | apply below_drew1 | refine below_set ?_ GE174.out) | exact HB.out)⟩⟩
      · replace c11 := Bool.eq_false_iff.mpr c11
        subst c11
        have H1 : (inst_Is.j0 k t175 true a0_0 a0_1 a0_2 a0_3 a0_4 a0_5 a0_6 a0_7 a0_8 a0_9) = some r := by rw [if_neg (show ¬ (false = true) by decide)] at H; exact H
        clear H
        have H := H1
        clear H1
        have H' := Aside0.mk H
        clear H
        have hcz20_0 : w8.cell? ⟨gb174, 0, none⟩ = some (.int .i64 a0_0) := (blk_cell BK174.out 0).trans rfl
        have hcz20_1 : w8.cell? ⟨gb174, 1, none⟩ = some (.int .i64 a0_1) := (blk_cell BK174.out 1).trans rfl
        have hcz20_2 : w8.cell? ⟨gb174, 2, none⟩ = some (.int .i64 a0_2) := (blk_cell BK174.out 2).trans rfl
        have hcz20_3 : w8.cell? ⟨gb174, 3, none⟩ = some (.int .i64 a0_3) := (blk_cell BK174.out 3).trans rfl
        have hcz20_4 : w8.cell? ⟨gb174, 4, none⟩ = some (.int .i64 a0_4) := (blk_cell BK174.out 4).trans rfl
        have hcz20_5 : w8.cell? ⟨gb174, 5, none⟩ = some (.int .i64 a0_5) := (blk_cell BK174.out 5).trans rfl
        have hcz20_6 : w8.cell? ⟨gb174, 6, none⟩ = some (.int .u64 a0_6) := (blk_cell BK174.out 6).trans rfl
        have hcz20_7 : w8.cell? ⟨gb174, 7, none⟩ = some (.int .i64 a0_7) := (blk_cell BK174.out 7).trans rfl
        have hcz20_8 : w8.cell? ⟨gb174, 8, none⟩ = some (.int .i64 a0_8) := (blk_cell BK174.out 8).trans rfl
        have hcz20_9 : w8.cell? ⟨gb174, 9, none⟩ = some (.int .i64 a0_9) := (blk_cell BK174.out 9).trans rfl
        have hfz20_0 := blk_frozen BK174.out 0
        have hfz20_1 := blk_frozen BK174.out 1
        have hfz20_2 := blk_frozen BK174.out 2
        have hfz20_3 := blk_frozen BK174.out 3
        have hfz20_4 := blk_frozen BK174.out 4
        have hfz20_5 := blk_frozen BK174.out 5
        have hfz20_6 := blk_frozen BK174.out 6
        have hfz20_7 := blk_frozen BK174.out 7
        have hfz20_8 := blk_frozen BK174.out 8
        have hfz20_9 := blk_frozen BK174.out 9
        go_wp2_with (first | ((with_reducible refine gate_callee (f := 90) rfl ?_); refine goesL_ (some 23) rfl rfl Tryd.func90 (by kernel_rfl) rfl #[.int .i64 a0_1, .bool t176] rfl (by (try simp only [List.map_toArray, List.map_cons, List.map_nil]); first | done | rfl | (simp only [List.length_drop, List.length_take]; rfl)) ?_; (with_reducible refine (inst_register.calls a0_1 t176 false _ A10.out).mono ?_); rintro e w' ⟨rfl, ⟨nd, rfl⟩⟩; refine ⟨_, rfl, ?_⟩))
        go_meet
        case rel => exact ⟨_, (true), (by first | rfl | (simp; done) | (simp [*]; done)), H', ⟨by first | omega | exact Nat.le_refl _⟩, ⟨by (with_reducible repeat (first | refine blk_drewN ?_ _ | refine blk_drew ?_ | refine blk_alloc ?_ _)); exact BK174.out⟩, ⟨by repeat (first | (with_reducible first | exact HB.out | apply below_alloc | apply pw_below_drewN | apply below_drew1 | refine below_set ?_ GE174.out) | exact HB.out)⟩⟩
    case rest =>
      clear HC7
      try clear c1
      try clear p2
      try clear c3
      try clear c3b0
      try clear c3b1
      try clear c7
      try clear c8
      try clear c9
      try clear c11
      try clear c13
      try clear c15
      try clear hcz17_0
      try clear hcz17_1
      try clear hcz17_2
      try clear hcz17_3
      try clear hcz17_4
      try clear hcz17_5
      try clear hcz17_6
      try clear hcz17_7
      try clear hcz17_8
      try clear hcz17_9
      try clear hcz18_0
      try clear hcz18_1
      try clear hcz18_2
      try clear hcz18_3
      try clear hcz18_4
      try clear hcz18_5
      try clear hcz18_6
      try clear hcz18_7
      try clear hcz18_8
      try clear hcz18_9
      try clear hcz19_0
      try clear hcz19_1
      try clear hcz19_2
      try clear hcz19_3
      try clear hcz19_4
      try clear hcz19_5
      try clear hcz19_6
      try clear hcz19_7
      try clear hcz19_8
      try clear hcz19_9
      try clear hcz20_0
      try clear hcz20_1
      try clear hcz20_2
      try clear hcz20_3
      try clear hcz20_4
      try clear hcz20_5
      try clear hcz20_6
      try clear hcz20_7
      try clear hcz20_8
      try clear hcz20_9
      try clear hcz5_0
      try clear hcz5_1
      try clear hcz5_2
      try clear hcz5_3
      try clear hcz5_4
      try clear hcz5_5
      try clear hcz5_6
      try clear hcz5_7
      try clear hcz5_8
      try clear hcz5_9
      try clear hcz9_0
      try clear hcz9_1
      try clear hcz9_2
      try clear hcz9_3
      try clear hcz9_4
      try clear hcz9_5
      try clear hcz9_6
      try clear hcz9_7
      try clear hcz9_8
      try clear hcz9_9
      try clear hfz17_0
      try clear hfz17_1
      try clear hfz17_2
      try clear hfz17_3
      try clear hfz17_4
      try clear hfz17_5
      try clear hfz17_6
      try clear hfz17_7
      try clear hfz17_8
      try clear hfz17_9
      try clear hfz18_0
      try clear hfz18_1
      try clear hfz18_2
      try clear hfz18_3
      try clear hfz18_4
      try clear hfz18_5
      try clear hfz18_6
      try clear hfz18_7
      try clear hfz18_8
      try clear hfz18_9
      try clear hfz19_0
      try clear hfz19_1
      try clear hfz19_2
      try clear hfz19_3
      try clear hfz19_4
      try clear hfz19_5
      try clear hfz19_6
      try clear hfz19_7
      try clear hfz19_8
      try clear hfz19_9
      try clear hfz20_0
      try clear hfz20_1
      try clear hfz20_2
      try clear hfz20_3
      try clear hfz20_4
      try clear hfz20_5
      try clear hfz20_6
      try clear hfz20_7
      try clear hfz20_8
      try clear hfz20_9
      try clear hfz5_0
      try clear hfz5_1
      try clear hfz5_2
      try clear hfz5_3
      try clear hfz5_4
      try clear hfz5_5
      try clear hfz5_6
      try clear hfz5_7
      try clear hfz5_8
      try clear hfz5_9
      try clear hfz9_0
      try clear hfz9_1
      try clear hfz9_2
      try clear hfz9_3
      try clear hfz9_4
      try clear hfz9_5
      try clear hfz9_6
      try clear hfz9_7
      try clear hfz9_8
      try clear hfz9_9
      obtain ⟨kq, x45_6, rfl, HA, HJ6, BK174, HB⟩ := hcut
      cases kq with
      | zero => exact absurd HA.out (by simp [inst_Is.j0])
      | succ kj6 =>
        have H := HA.out
        clear HA
        simp only [inst_Is.j0] at H
        by_cases c21 : x45_6 = true
        · subst c21
          have H1 : (some false) = some r := by rw [if_pos rfl] at H; exact H
          clear H
          have H := H1
          clear H1
          obtain rfl := Option.some.inj H
          go_wp2
          go_ret
          exact ⟨by first | rfl | (simp [errW_none, errW_some] <;> rfl) | (simp [*, errW_none, errW_some] <;> rfl), by repeat (first | (with_reducible first | exact HB.out | apply below_alloc | apply pw_below_drewN | apply below_drew1 | refine below_set ?_ GE174.out) | exact HB.out)⟩
        · replace c21 := Bool.eq_false_iff.mpr c21
          subst c21
          have H1 : (if t175 = 3 then ((mask_Is.f kj6 a0_6).bind fun t184 => (if t184 = true then ((inst_number.f kj6 t175 a0_5).bind fun t185 => (if t185 = true then ((inst_amount.f t175 a0_7 a0_8).bind fun t186 => (if t186 = true then ((inst_cond.f t175 a0_9).bind fun t187 => (some t187)) else (some false))) else (some false))) else (some false))) else (if a0_6 = 0 then ((inst_number.f kj6 t175 a0_5).bind fun t188 => (if t188 = true then ((inst_amount.f t175 a0_7 a0_8).bind fun t189 => (if t189 = true then ((inst_cond.f t175 a0_9).bind fun t190 => (some t190)) else (some false))) else (some false))) else (some false))) = some r := by rw [if_neg (show ¬ (false = true) by decide)] at H; exact H
          clear H
          have H := H1
          clear H1
          by_cases c22 : t175 = 3
          · rw [if_pos c22] at H
            have c22b0 : (t175 == 3) = true := beq_iff_eq.mpr c22
            have c22b1 : (t175 != 3) = false := bne_eq_false_iff_eq.mpr c22
            clear c22
            replace H := Option.bind_eq_some_iff.mp H
            obtain ⟨t184, A230, H⟩ := H
            replace H : (if t184 = true then ((inst_number.f kj6 t175 a0_5).bind fun t185 => (if t185 = true then ((inst_amount.f t175 a0_7 a0_8).bind fun t186 => (if t186 = true then ((inst_cond.f t175 a0_9).bind fun t187 => (some t187)) else (some false))) else (some false))) else (some false)) = some r := H
            have A23 := Aside0.mk A230
            clear A230
            by_cases c24 : t184 = true
            · subst c24
              have H1 : ((inst_number.f kj6 t175 a0_5).bind fun t185 => (if t185 = true then ((inst_amount.f t175 a0_7 a0_8).bind fun t186 => (if t186 = true then ((inst_cond.f t175 a0_9).bind fun t187 => (some t187)) else (some false))) else (some false))) = some r := by rw [if_pos rfl] at H; exact H
              clear H
              have H := H1
              clear H1
              replace H := Option.bind_eq_some_iff.mp H
              obtain ⟨t185, A250, H⟩ := H
              replace H : (if t185 = true then ((inst_amount.f t175 a0_7 a0_8).bind fun t186 => (if t186 = true then ((inst_cond.f t175 a0_9).bind fun t187 => (some t187)) else (some false))) else (some false)) = some r := H
              have A25 := Aside0.mk A250
              clear A250
              by_cases c26 : t185 = true
              · subst c26
                have H1 : ((inst_amount.f t175 a0_7 a0_8).bind fun t186 => (if t186 = true then ((inst_cond.f t175 a0_9).bind fun t187 => (some t187)) else (some false))) = some r := by rw [if_pos rfl] at H; exact H
                clear H
                have H := H1
                clear H1
                replace H := Option.bind_eq_some_iff.mp H
                obtain ⟨t186, A270, H⟩ := H
                replace H : (if t186 = true then ((inst_cond.f t175 a0_9).bind fun t187 => (some t187)) else (some false)) = some r := H
                have A27 := Aside0.mk A270
                clear A270
                by_cases c28 : t186 = true
                · subst c28
                  have H1 : ((inst_cond.f t175 a0_9).bind fun t187 => (some t187)) = some r := by rw [if_pos rfl] at H; exact H
                  clear H
                  have H := H1
                  clear H1
                  replace H := Option.bind_eq_some_iff.mp H
                  obtain ⟨t187, A290, H⟩ := H
                  replace H : (some t187) = some r := H
                  have A29 := Aside0.mk A290
                  clear A290
                  obtain rfl := Option.some.inj H
                  have hcz30_0 : wc.cell? ⟨gb174, 0, none⟩ = some (.int .i64 a0_0) := (blk_cell BK174.out 0).trans rfl
                  have hcz30_1 : wc.cell? ⟨gb174, 1, none⟩ = some (.int .i64 a0_1) := (blk_cell BK174.out 1).trans rfl
                  have hcz30_2 : wc.cell? ⟨gb174, 2, none⟩ = some (.int .i64 a0_2) := (blk_cell BK174.out 2).trans rfl
                  have hcz30_3 : wc.cell? ⟨gb174, 3, none⟩ = some (.int .i64 a0_3) := (blk_cell BK174.out 3).trans rfl
                  have hcz30_4 : wc.cell? ⟨gb174, 4, none⟩ = some (.int .i64 a0_4) := (blk_cell BK174.out 4).trans rfl
                  have hcz30_5 : wc.cell? ⟨gb174, 5, none⟩ = some (.int .i64 a0_5) := (blk_cell BK174.out 5).trans rfl
                  have hcz30_6 : wc.cell? ⟨gb174, 6, none⟩ = some (.int .u64 a0_6) := (blk_cell BK174.out 6).trans rfl
                  have hcz30_7 : wc.cell? ⟨gb174, 7, none⟩ = some (.int .i64 a0_7) := (blk_cell BK174.out 7).trans rfl
                  have hcz30_8 : wc.cell? ⟨gb174, 8, none⟩ = some (.int .i64 a0_8) := (blk_cell BK174.out 8).trans rfl
                  have hcz30_9 : wc.cell? ⟨gb174, 9, none⟩ = some (.int .i64 a0_9) := (blk_cell BK174.out 9).trans rfl
                  have hfz30_0 := blk_frozen BK174.out 0
                  have hfz30_1 := blk_frozen BK174.out 1
                  have hfz30_2 := blk_frozen BK174.out 2
                  have hfz30_3 := blk_frozen BK174.out 3
                  have hfz30_4 := blk_frozen BK174.out 4
                  have hfz30_5 := blk_frozen BK174.out 5
                  have hfz30_6 := blk_frozen BK174.out 6
                  have hfz30_7 := blk_frozen BK174.out 7
                  have hfz30_8 := blk_frozen BK174.out 8
                  have hfz30_9 := blk_frozen BK174.out 9
                  go_wp2_with (first | ((with_reducible refine gate_callee (f := 91) rfl ?_); refine goesL_ (some 50) rfl rfl Tryd.func91 (by kernel_rfl) rfl #[.int .u64 a0_6] rfl (by (try simp only [List.map_toArray, List.map_cons, List.map_nil]); first | done | rfl | (simp only [List.length_drop, List.length_take]; rfl)) ?_; (with_reducible refine (mask_Is.calls kj6 a0_6 true _ A23.out).mono ?_); rintro e w31 ⟨rfl, hb⟩; refine ⟨_, rfl, ?_⟩; have n0_ := Aside0.mk (blk_below (g := gb174) (o := .cells #[.int .i64 a0_0, .int .i64 a0_1, .int .i64 a0_2, .int .i64 a0_3, .int .i64 a0_4, .int .i64 a0_5, .int .u64 a0_6, .int .i64 a0_7, .int .i64 a0_8, .int .i64 a0_9] 124 (0, 0)) (by (with_reducible repeat (first | refine blk_drewN ?_ _ | refine blk_drew ?_ | refine blk_alloc ?_ _)); exact BK174.out) hb); have n1_ := Aside0.mk (below_step (by repeat (first | (with_reducible first | exact HB.out | apply below_alloc | apply pw_below_drewN | apply below_drew1 | refine below_set ?_ GE174.out) | exact HB.out)) hb); clear BK174; clear HB; have BK174 := n0_; have HB := n1_; clear n0_ n1_; (try clear hb); (try clear hb2); (try clear hk); (try clear hi); have hcz32_0 : w31.cell? ⟨gb174, 0, none⟩ = some (.int .i64 a0_0) := (blk_cell BK174.out 0).trans rfl; have hcz32_1 : w31.cell? ⟨gb174, 1, none⟩ = some (.int .i64 a0_1) := (blk_cell BK174.out 1).trans rfl; have hcz32_2 : w31.cell? ⟨gb174, 2, none⟩ = some (.int .i64 a0_2) := (blk_cell BK174.out 2).trans rfl; have hcz32_3 : w31.cell? ⟨gb174, 3, none⟩ = some (.int .i64 a0_3) := (blk_cell BK174.out 3).trans rfl; have hcz32_4 : w31.cell? ⟨gb174, 4, none⟩ = some (.int .i64 a0_4) := (blk_cell BK174.out 4).trans rfl; have hcz32_5 : w31.cell? ⟨gb174, 5, none⟩ = some (.int .i64 a0_5) := (blk_cell BK174.out 5).trans rfl; have hcz32_6 : w31.cell? ⟨gb174, 6, none⟩ = some (.int .u64 a0_6) := (blk_cell BK174.out 6).trans rfl; have hcz32_7 : w31.cell? ⟨gb174, 7, none⟩ = some (.int .i64 a0_7) := (blk_cell BK174.out 7).trans rfl; have hcz32_8 : w31.cell? ⟨gb174, 8, none⟩ = some (.int .i64 a0_8) := (blk_cell BK174.out 8).trans rfl; have hcz32_9 : w31.cell? ⟨gb174, 9, none⟩ = some (.int .i64 a0_9) := (blk_cell BK174.out 9).trans rfl; have hfz32_0 := blk_frozen BK174.out 0; have hfz32_1 := blk_frozen BK174.out 1; have hfz32_2 := blk_frozen BK174.out 2; have hfz32_3 := blk_frozen BK174.out 3; have hfz32_4 := blk_frozen BK174.out 4; have hfz32_5 := blk_frozen BK174.out 5; have hfz32_6 := blk_frozen BK174.out 6; have hfz32_7 := blk_frozen BK174.out 7; have hfz32_8 := blk_frozen BK174.out 8; have hfz32_9 := blk_frozen BK174.out 9) | ((with_reducible refine gate_callee (f := 92) rfl ?_); refine goesL_ (some 58) rfl rfl Tryd.func92 (by kernel_rfl) rfl #[.int .i64 t175, .int .i64 a0_5] rfl (by (try simp only [List.map_toArray, List.map_cons, List.map_nil]); first | done | rfl | (simp only [List.length_drop, List.length_take]; rfl)) ?_; (with_reducible refine (inst_number.calls kj6 t175 a0_5 true _ A25.out).mono ?_); rintro e w' ⟨rfl, ⟨nd, rfl⟩⟩; refine ⟨_, rfl, ?_⟩) | (go_at_call 93; (with_reducible refine (inst_amount.calls t175 a0_7 a0_8 true _ A27.out).mono ?_); rintro e w' ⟨rfl, ⟨nd, rfl⟩⟩) | (go_at_call 94; (with_reducible refine (inst_cond.calls t175 a0_9 t187 _ A29.out).mono ?_); rintro e w' ⟨rfl, ⟨nd, rfl⟩⟩))
                  go_ret
                  exact ⟨by first | rfl | (simp [errW_none, errW_some] <;> rfl) | (simp [*, errW_none, errW_some] <;> rfl), by repeat (first | (with_reducible first | exact HB.out | apply below_alloc | apply pw_below_drewN | apply below_drew1 | refine below_set ?_ GE174.out) | exact HB.out)⟩
                · replace c28 := Bool.eq_false_iff.mpr c28
                  subst c28
                  have H1 : (some false) = some r := by rw [if_neg (show ¬ (false = true) by decide)] at H; exact H
                  clear H
                  have H := H1
                  clear H1
                  obtain rfl := Option.some.inj H
                  have hcz33_0 : wc.cell? ⟨gb174, 0, none⟩ = some (.int .i64 a0_0) := (blk_cell BK174.out 0).trans rfl
                  have hcz33_1 : wc.cell? ⟨gb174, 1, none⟩ = some (.int .i64 a0_1) := (blk_cell BK174.out 1).trans rfl
                  have hcz33_2 : wc.cell? ⟨gb174, 2, none⟩ = some (.int .i64 a0_2) := (blk_cell BK174.out 2).trans rfl
                  have hcz33_3 : wc.cell? ⟨gb174, 3, none⟩ = some (.int .i64 a0_3) := (blk_cell BK174.out 3).trans rfl
                  have hcz33_4 : wc.cell? ⟨gb174, 4, none⟩ = some (.int .i64 a0_4) := (blk_cell BK174.out 4).trans rfl
                  have hcz33_5 : wc.cell? ⟨gb174, 5, none⟩ = some (.int .i64 a0_5) := (blk_cell BK174.out 5).trans rfl
                  have hcz33_6 : wc.cell? ⟨gb174, 6, none⟩ = some (.int .u64 a0_6) := (blk_cell BK174.out 6).trans rfl
                  have hcz33_7 : wc.cell? ⟨gb174, 7, none⟩ = some (.int .i64 a0_7) := (blk_cell BK174.out 7).trans rfl
                  have hcz33_8 : wc.cell? ⟨gb174, 8, none⟩ = some (.int .i64 a0_8) := (blk_cell BK174.out 8).trans rfl
                  have hcz33_9 : wc.cell? ⟨gb174, 9, none⟩ = some (.int .i64 a0_9) := (blk_cell BK174.out 9).trans rfl
                  have hfz33_0 := blk_frozen BK174.out 0
                  have hfz33_1 := blk_frozen BK174.out 1
                  have hfz33_2 := blk_frozen BK174.out 2
                  have hfz33_3 := blk_frozen BK174.out 3
                  have hfz33_4 := blk_frozen BK174.out 4
                  have hfz33_5 := blk_frozen BK174.out 5
                  have hfz33_6 := blk_frozen BK174.out 6
                  have hfz33_7 := blk_frozen BK174.out 7
                  have hfz33_8 := blk_frozen BK174.out 8
                  have hfz33_9 := blk_frozen BK174.out 9
                  go_wp2_with (first | ((with_reducible refine gate_callee (f := 91) rfl ?_); refine goesL_ (some 50) rfl rfl Tryd.func91 (by kernel_rfl) rfl #[.int .u64 a0_6] rfl (by (try simp only [List.map_toArray, List.map_cons, List.map_nil]); first | done | rfl | (simp only [List.length_drop, List.length_take]; rfl)) ?_; (with_reducible refine (mask_Is.calls kj6 a0_6 true _ A23.out).mono ?_); rintro e w34 ⟨rfl, hb⟩; refine ⟨_, rfl, ?_⟩; have n0_ := Aside0.mk (blk_below (g := gb174) (o := .cells #[.int .i64 a0_0, .int .i64 a0_1, .int .i64 a0_2, .int .i64 a0_3, .int .i64 a0_4, .int .i64 a0_5, .int .u64 a0_6, .int .i64 a0_7, .int .i64 a0_8, .int .i64 a0_9] 124 (0, 0)) (by (with_reducible repeat (first | refine blk_drewN ?_ _ | refine blk_drew ?_ | refine blk_alloc ?_ _)); exact BK174.out) hb); have n1_ := Aside0.mk (below_step (by repeat (first | (with_reducible first | exact HB.out | apply below_alloc | apply pw_below_drewN | apply below_drew1 | refine below_set ?_ GE174.out) | exact HB.out)) hb); clear BK174; clear HB; have BK174 := n0_; have HB := n1_; clear n0_ n1_; (try clear hb); (try clear hb2); (try clear hk); (try clear hi); have hcz35_0 : w34.cell? ⟨gb174, 0, none⟩ = some (.int .i64 a0_0) := (blk_cell BK174.out 0).trans rfl; have hcz35_1 : w34.cell? ⟨gb174, 1, none⟩ = some (.int .i64 a0_1) := (blk_cell BK174.out 1).trans rfl; have hcz35_2 : w34.cell? ⟨gb174, 2, none⟩ = some (.int .i64 a0_2) := (blk_cell BK174.out 2).trans rfl; have hcz35_3 : w34.cell? ⟨gb174, 3, none⟩ = some (.int .i64 a0_3) := (blk_cell BK174.out 3).trans rfl; have hcz35_4 : w34.cell? ⟨gb174, 4, none⟩ = some (.int .i64 a0_4) := (blk_cell BK174.out 4).trans rfl; have hcz35_5 : w34.cell? ⟨gb174, 5, none⟩ = some (.int .i64 a0_5) := (blk_cell BK174.out 5).trans rfl; have hcz35_6 : w34.cell? ⟨gb174, 6, none⟩ = some (.int .u64 a0_6) := (blk_cell BK174.out 6).trans rfl; have hcz35_7 : w34.cell? ⟨gb174, 7, none⟩ = some (.int .i64 a0_7) := (blk_cell BK174.out 7).trans rfl; have hcz35_8 : w34.cell? ⟨gb174, 8, none⟩ = some (.int .i64 a0_8) := (blk_cell BK174.out 8).trans rfl; have hcz35_9 : w34.cell? ⟨gb174, 9, none⟩ = some (.int .i64 a0_9) := (blk_cell BK174.out 9).trans rfl; have hfz35_0 := blk_frozen BK174.out 0; have hfz35_1 := blk_frozen BK174.out 1; have hfz35_2 := blk_frozen BK174.out 2; have hfz35_3 := blk_frozen BK174.out 3; have hfz35_4 := blk_frozen BK174.out 4; have hfz35_5 := blk_frozen BK174.out 5; have hfz35_6 := blk_frozen BK174.out 6; have hfz35_7 := blk_frozen BK174.out 7; have hfz35_8 := blk_frozen BK174.out 8; have hfz35_9 := blk_frozen BK174.out 9) | ((with_reducible refine gate_callee (f := 92) rfl ?_); refine goesL_ (some 58) rfl rfl Tryd.func92 (by kernel_rfl) rfl #[.int .i64 t175, .int .i64 a0_5] rfl (by (try simp only [List.map_toArray, List.map_cons, List.map_nil]); first | done | rfl | (simp only [List.length_drop, List.length_take]; rfl)) ?_; (with_reducible refine (inst_number.calls kj6 t175 a0_5 true _ A25.out).mono ?_); rintro e w' ⟨rfl, ⟨nd, rfl⟩⟩; refine ⟨_, rfl, ?_⟩) | (go_at_call 93; (with_reducible refine (inst_amount.calls t175 a0_7 a0_8 false _ A27.out).mono ?_); rintro e w' ⟨rfl, ⟨nd, rfl⟩⟩))
                  go_ret
                  exact ⟨by first | rfl | (simp [errW_none, errW_some] <;> rfl) | (simp [*, errW_none, errW_some] <;> rfl), by repeat (first | (with_reducible first | exact HB.out | apply below_alloc | apply pw_below_drewN | apply below_drew1 | refine below_set ?_ GE174.out) | exact HB.out)⟩
              · replace c26 := Bool.eq_false_iff.mpr c26
                subst c26
                have H1 : (some false) = some r := by rw [if_neg (show ¬ (false = true) by decide)] at H; exact H
                clear H
                have H := H1
                clear H1
                obtain rfl := Option.some.inj H
                have hcz36_0 : wc.cell? ⟨gb174, 0, none⟩ = some (.int .i64 a0_0) := (blk_cell BK174.out 0).trans rfl
                have hcz36_1 : wc.cell? ⟨gb174, 1, none⟩ = some (.int .i64 a0_1) := (blk_cell BK174.out 1).trans rfl
                have hcz36_2 : wc.cell? ⟨gb174, 2, none⟩ = some (.int .i64 a0_2) := (blk_cell BK174.out 2).trans rfl
                have hcz36_3 : wc.cell? ⟨gb174, 3, none⟩ = some (.int .i64 a0_3) := (blk_cell BK174.out 3).trans rfl
                have hcz36_4 : wc.cell? ⟨gb174, 4, none⟩ = some (.int .i64 a0_4) := (blk_cell BK174.out 4).trans rfl
                have hcz36_5 : wc.cell? ⟨gb174, 5, none⟩ = some (.int .i64 a0_5) := (blk_cell BK174.out 5).trans rfl
                have hcz36_6 : wc.cell? ⟨gb174, 6, none⟩ = some (.int .u64 a0_6) := (blk_cell BK174.out 6).trans rfl
                have hcz36_7 : wc.cell? ⟨gb174, 7, none⟩ = some (.int .i64 a0_7) := (blk_cell BK174.out 7).trans rfl
                have hcz36_8 : wc.cell? ⟨gb174, 8, none⟩ = some (.int .i64 a0_8) := (blk_cell BK174.out 8).trans rfl
                have hcz36_9 : wc.cell? ⟨gb174, 9, none⟩ = some (.int .i64 a0_9) := (blk_cell BK174.out 9).trans rfl
                have hfz36_0 := blk_frozen BK174.out 0
                have hfz36_1 := blk_frozen BK174.out 1
                have hfz36_2 := blk_frozen BK174.out 2
                have hfz36_3 := blk_frozen BK174.out 3
                have hfz36_4 := blk_frozen BK174.out 4
                have hfz36_5 := blk_frozen BK174.out 5
                have hfz36_6 := blk_frozen BK174.out 6
                have hfz36_7 := blk_frozen BK174.out 7
                have hfz36_8 := blk_frozen BK174.out 8
                have hfz36_9 := blk_frozen BK174.out 9
                go_wp2_with (first | ((with_reducible refine gate_callee (f := 91) rfl ?_); refine goesL_ (some 50) rfl rfl Tryd.func91 (by kernel_rfl) rfl #[.int .u64 a0_6] rfl (by (try simp only [List.map_toArray, List.map_cons, List.map_nil]); first | done | rfl | (simp only [List.length_drop, List.length_take]; rfl)) ?_; (with_reducible refine (mask_Is.calls kj6 a0_6 true _ A23.out).mono ?_); rintro e w37 ⟨rfl, hb⟩; refine ⟨_, rfl, ?_⟩; have n0_ := Aside0.mk (blk_below (g := gb174) (o := .cells #[.int .i64 a0_0, .int .i64 a0_1, .int .i64 a0_2, .int .i64 a0_3, .int .i64 a0_4, .int .i64 a0_5, .int .u64 a0_6, .int .i64 a0_7, .int .i64 a0_8, .int .i64 a0_9] 124 (0, 0)) (by (with_reducible repeat (first | refine blk_drewN ?_ _ | refine blk_drew ?_ | refine blk_alloc ?_ _)); exact BK174.out) hb); have n1_ := Aside0.mk (below_step (by repeat (first | (with_reducible first | exact HB.out | apply below_alloc | apply pw_below_drewN | apply below_drew1 | refine below_set ?_ GE174.out) | exact HB.out)) hb); clear BK174; clear HB; have BK174 := n0_; have HB := n1_; clear n0_ n1_; (try clear hb); (try clear hb2); (try clear hk); (try clear hi); have hcz38_0 : w37.cell? ⟨gb174, 0, none⟩ = some (.int .i64 a0_0) := (blk_cell BK174.out 0).trans rfl; have hcz38_1 : w37.cell? ⟨gb174, 1, none⟩ = some (.int .i64 a0_1) := (blk_cell BK174.out 1).trans rfl; have hcz38_2 : w37.cell? ⟨gb174, 2, none⟩ = some (.int .i64 a0_2) := (blk_cell BK174.out 2).trans rfl; have hcz38_3 : w37.cell? ⟨gb174, 3, none⟩ = some (.int .i64 a0_3) := (blk_cell BK174.out 3).trans rfl; have hcz38_4 : w37.cell? ⟨gb174, 4, none⟩ = some (.int .i64 a0_4) := (blk_cell BK174.out 4).trans rfl; have hcz38_5 : w37.cell? ⟨gb174, 5, none⟩ = some (.int .i64 a0_5) := (blk_cell BK174.out 5).trans rfl; have hcz38_6 : w37.cell? ⟨gb174, 6, none⟩ = some (.int .u64 a0_6) := (blk_cell BK174.out 6).trans rfl; have hcz38_7 : w37.cell? ⟨gb174, 7, none⟩ = some (.int .i64 a0_7) := (blk_cell BK174.out 7).trans rfl; have hcz38_8 : w37.cell? ⟨gb174, 8, none⟩ = some (.int .i64 a0_8) := (blk_cell BK174.out 8).trans rfl; have hcz38_9 : w37.cell? ⟨gb174, 9, none⟩ = some (.int .i64 a0_9) := (blk_cell BK174.out 9).trans rfl; have hfz38_0 := blk_frozen BK174.out 0; have hfz38_1 := blk_frozen BK174.out 1; have hfz38_2 := blk_frozen BK174.out 2; have hfz38_3 := blk_frozen BK174.out 3; have hfz38_4 := blk_frozen BK174.out 4; have hfz38_5 := blk_frozen BK174.out 5; have hfz38_6 := blk_frozen BK174.out 6; have hfz38_7 := blk_frozen BK174.out 7; have hfz38_8 := blk_frozen BK174.out 8; have hfz38_9 := blk_frozen BK174.out 9) | ((with_reducible refine gate_callee (f := 92) rfl ?_); refine goesL_ (some 58) rfl rfl Tryd.func92 (by kernel_rfl) rfl #[.int .i64 t175, .int .i64 a0_5] rfl (by (try simp only [List.map_toArray, List.map_cons, List.map_nil]); first | done | rfl | (simp only [List.length_drop, List.length_take]; rfl)) ?_; (with_reducible refine (inst_number.calls kj6 t175 a0_5 false _ A25.out).mono ?_); rintro e w' ⟨rfl, ⟨nd, rfl⟩⟩; refine ⟨_, rfl, ?_⟩))
                go_ret
                exact ⟨by first | rfl | (simp [errW_none, errW_some] <;> rfl) | (simp [*, errW_none, errW_some] <;> rfl), by repeat (first | (with_reducible first | exact HB.out | apply below_alloc | apply pw_below_drewN | apply below_drew1 | refine below_set ?_ GE174.out) | exact HB.out)⟩
            · replace c24 := Bool.eq_false_iff.mpr c24
              subst c24
              have H1 : (some false) = some r := by rw [if_neg (show ¬ (false = true) by decide)] at H; exact H
              clear H
              have H := H1
              clear H1
              obtain rfl := Option.some.inj H
              have hcz39_0 : wc.cell? ⟨gb174, 0, none⟩ = some (.int .i64 a0_0) := (blk_cell BK174.out 0).trans rfl
              have hcz39_1 : wc.cell? ⟨gb174, 1, none⟩ = some (.int .i64 a0_1) := (blk_cell BK174.out 1).trans rfl
              have hcz39_2 : wc.cell? ⟨gb174, 2, none⟩ = some (.int .i64 a0_2) := (blk_cell BK174.out 2).trans rfl
              have hcz39_3 : wc.cell? ⟨gb174, 3, none⟩ = some (.int .i64 a0_3) := (blk_cell BK174.out 3).trans rfl
              have hcz39_4 : wc.cell? ⟨gb174, 4, none⟩ = some (.int .i64 a0_4) := (blk_cell BK174.out 4).trans rfl
              have hcz39_5 : wc.cell? ⟨gb174, 5, none⟩ = some (.int .i64 a0_5) := (blk_cell BK174.out 5).trans rfl
              have hcz39_6 : wc.cell? ⟨gb174, 6, none⟩ = some (.int .u64 a0_6) := (blk_cell BK174.out 6).trans rfl
              have hcz39_7 : wc.cell? ⟨gb174, 7, none⟩ = some (.int .i64 a0_7) := (blk_cell BK174.out 7).trans rfl
              have hcz39_8 : wc.cell? ⟨gb174, 8, none⟩ = some (.int .i64 a0_8) := (blk_cell BK174.out 8).trans rfl
              have hcz39_9 : wc.cell? ⟨gb174, 9, none⟩ = some (.int .i64 a0_9) := (blk_cell BK174.out 9).trans rfl
              have hfz39_0 := blk_frozen BK174.out 0
              have hfz39_1 := blk_frozen BK174.out 1
              have hfz39_2 := blk_frozen BK174.out 2
              have hfz39_3 := blk_frozen BK174.out 3
              have hfz39_4 := blk_frozen BK174.out 4
              have hfz39_5 := blk_frozen BK174.out 5
              have hfz39_6 := blk_frozen BK174.out 6
              have hfz39_7 := blk_frozen BK174.out 7
              have hfz39_8 := blk_frozen BK174.out 8
              have hfz39_9 := blk_frozen BK174.out 9
              go_wp2_with (first | ((with_reducible refine gate_callee (f := 91) rfl ?_); refine goesL_ (some 50) rfl rfl Tryd.func91 (by kernel_rfl) rfl #[.int .u64 a0_6] rfl (by (try simp only [List.map_toArray, List.map_cons, List.map_nil]); first | done | rfl | (simp only [List.length_drop, List.length_take]; rfl)) ?_; (with_reducible refine (mask_Is.calls kj6 a0_6 false _ A23.out).mono ?_); rintro e w40 ⟨rfl, hb⟩; refine ⟨_, rfl, ?_⟩; have n0_ := Aside0.mk (blk_below (g := gb174) (o := .cells #[.int .i64 a0_0, .int .i64 a0_1, .int .i64 a0_2, .int .i64 a0_3, .int .i64 a0_4, .int .i64 a0_5, .int .u64 a0_6, .int .i64 a0_7, .int .i64 a0_8, .int .i64 a0_9] 124 (0, 0)) (by (with_reducible repeat (first | refine blk_drewN ?_ _ | refine blk_drew ?_ | refine blk_alloc ?_ _)); exact BK174.out) hb); have n1_ := Aside0.mk (below_step (by repeat (first | (with_reducible first | exact HB.out | apply below_alloc | apply pw_below_drewN | apply below_drew1 | refine below_set ?_ GE174.out) | exact HB.out)) hb); clear BK174; clear HB; have BK174 := n0_; have HB := n1_; clear n0_ n1_; (try clear hb); (try clear hb2); (try clear hk); (try clear hi)))
              go_ret
              exact ⟨by first | rfl | (simp [errW_none, errW_some] <;> rfl) | (simp [*, errW_none, errW_some] <;> rfl), by repeat (first | (with_reducible first | exact HB.out | apply below_alloc | apply pw_below_drewN | apply below_drew1 | refine below_set ?_ GE174.out) | exact HB.out)⟩
          · rw [if_neg c22] at H
            have c22b0 : (t175 == 3) = false := beq_eq_false_iff_ne.mpr c22
            have c22b1 : (t175 != 3) = true := bne_iff_ne.mpr c22
            by_cases c41 : a0_6 = 0
            · rw [if_pos c41] at H
              have c41b0 : (a0_6 == 0) = true := beq_iff_eq.mpr c41
              have c41b1 : (a0_6 != 0) = false := bne_eq_false_iff_eq.mpr c41
              clear c41
              replace H := Option.bind_eq_some_iff.mp H
              obtain ⟨t188, A420, H⟩ := H
              replace H : (if t188 = true then ((inst_amount.f t175 a0_7 a0_8).bind fun t189 => (if t189 = true then ((inst_cond.f t175 a0_9).bind fun t190 => (some t190)) else (some false))) else (some false)) = some r := H
              have A42 := Aside0.mk A420
              clear A420
              by_cases c43 : t188 = true
              · subst c43
                have H1 : ((inst_amount.f t175 a0_7 a0_8).bind fun t189 => (if t189 = true then ((inst_cond.f t175 a0_9).bind fun t190 => (some t190)) else (some false))) = some r := by rw [if_pos rfl] at H; exact H
                clear H
                have H := H1
                clear H1
                replace H := Option.bind_eq_some_iff.mp H
                obtain ⟨t189, A440, H⟩ := H
                replace H : (if t189 = true then ((inst_cond.f t175 a0_9).bind fun t190 => (some t190)) else (some false)) = some r := H
                have A44 := Aside0.mk A440
                clear A440
                by_cases c45 : t189 = true
                · subst c45
                  have H1 : ((inst_cond.f t175 a0_9).bind fun t190 => (some t190)) = some r := by rw [if_pos rfl] at H; exact H
                  clear H
                  have H := H1
                  clear H1
                  replace H := Option.bind_eq_some_iff.mp H
                  obtain ⟨t190, A460, H⟩ := H
                  replace H : (some t190) = some r := H
                  have A46 := Aside0.mk A460
                  clear A460
                  obtain rfl := Option.some.inj H
                  have hcz47_0 : wc.cell? ⟨gb174, 0, none⟩ = some (.int .i64 a0_0) := (blk_cell BK174.out 0).trans rfl
                  have hcz47_1 : wc.cell? ⟨gb174, 1, none⟩ = some (.int .i64 a0_1) := (blk_cell BK174.out 1).trans rfl
                  have hcz47_2 : wc.cell? ⟨gb174, 2, none⟩ = some (.int .i64 a0_2) := (blk_cell BK174.out 2).trans rfl
                  have hcz47_3 : wc.cell? ⟨gb174, 3, none⟩ = some (.int .i64 a0_3) := (blk_cell BK174.out 3).trans rfl
                  have hcz47_4 : wc.cell? ⟨gb174, 4, none⟩ = some (.int .i64 a0_4) := (blk_cell BK174.out 4).trans rfl
                  have hcz47_5 : wc.cell? ⟨gb174, 5, none⟩ = some (.int .i64 a0_5) := (blk_cell BK174.out 5).trans rfl
                  have hcz47_6 : wc.cell? ⟨gb174, 6, none⟩ = some (.int .u64 a0_6) := (blk_cell BK174.out 6).trans rfl
                  have hcz47_7 : wc.cell? ⟨gb174, 7, none⟩ = some (.int .i64 a0_7) := (blk_cell BK174.out 7).trans rfl
                  have hcz47_8 : wc.cell? ⟨gb174, 8, none⟩ = some (.int .i64 a0_8) := (blk_cell BK174.out 8).trans rfl
                  have hcz47_9 : wc.cell? ⟨gb174, 9, none⟩ = some (.int .i64 a0_9) := (blk_cell BK174.out 9).trans rfl
                  have hfz47_0 := blk_frozen BK174.out 0
                  have hfz47_1 := blk_frozen BK174.out 1
                  have hfz47_2 := blk_frozen BK174.out 2
                  have hfz47_3 := blk_frozen BK174.out 3
                  have hfz47_4 := blk_frozen BK174.out 4
                  have hfz47_5 := blk_frozen BK174.out 5
                  have hfz47_6 := blk_frozen BK174.out 6
                  have hfz47_7 := blk_frozen BK174.out 7
                  have hfz47_8 := blk_frozen BK174.out 8
                  have hfz47_9 := blk_frozen BK174.out 9
                  go_wp2_with (first | ((with_reducible refine gate_callee (f := 92) rfl ?_); refine goesL_ (some 58) rfl rfl Tryd.func92 (by kernel_rfl) rfl #[.int .i64 t175, .int .i64 a0_5] rfl (by (try simp only [List.map_toArray, List.map_cons, List.map_nil]); first | done | rfl | (simp only [List.length_drop, List.length_take]; rfl)) ?_; (with_reducible refine (inst_number.calls kj6 t175 a0_5 true _ A42.out).mono ?_); rintro e w' ⟨rfl, ⟨nd, rfl⟩⟩; refine ⟨_, rfl, ?_⟩) | (go_at_call 93; (with_reducible refine (inst_amount.calls t175 a0_7 a0_8 true _ A44.out).mono ?_); rintro e w' ⟨rfl, ⟨nd, rfl⟩⟩) | (go_at_call 94; (with_reducible refine (inst_cond.calls t175 a0_9 t190 _ A46.out).mono ?_); rintro e w' ⟨rfl, ⟨nd, rfl⟩⟩))
                  go_ret
                  exact ⟨by first | rfl | (simp [errW_none, errW_some] <;> rfl) | (simp [*, errW_none, errW_some] <;> rfl), by repeat (first | (with_reducible first | exact HB.out | apply below_alloc | apply pw_below_drewN | apply below_drew1 | refine below_set ?_ GE174.out) | exact HB.out)⟩
                · replace c45 := Bool.eq_false_iff.mpr c45
                  subst c45
                  have H1 : (some false) = some r := by rw [if_neg (show ¬ (false = true) by decide)] at H; exact H
                  clear H
                  have H := H1
                  clear H1
                  obtain rfl := Option.some.inj H
                  have hcz48_0 : wc.cell? ⟨gb174, 0, none⟩ = some (.int .i64 a0_0) := (blk_cell BK174.out 0).trans rfl
                  have hcz48_1 : wc.cell? ⟨gb174, 1, none⟩ = some (.int .i64 a0_1) := (blk_cell BK174.out 1).trans rfl
                  have hcz48_2 : wc.cell? ⟨gb174, 2, none⟩ = some (.int .i64 a0_2) := (blk_cell BK174.out 2).trans rfl
                  have hcz48_3 : wc.cell? ⟨gb174, 3, none⟩ = some (.int .i64 a0_3) := (blk_cell BK174.out 3).trans rfl
                  have hcz48_4 : wc.cell? ⟨gb174, 4, none⟩ = some (.int .i64 a0_4) := (blk_cell BK174.out 4).trans rfl
                  have hcz48_5 : wc.cell? ⟨gb174, 5, none⟩ = some (.int .i64 a0_5) := (blk_cell BK174.out 5).trans rfl
                  have hcz48_6 : wc.cell? ⟨gb174, 6, none⟩ = some (.int .u64 a0_6) := (blk_cell BK174.out 6).trans rfl
                  have hcz48_7 : wc.cell? ⟨gb174, 7, none⟩ = some (.int .i64 a0_7) := (blk_cell BK174.out 7).trans rfl
                  have hcz48_8 : wc.cell? ⟨gb174, 8, none⟩ = some (.int .i64 a0_8) := (blk_cell BK174.out 8).trans rfl
                  have hcz48_9 : wc.cell? ⟨gb174, 9, none⟩ = some (.int .i64 a0_9) := (blk_cell BK174.out 9).trans rfl
                  have hfz48_0 := blk_frozen BK174.out 0
                  have hfz48_1 := blk_frozen BK174.out 1
                  have hfz48_2 := blk_frozen BK174.out 2
                  have hfz48_3 := blk_frozen BK174.out 3
                  have hfz48_4 := blk_frozen BK174.out 4
                  have hfz48_5 := blk_frozen BK174.out 5
                  have hfz48_6 := blk_frozen BK174.out 6
                  have hfz48_7 := blk_frozen BK174.out 7
                  have hfz48_8 := blk_frozen BK174.out 8
                  have hfz48_9 := blk_frozen BK174.out 9
                  go_wp2_with (first | ((with_reducible refine gate_callee (f := 92) rfl ?_); refine goesL_ (some 58) rfl rfl Tryd.func92 (by kernel_rfl) rfl #[.int .i64 t175, .int .i64 a0_5] rfl (by (try simp only [List.map_toArray, List.map_cons, List.map_nil]); first | done | rfl | (simp only [List.length_drop, List.length_take]; rfl)) ?_; (with_reducible refine (inst_number.calls kj6 t175 a0_5 true _ A42.out).mono ?_); rintro e w' ⟨rfl, ⟨nd, rfl⟩⟩; refine ⟨_, rfl, ?_⟩) | (go_at_call 93; (with_reducible refine (inst_amount.calls t175 a0_7 a0_8 false _ A44.out).mono ?_); rintro e w' ⟨rfl, ⟨nd, rfl⟩⟩))
                  go_ret
                  exact ⟨by first | rfl | (simp [errW_none, errW_some] <;> rfl) | (simp [*, errW_none, errW_some] <;> rfl), by repeat (first | (with_reducible first | exact HB.out | apply below_alloc | apply pw_below_drewN | apply below_drew1 | refine below_set ?_ GE174.out) | exact HB.out)⟩
              · replace c43 := Bool.eq_false_iff.mpr c43
                subst c43
                have H1 : (some false) = some r := by rw [if_neg (show ¬ (false = true) by decide)] at H; exact H
                clear H
                have H := H1
                clear H1
                obtain rfl := Option.some.inj H
                have hcz49_0 : wc.cell? ⟨gb174, 0, none⟩ = some (.int .i64 a0_0) := (blk_cell BK174.out 0).trans rfl
                have hcz49_1 : wc.cell? ⟨gb174, 1, none⟩ = some (.int .i64 a0_1) := (blk_cell BK174.out 1).trans rfl
                have hcz49_2 : wc.cell? ⟨gb174, 2, none⟩ = some (.int .i64 a0_2) := (blk_cell BK174.out 2).trans rfl
                have hcz49_3 : wc.cell? ⟨gb174, 3, none⟩ = some (.int .i64 a0_3) := (blk_cell BK174.out 3).trans rfl
                have hcz49_4 : wc.cell? ⟨gb174, 4, none⟩ = some (.int .i64 a0_4) := (blk_cell BK174.out 4).trans rfl
                have hcz49_5 : wc.cell? ⟨gb174, 5, none⟩ = some (.int .i64 a0_5) := (blk_cell BK174.out 5).trans rfl
                have hcz49_6 : wc.cell? ⟨gb174, 6, none⟩ = some (.int .u64 a0_6) := (blk_cell BK174.out 6).trans rfl
                have hcz49_7 : wc.cell? ⟨gb174, 7, none⟩ = some (.int .i64 a0_7) := (blk_cell BK174.out 7).trans rfl
                have hcz49_8 : wc.cell? ⟨gb174, 8, none⟩ = some (.int .i64 a0_8) := (blk_cell BK174.out 8).trans rfl
                have hcz49_9 : wc.cell? ⟨gb174, 9, none⟩ = some (.int .i64 a0_9) := (blk_cell BK174.out 9).trans rfl
                have hfz49_0 := blk_frozen BK174.out 0
                have hfz49_1 := blk_frozen BK174.out 1
                have hfz49_2 := blk_frozen BK174.out 2
                have hfz49_3 := blk_frozen BK174.out 3
                have hfz49_4 := blk_frozen BK174.out 4
                have hfz49_5 := blk_frozen BK174.out 5
                have hfz49_6 := blk_frozen BK174.out 6
                have hfz49_7 := blk_frozen BK174.out 7
                have hfz49_8 := blk_frozen BK174.out 8
                have hfz49_9 := blk_frozen BK174.out 9
                go_wp2_with (first | ((with_reducible refine gate_callee (f := 92) rfl ?_); refine goesL_ (some 58) rfl rfl Tryd.func92 (by kernel_rfl) rfl #[.int .i64 t175, .int .i64 a0_5] rfl (by (try simp only [List.map_toArray, List.map_cons, List.map_nil]); first | done | rfl | (simp only [List.length_drop, List.length_take]; rfl)) ?_; (with_reducible refine (inst_number.calls kj6 t175 a0_5 false _ A42.out).mono ?_); rintro e w' ⟨rfl, ⟨nd, rfl⟩⟩; refine ⟨_, rfl, ?_⟩))
                go_ret
                exact ⟨by first | rfl | (simp [errW_none, errW_some] <;> rfl) | (simp [*, errW_none, errW_some] <;> rfl), by repeat (first | (with_reducible first | exact HB.out | apply below_alloc | apply pw_below_drewN | apply below_drew1 | refine below_set ?_ GE174.out) | exact HB.out)⟩
            · rw [if_neg c41] at H
              have c41b0 : (a0_6 == 0) = false := beq_eq_false_iff_ne.mpr c41
              have c41b1 : (a0_6 != 0) = true := bne_iff_ne.mpr c41
              obtain rfl := Option.some.inj H
              have hcz50_0 : wc.cell? ⟨gb174, 0, none⟩ = some (.int .i64 a0_0) := (blk_cell BK174.out 0).trans rfl
              have hcz50_1 : wc.cell? ⟨gb174, 1, none⟩ = some (.int .i64 a0_1) := (blk_cell BK174.out 1).trans rfl
              have hcz50_2 : wc.cell? ⟨gb174, 2, none⟩ = some (.int .i64 a0_2) := (blk_cell BK174.out 2).trans rfl
              have hcz50_3 : wc.cell? ⟨gb174, 3, none⟩ = some (.int .i64 a0_3) := (blk_cell BK174.out 3).trans rfl
              have hcz50_4 : wc.cell? ⟨gb174, 4, none⟩ = some (.int .i64 a0_4) := (blk_cell BK174.out 4).trans rfl
              have hcz50_5 : wc.cell? ⟨gb174, 5, none⟩ = some (.int .i64 a0_5) := (blk_cell BK174.out 5).trans rfl
              have hcz50_6 : wc.cell? ⟨gb174, 6, none⟩ = some (.int .u64 a0_6) := (blk_cell BK174.out 6).trans rfl
              have hcz50_7 : wc.cell? ⟨gb174, 7, none⟩ = some (.int .i64 a0_7) := (blk_cell BK174.out 7).trans rfl
              have hcz50_8 : wc.cell? ⟨gb174, 8, none⟩ = some (.int .i64 a0_8) := (blk_cell BK174.out 8).trans rfl
              have hcz50_9 : wc.cell? ⟨gb174, 9, none⟩ = some (.int .i64 a0_9) := (blk_cell BK174.out 9).trans rfl
              have hfz50_0 := blk_frozen BK174.out 0
              have hfz50_1 := blk_frozen BK174.out 1
              have hfz50_2 := blk_frozen BK174.out 2
              have hfz50_3 := blk_frozen BK174.out 3
              have hfz50_4 := blk_frozen BK174.out 4
              have hfz50_5 := blk_frozen BK174.out 5
              have hfz50_6 := blk_frozen BK174.out 6
              have hfz50_7 := blk_frozen BK174.out 7
              have hfz50_8 := blk_frozen BK174.out 8
              have hfz50_9 := blk_frozen BK174.out 9
              go_wp2
              go_ret
              exact ⟨by first | rfl | (simp [errW_none, errW_some] <;> rfl) | (simp [*, errW_none, errW_some] <;> rfl), by repeat (first | (with_reducible first | exact HB.out | apply below_alloc | apply pw_below_drewN | apply below_drew1 | refine below_set ?_ GE174.out) | exact HB.out)⟩
end Go.Proofs.YtngmipfodjgmmaaDoor.P
