/- The walks and the plain laws of this claim, a part: what each function of the program computes. -/
import Derived.Test.YtjllhcfcdimbfaaDoorFo22
import Derived.Test.YtjllhcfcdimbfaaDoorFo23
import Derived.Test.YtjllhcfcdimbfaaDoorFo32
import Derived.Test.YtjllhcfcdimbfaaDoorFo36
import Derived.Test.YtjllhcfcdimbfaaDoorFo37
namespace Go.Proofs.YtjllhcfcdimbfaaDoor.P
open Go.RowKit Go.Proofs.YtjllhcfcdimbfaaDoorW.PrintWords Go.Proofs.YtjllhcfcdimbfaaDoorW.PrintLast Go.Proofs.YtjllhcfcdimbfaaDoorW.PrintMore
attribute [local go_sem] max2_int min2_int max_two min_two max_three min_three max_four min_four   -- for this text's walks alone
set_option linter.unusedVariables false
set_option linter.unusedSimpArgs false
def cleatlaw26_FixOnly.j0 : Nat → Int → Bool → Int → Int → Int → Int → Int → Int → Int → Int → Int → Int → Option (Bool)
  | 0, _, _, _, _, _, _, _, _, _, _, _, _ => none
  | k + 1, x1, x73, x283000, x283001, x283002, x283003, x283004, x283005, x283006, x283007, x283008, x283009 => if x73 = true then (some false) else ((code_Encode.f k x283000 x283001 x283002 x283003 x283004 0 x283006 x283007 x283008 x283009).bind fun bt283 => ((cleatlaw26_fixed.f k).bind fun t285 => (if t285 = true then (if bt283.2 = 0 then (some (bt283.1 == x1)) else (some false)) else (some false))))
def cleatlaw26_FixOnly.f (k : Nat) (a0 : Int) (a1 : Int) (a2 : Int) (a3 : Int) : Option (Bool) := (fix_Word.f k a0 a1 a2 a3).bind fun bt265 => ((fix_Value.f a0 a2 a3).bind fun bt267 => ((part_Fits.f k a0 a1).bind fun t269 => (if bt265.2 = 0 then ((code_Decode.f k bt265.1).bind fun bt271 => (if t269 = true then (if bt267.2 = 0 then (if bt271.2.2.2.2.2.2.2.2.2.2 = 0 then (cleatlaw26_FixOnly.j0 k a1 (bt271.2.2.2.2.2.1 != (wrap64 (bt267.1))) bt271.1 bt271.2.1 bt271.2.2.1 bt271.2.2.2.1 bt271.2.2.2.2.1 bt271.2.2.2.2.2.1 bt271.2.2.2.2.2.2.1 bt271.2.2.2.2.2.2.2.1 bt271.2.2.2.2.2.2.2.2.1 bt271.2.2.2.2.2.2.2.2.2.1) else (cleatlaw26_FixOnly.j0 k a1 true bt271.1 bt271.2.1 bt271.2.2.1 bt271.2.2.2.1 bt271.2.2.2.2.1 bt271.2.2.2.2.2.1 bt271.2.2.2.2.2.2.1 bt271.2.2.2.2.2.2.2.1 bt271.2.2.2.2.2.2.2.2.1 bt271.2.2.2.2.2.2.2.2.2.1)) else (cleatlaw26_FixOnly.j0 k a1 true bt271.1 bt271.2.1 bt271.2.2.1 bt271.2.2.2.1 bt271.2.2.2.2.1 bt271.2.2.2.2.2.1 bt271.2.2.2.2.2.2.1 bt271.2.2.2.2.2.2.2.1 bt271.2.2.2.2.2.2.2.2.1 bt271.2.2.2.2.2.2.2.2.2.1)) else (cleatlaw26_FixOnly.j0 k a1 true bt271.1 bt271.2.1 bt271.2.2.1 bt271.2.2.2.1 bt271.2.2.2.2.1 bt271.2.2.2.2.2.1 bt271.2.2.2.2.2.2.1 bt271.2.2.2.2.2.2.2.1 bt271.2.2.2.2.2.2.2.2.1 bt271.2.2.2.2.2.2.2.2.2.1))) else ((cleatlaw26_fixed.f k).bind fun t270 => (if t270 = true then (if bt265.1 = 0 then (if t269 = true then (some (bt267.2 == bt265.2)) else (some true)) else (some false)) else (some false))))))
set_option maxHeartbeats 8000000 in
set_option maxRecDepth 100000 in
theorem cleatlaw26_FixOnly.calls (k : Nat) (a0 : Int) (a1 : Int) (a2 : Int) (a3 : Int) (r : Bool) (w : World) (hG : Glob w) (h : cleatlaw26_FixOnly.f k a0 a1 a2 a3 = some r) :
    Calls Tryd.prog 5 #[.int .i64 a0, .int .u32 a1, .int .u64 a2, .int .u64 a3] w fun e w' => e = .returned (.bool r) ∧ Below w.heap.size w w' := by
  have hu37 := Tryd.underlying37
  have HB := Aside0.mk (Below.refl w.heap.size w)
  have H : ((fix_Word.f k a0 a1 a2 a3).bind fun bt265 => ((fix_Value.f a0 a2 a3).bind fun bt267 => ((part_Fits.f k a0 a1).bind fun t269 => (if bt265.2 = 0 then ((code_Decode.f k bt265.1).bind fun bt271 => (if t269 = true then (if bt267.2 = 0 then (if bt271.2.2.2.2.2.2.2.2.2.2 = 0 then (cleatlaw26_FixOnly.j0 k a1 (bt271.2.2.2.2.2.1 != (wrap64 (bt267.1))) bt271.1 bt271.2.1 bt271.2.2.1 bt271.2.2.2.1 bt271.2.2.2.2.1 bt271.2.2.2.2.2.1 bt271.2.2.2.2.2.2.1 bt271.2.2.2.2.2.2.2.1 bt271.2.2.2.2.2.2.2.2.1 bt271.2.2.2.2.2.2.2.2.2.1) else (cleatlaw26_FixOnly.j0 k a1 true bt271.1 bt271.2.1 bt271.2.2.1 bt271.2.2.2.1 bt271.2.2.2.2.1 bt271.2.2.2.2.2.1 bt271.2.2.2.2.2.2.1 bt271.2.2.2.2.2.2.2.1 bt271.2.2.2.2.2.2.2.2.1 bt271.2.2.2.2.2.2.2.2.2.1)) else (cleatlaw26_FixOnly.j0 k a1 true bt271.1 bt271.2.1 bt271.2.2.1 bt271.2.2.2.1 bt271.2.2.2.2.1 bt271.2.2.2.2.2.1 bt271.2.2.2.2.2.2.1 bt271.2.2.2.2.2.2.2.1 bt271.2.2.2.2.2.2.2.2.1 bt271.2.2.2.2.2.2.2.2.2.1)) else (cleatlaw26_FixOnly.j0 k a1 true bt271.1 bt271.2.1 bt271.2.2.1 bt271.2.2.2.1 bt271.2.2.2.2.1 bt271.2.2.2.2.2.1 bt271.2.2.2.2.2.2.1 bt271.2.2.2.2.2.2.2.1 bt271.2.2.2.2.2.2.2.2.1 bt271.2.2.2.2.2.2.2.2.2.1))) else ((cleatlaw26_fixed.f k).bind fun t270 => (if t270 = true then (if bt265.1 = 0 then (if t269 = true then (some (bt267.2 == bt265.2)) else (some true)) else (some false)) else (some false))))))) = some r := h
  clear h
  replace H := Option.bind_eq_some_iff.mp H
  obtain ⟨⟨t265, t266⟩, A50, H⟩ := H
  replace H : ((fix_Value.f a0 a2 a3).bind fun bt267 => ((part_Fits.f k a0 a1).bind fun t269 => (if t266 = 0 then ((code_Decode.f k t265).bind fun bt271 => (if t269 = true then (if bt267.2 = 0 then (if bt271.2.2.2.2.2.2.2.2.2.2 = 0 then (cleatlaw26_FixOnly.j0 k a1 (bt271.2.2.2.2.2.1 != (wrap64 (bt267.1))) bt271.1 bt271.2.1 bt271.2.2.1 bt271.2.2.2.1 bt271.2.2.2.2.1 bt271.2.2.2.2.2.1 bt271.2.2.2.2.2.2.1 bt271.2.2.2.2.2.2.2.1 bt271.2.2.2.2.2.2.2.2.1 bt271.2.2.2.2.2.2.2.2.2.1) else (cleatlaw26_FixOnly.j0 k a1 true bt271.1 bt271.2.1 bt271.2.2.1 bt271.2.2.2.1 bt271.2.2.2.2.1 bt271.2.2.2.2.2.1 bt271.2.2.2.2.2.2.1 bt271.2.2.2.2.2.2.2.1 bt271.2.2.2.2.2.2.2.2.1 bt271.2.2.2.2.2.2.2.2.2.1)) else (cleatlaw26_FixOnly.j0 k a1 true bt271.1 bt271.2.1 bt271.2.2.1 bt271.2.2.2.1 bt271.2.2.2.2.1 bt271.2.2.2.2.2.1 bt271.2.2.2.2.2.2.1 bt271.2.2.2.2.2.2.2.1 bt271.2.2.2.2.2.2.2.2.1 bt271.2.2.2.2.2.2.2.2.2.1)) else (cleatlaw26_FixOnly.j0 k a1 true bt271.1 bt271.2.1 bt271.2.2.1 bt271.2.2.2.1 bt271.2.2.2.2.1 bt271.2.2.2.2.2.1 bt271.2.2.2.2.2.2.1 bt271.2.2.2.2.2.2.2.1 bt271.2.2.2.2.2.2.2.2.1 bt271.2.2.2.2.2.2.2.2.2.1))) else ((cleatlaw26_fixed.f k).bind fun t270 => (if t270 = true then (if t265 = 0 then (if t269 = true then (some (bt267.2 == t266)) else (some true)) else (some false)) else (some false)))))) = some r := H
  have A5 := Aside0.mk A50
  clear A50
  replace H := Option.bind_eq_some_iff.mp H
  obtain ⟨⟨t267, t268⟩, A60, H⟩ := H
  replace H : ((part_Fits.f k a0 a1).bind fun t269 => (if t266 = 0 then ((code_Decode.f k t265).bind fun bt271 => (if t269 = true then (if t268 = 0 then (if bt271.2.2.2.2.2.2.2.2.2.2 = 0 then (cleatlaw26_FixOnly.j0 k a1 (bt271.2.2.2.2.2.1 != (wrap64 (t267))) bt271.1 bt271.2.1 bt271.2.2.1 bt271.2.2.2.1 bt271.2.2.2.2.1 bt271.2.2.2.2.2.1 bt271.2.2.2.2.2.2.1 bt271.2.2.2.2.2.2.2.1 bt271.2.2.2.2.2.2.2.2.1 bt271.2.2.2.2.2.2.2.2.2.1) else (cleatlaw26_FixOnly.j0 k a1 true bt271.1 bt271.2.1 bt271.2.2.1 bt271.2.2.2.1 bt271.2.2.2.2.1 bt271.2.2.2.2.2.1 bt271.2.2.2.2.2.2.1 bt271.2.2.2.2.2.2.2.1 bt271.2.2.2.2.2.2.2.2.1 bt271.2.2.2.2.2.2.2.2.2.1)) else (cleatlaw26_FixOnly.j0 k a1 true bt271.1 bt271.2.1 bt271.2.2.1 bt271.2.2.2.1 bt271.2.2.2.2.1 bt271.2.2.2.2.2.1 bt271.2.2.2.2.2.2.1 bt271.2.2.2.2.2.2.2.1 bt271.2.2.2.2.2.2.2.2.1 bt271.2.2.2.2.2.2.2.2.2.1)) else (cleatlaw26_FixOnly.j0 k a1 true bt271.1 bt271.2.1 bt271.2.2.1 bt271.2.2.2.1 bt271.2.2.2.2.1 bt271.2.2.2.2.2.1 bt271.2.2.2.2.2.2.1 bt271.2.2.2.2.2.2.2.1 bt271.2.2.2.2.2.2.2.2.1 bt271.2.2.2.2.2.2.2.2.2.1))) else ((cleatlaw26_fixed.f k).bind fun t270 => (if t270 = true then (if t265 = 0 then (if t269 = true then (some (t268 == t266)) else (some true)) else (some false)) else (some false))))) = some r := H
  have A6 := Aside0.mk A60
  clear A60
  replace H := Option.bind_eq_some_iff.mp H
  obtain ⟨t269, A70, H⟩ := H
  replace H : (if t266 = 0 then ((code_Decode.f k t265).bind fun bt271 => (if t269 = true then (if t268 = 0 then (if bt271.2.2.2.2.2.2.2.2.2.2 = 0 then (cleatlaw26_FixOnly.j0 k a1 (bt271.2.2.2.2.2.1 != (wrap64 (t267))) bt271.1 bt271.2.1 bt271.2.2.1 bt271.2.2.2.1 bt271.2.2.2.2.1 bt271.2.2.2.2.2.1 bt271.2.2.2.2.2.2.1 bt271.2.2.2.2.2.2.2.1 bt271.2.2.2.2.2.2.2.2.1 bt271.2.2.2.2.2.2.2.2.2.1) else (cleatlaw26_FixOnly.j0 k a1 true bt271.1 bt271.2.1 bt271.2.2.1 bt271.2.2.2.1 bt271.2.2.2.2.1 bt271.2.2.2.2.2.1 bt271.2.2.2.2.2.2.1 bt271.2.2.2.2.2.2.2.1 bt271.2.2.2.2.2.2.2.2.1 bt271.2.2.2.2.2.2.2.2.2.1)) else (cleatlaw26_FixOnly.j0 k a1 true bt271.1 bt271.2.1 bt271.2.2.1 bt271.2.2.2.1 bt271.2.2.2.2.1 bt271.2.2.2.2.2.1 bt271.2.2.2.2.2.2.1 bt271.2.2.2.2.2.2.2.1 bt271.2.2.2.2.2.2.2.2.1 bt271.2.2.2.2.2.2.2.2.2.1)) else (cleatlaw26_FixOnly.j0 k a1 true bt271.1 bt271.2.1 bt271.2.2.1 bt271.2.2.2.1 bt271.2.2.2.2.1 bt271.2.2.2.2.2.1 bt271.2.2.2.2.2.2.1 bt271.2.2.2.2.2.2.2.1 bt271.2.2.2.2.2.2.2.2.1 bt271.2.2.2.2.2.2.2.2.2.1))) else ((cleatlaw26_fixed.f k).bind fun t270 => (if t270 = true then (if t265 = 0 then (if t269 = true then (some (t268 == t266)) else (some true)) else (some false)) else (some false)))) = some r := H
  have A7 := Aside0.mk A70
  clear A70
  by_cases c8 : t266 = 0
  · rw [if_pos c8] at H
    have c8b0 : (t266 == 0) = true := beq_iff_eq.mpr c8
    have c8b1 : (t266 != 0) = false := bne_eq_false_iff_eq.mpr c8
    clear c8
    replace H := Option.bind_eq_some_iff.mp H
    obtain ⟨⟨t271, t272, t273, t274, t275, t276, t277, t278, t279, t280, t281⟩, A90, H⟩ := H
    replace H : (if t269 = true then (if t268 = 0 then (if t281 = 0 then (cleatlaw26_FixOnly.j0 k a1 (t276 != (wrap64 (t267))) t271 t272 t273 t274 t275 t276 t277 t278 t279 t280) else (cleatlaw26_FixOnly.j0 k a1 true t271 t272 t273 t274 t275 t276 t277 t278 t279 t280)) else (cleatlaw26_FixOnly.j0 k a1 true t271 t272 t273 t274 t275 t276 t277 t278 t279 t280)) else (cleatlaw26_FixOnly.j0 k a1 true t271 t272 t273 t274 t275 t276 t277 t278 t279 t280)) = some r := H
    have A9 := Aside0.mk A90
    clear A90
    have HC10 := Aside0.mk H
    clear H
    go_enter Tryd.func5, Tryd.ntmps5
    go_upto_region 7 with (first | ((with_reducible refine gate_callee (f := 9) rfl ?_); refine goesL_ (some 23) rfl rfl Tryd.func9 (by kernel_rfl) rfl #[.int .i64 a0, .int .u32 a1, .int .u64 a2, .int .u64 a3] rfl (by (try simp only [List.map_toArray, List.map_cons, List.map_nil]); first | done | rfl | (simp only [List.length_drop, List.length_take]; rfl)) ?_; (with_reducible refine (fix_Word.calls k a0 a1 a2 a3 t265 t266 _ ?side1 A5.out).mono ?_); (case side1 => exact Glob.below hG (by repeat (first | (with_reducible first | exact HB.out | apply below_alloc | apply pw_below_drewN | apply below_drew1) | exact HB.out))); rintro e w11 ⟨rfl, hb⟩; refine ⟨_, rfl, ?_⟩; have n0_ := Aside0.mk (below_step (by repeat (first | (with_reducible first | exact HB.out | apply below_alloc | apply pw_below_drewN | apply below_drew1) | exact HB.out)) hb); clear HB; have HB := n0_; clear n0_; (try clear hb); (try clear hb2); (try clear hk); (try clear hi)) | ((with_reducible refine gate_callee (f := 7) rfl ?_); refine goesL_ (some 30) rfl rfl Tryd.func7 (by kernel_rfl) rfl #[.int .i64 a0, .int .u64 a2, .int .u64 a3] rfl (by (try simp only [List.map_toArray, List.map_cons, List.map_nil]); first | done | rfl | (simp only [List.length_drop, List.length_take]; rfl)) ?_; (with_reducible refine (fix_Value.calls a0 a2 a3 t267 t268 _ A6.out).mono ?_); rintro e w12 ⟨rfl, hb⟩; refine ⟨_, rfl, ?_⟩; have n0_ := Aside0.mk (below_step (by repeat (first | (with_reducible first | exact HB.out | apply below_alloc | apply pw_below_drewN | apply below_drew1) | exact HB.out)) hb); clear HB; have HB := n0_; clear n0_; (try clear hb); (try clear hb2); (try clear hk); (try clear hi)) | ((with_reducible refine gate_callee (f := 16) rfl ?_); refine goesL_ (some 35) rfl rfl Tryd.func16 (by kernel_rfl) rfl #[.int .i64 a0, .int .u32 a1] rfl (by (try simp only [List.map_toArray, List.map_cons, List.map_nil]); first | done | rfl | (simp only [List.length_drop, List.length_take]; rfl)) ?_; (with_reducible refine (part_Fits.calls k a0 a1 t269 _ ?side1 A7.out).mono ?_); (case side1 => exact Glob.below hG (by repeat (first | (with_reducible first | exact HB.out | apply below_alloc | apply pw_below_drewN | apply below_drew1) | exact HB.out))); rintro e w13 ⟨rfl, hb⟩; refine ⟨_, rfl, ?_⟩; have n0_ := Aside0.mk (below_step (by repeat (first | (with_reducible first | exact HB.out | apply below_alloc | apply pw_below_drewN | apply below_drew1) | exact HB.out)) hb); clear HB; have HB := n0_; clear n0_; (try clear hb); (try clear hb2); (try clear hk); (try clear hi)) | ((with_reducible refine gate_callee (f := 17) rfl ?_); refine goesL_ (some 54) rfl rfl Tryd.func17 (by kernel_rfl) rfl #[.int .u32 t265] rfl (by (try simp only [List.map_toArray, List.map_cons, List.map_nil]); first | done | rfl | (simp only [List.length_drop, List.length_take]; rfl)) ?_; (with_reducible refine (code_Decode.calls k t265 t271 t272 t273 t274 t275 t276 t277 t278 t279 t280 t281 _ ?side1 A9.out).mono ?_); (case side1 => exact Glob.below hG (by repeat (first | (with_reducible first | exact HB.out | apply below_alloc | apply pw_below_drewN | apply below_drew1) | exact HB.out))); rintro e w14 ⟨rfl, hb⟩; refine ⟨_, rfl, ?_⟩; have n0_ := Aside0.mk (below_step (by repeat (first | (with_reducible first | exact HB.out | apply below_alloc | apply pw_below_drewN | apply below_drew1) | exact HB.out)) hb); clear HB; have HB := n0_; clear n0_; (try clear hb); (try clear hb2); (try clear hk); (try clear hi)) | ((with_reducible refine gate_dst (N := 14) rfl ?_); refine box_event ?hg (N := 14) ?hd (cs := #[.int .i64 0, .int .i64 0, .int .i64 0, .int .i64 0, .int .i64 0, .int .i64 0, .int .u64 0, .int .i64 0, .int .i64 0, .int .i64 0]) (t := 37) ?hr ?_; (case hd => rfl); (case hg => rfl); (case hr => first | (go_simp; done) | (go_simp; rfl)); intro gb282 hg w15 hbox hb; have n0_ := Aside0.mk (below_step (by repeat (first | (with_reducible first | exact HB.out | apply below_alloc | apply pw_below_drewN | apply below_drew1) | exact HB.out)) hb); have n1_ := Aside0.mk (hbox); have n2_ := Aside0.mk ((by rw [hg]; exact (below_size (by repeat (first | (with_reducible first | exact HB.out | apply below_alloc | apply pw_below_drewN | apply below_drew1) | exact HB.out))) : w.heap.size ≤ gb282)); have n3_ := Aside0.mk ((by rw [hg]; exact (below_size (by repeat (first | (with_reducible first | exact HB.out | apply below_alloc | apply pw_below_drewN | apply below_drew1) | exact HB.out))) : w.heap.size ≤ gb282)); clear HB; have HB := n0_; have BK282 := n1_; have GW282 := n2_; have GE282 := n3_; clear n0_ n1_ n2_ n3_; clear hb hbox hg; have hcz16_0 : w15.cell? ⟨gb282, 0, none⟩ = some (.int .i64 0) := (blk_cell BK282.out 0).trans rfl; have hcz16_1 : w15.cell? ⟨gb282, 1, none⟩ = some (.int .i64 0) := (blk_cell BK282.out 1).trans rfl; have hcz16_2 : w15.cell? ⟨gb282, 2, none⟩ = some (.int .i64 0) := (blk_cell BK282.out 2).trans rfl; have hcz16_3 : w15.cell? ⟨gb282, 3, none⟩ = some (.int .i64 0) := (blk_cell BK282.out 3).trans rfl; have hcz16_4 : w15.cell? ⟨gb282, 4, none⟩ = some (.int .i64 0) := (blk_cell BK282.out 4).trans rfl; have hcz16_5 : w15.cell? ⟨gb282, 5, none⟩ = some (.int .i64 0) := (blk_cell BK282.out 5).trans rfl; have hcz16_6 : w15.cell? ⟨gb282, 6, none⟩ = some (.int .u64 0) := (blk_cell BK282.out 6).trans rfl; have hcz16_7 : w15.cell? ⟨gb282, 7, none⟩ = some (.int .i64 0) := (blk_cell BK282.out 7).trans rfl; have hcz16_8 : w15.cell? ⟨gb282, 8, none⟩ = some (.int .i64 0) := (blk_cell BK282.out 8).trans rfl; have hcz16_9 : w15.cell? ⟨gb282, 9, none⟩ = some (.int .i64 0) := (blk_cell BK282.out 9).trans rfl; have hfz16_0 := blk_frozen BK282.out 0; have hfz16_1 := blk_frozen BK282.out 1; have hfz16_2 := blk_frozen BK282.out 2; have hfz16_3 := blk_frozen BK282.out 3; have hfz16_4 := blk_frozen BK282.out 4; have hfz16_5 := blk_frozen BK282.out 5; have hfz16_6 := blk_frozen BK282.out 6; have hfz16_7 := blk_frozen BK282.out 7; have hfz16_8 := blk_frozen BK282.out 8; have hfz16_9 := blk_frozen BK282.out 9) | ((with_reducible refine gate_store (t := 37) (p := 14) rfl ?_); refine store_event (t := 37) (p := 14) (v := ?vo_w17) (w1 := ((((((((((w15.setCell ⟨gb282, 0, none⟩ (.int .i64 t271)).setCell ⟨gb282, 1, none⟩ (.int .i64 t272)).setCell ⟨gb282, 2, none⟩ (.int .i64 t273)).setCell ⟨gb282, 3, none⟩ (.int .i64 t274)).setCell ⟨gb282, 4, none⟩ (.int .i64 t275)).setCell ⟨gb282, 5, none⟩ (.int .i64 t276)).setCell ⟨gb282, 6, none⟩ (.int .u64 t277)).setCell ⟨gb282, 7, none⟩ (.int .i64 t278)).setCell ⟨gb282, 8, none⟩ (.int .i64 t279)).setCell ⟨gb282, 9, none⟩ (.int .i64 t280))) ?hg ?ho ?hn ?hr ?_; (case ho => rfl); (case hg => rfl); (case hn => rfl); (case hr => first | (go_simp; done) | (go_simp; rfl)); intro w17 hw; have n0_ : Aside0 (w17.heap[gb282]? = some (.cells #[.int .i64 t271, .int .i64 t272, .int .i64 t273, .int .i64 t274, .int .i64 t275, .int .i64 t276, .int .u64 t277, .int .i64 t278, .int .i64 t279, .int .i64 t280] 37 (0, 0))) := ⟨(by rw [hw]; exact (by (with_reducible repeat (first | refine blk_drewN ?_ _ | refine blk_drew ?_ | refine blk_alloc ?_ _)); refine blk_put (cs := #[.int .i64 t271, .int .i64 t272, .int .i64 t273, .int .i64 t274, .int .i64 t275, .int .i64 t276, .int .u64 t277, .int .i64 t278, .int .i64 t279, .int .i64 0]) ?_ 9 _ rfl; (with_reducible repeat (first | refine blk_drewN ?_ _ | refine blk_drew ?_ | refine blk_alloc ?_ _)); refine blk_put (cs := #[.int .i64 t271, .int .i64 t272, .int .i64 t273, .int .i64 t274, .int .i64 t275, .int .i64 t276, .int .u64 t277, .int .i64 t278, .int .i64 0, .int .i64 0]) ?_ 8 _ rfl; (with_reducible repeat (first | refine blk_drewN ?_ _ | refine blk_drew ?_ | refine blk_alloc ?_ _)); refine blk_put (cs := #[.int .i64 t271, .int .i64 t272, .int .i64 t273, .int .i64 t274, .int .i64 t275, .int .i64 t276, .int .u64 t277, .int .i64 0, .int .i64 0, .int .i64 0]) ?_ 7 _ rfl; (with_reducible repeat (first | refine blk_drewN ?_ _ | refine blk_drew ?_ | refine blk_alloc ?_ _)); refine blk_put (cs := #[.int .i64 t271, .int .i64 t272, .int .i64 t273, .int .i64 t274, .int .i64 t275, .int .i64 t276, .int .u64 0, .int .i64 0, .int .i64 0, .int .i64 0]) ?_ 6 _ rfl; (with_reducible repeat (first | refine blk_drewN ?_ _ | refine blk_drew ?_ | refine blk_alloc ?_ _)); refine blk_put (cs := #[.int .i64 t271, .int .i64 t272, .int .i64 t273, .int .i64 t274, .int .i64 t275, .int .i64 0, .int .u64 0, .int .i64 0, .int .i64 0, .int .i64 0]) ?_ 5 _ rfl; (with_reducible repeat (first | refine blk_drewN ?_ _ | refine blk_drew ?_ | refine blk_alloc ?_ _)); refine blk_put (cs := #[.int .i64 t271, .int .i64 t272, .int .i64 t273, .int .i64 t274, .int .i64 0, .int .i64 0, .int .u64 0, .int .i64 0, .int .i64 0, .int .i64 0]) ?_ 4 _ rfl; (with_reducible repeat (first | refine blk_drewN ?_ _ | refine blk_drew ?_ | refine blk_alloc ?_ _)); refine blk_put (cs := #[.int .i64 t271, .int .i64 t272, .int .i64 t273, .int .i64 0, .int .i64 0, .int .i64 0, .int .u64 0, .int .i64 0, .int .i64 0, .int .i64 0]) ?_ 3 _ rfl; (with_reducible repeat (first | refine blk_drewN ?_ _ | refine blk_drew ?_ | refine blk_alloc ?_ _)); refine blk_put (cs := #[.int .i64 t271, .int .i64 t272, .int .i64 0, .int .i64 0, .int .i64 0, .int .i64 0, .int .u64 0, .int .i64 0, .int .i64 0, .int .i64 0]) ?_ 2 _ rfl; (with_reducible repeat (first | refine blk_drewN ?_ _ | refine blk_drew ?_ | refine blk_alloc ?_ _)); refine blk_put (cs := #[.int .i64 t271, .int .i64 0, .int .i64 0, .int .i64 0, .int .i64 0, .int .i64 0, .int .u64 0, .int .i64 0, .int .i64 0, .int .i64 0]) ?_ 1 _ rfl; (with_reducible repeat (first | refine blk_drewN ?_ _ | refine blk_drew ?_ | refine blk_alloc ?_ _)); refine blk_put (cs := #[.int .i64 0, .int .i64 0, .int .i64 0, .int .i64 0, .int .i64 0, .int .i64 0, .int .u64 0, .int .i64 0, .int .i64 0, .int .i64 0]) ?_ 0 _ rfl; (with_reducible repeat (first | refine blk_drewN ?_ _ | refine blk_drew ?_ | refine blk_alloc ?_ _)); exact BK282.out))⟩; have n1_ : Aside0 (Below w.heap.size w w17) := ⟨(by rw [hw]; exact (by repeat (first | (with_reducible first | exact HB.out | apply below_alloc | apply pw_below_drewN | apply below_drew1 | refine below_set ?_ GE282.out) | exact HB.out)))⟩; clear hw; clear BK282; clear HB; have BK282 := n0_; have HB := n1_; clear n0_ n1_))
    (try simp only [Act.put, List.setIfInBounds_toArray, List.set_cons_zero, List.set_cons_succ])
    go_cut [73] (fun v73 wc => ∃ (kq : Nat) (x73_9 : Bool), v73 = .bool x73_9 ∧ Aside0 (cleatlaw26_FixOnly.j0 kq a1 x73_9 t271 t272 t273 t274 t275 t276 t277 t278 t279 t280 = some r) ∧ Aside0 (kq ≤ k) ∧ Aside0 (wc.heap[gb282]? = some (.cells #[.int .i64 t271, .int .i64 t272, .int .i64 t273, .int .i64 t274, .int .i64 t275, .int .i64 t276, .int .u64 t277, .int .i64 t278, .int .i64 t279, .int .i64 t280] 37 (0, 0))) ∧ Aside0 (Below w.heap.size w wc))
    case first =>
      have H := HC10.out
      clear HC10
      by_cases c18 : t269 = true
      · subst c18
        have H1 : (if t268 = 0 then (if t281 = 0 then (cleatlaw26_FixOnly.j0 k a1 (t276 != (wrap64 (t267))) t271 t272 t273 t274 t275 t276 t277 t278 t279 t280) else (cleatlaw26_FixOnly.j0 k a1 true t271 t272 t273 t274 t275 t276 t277 t278 t279 t280)) else (cleatlaw26_FixOnly.j0 k a1 true t271 t272 t273 t274 t275 t276 t277 t278 t279 t280)) = some r := by rw [if_pos rfl] at H; exact H
        clear H
        have H := H1
        clear H1
        by_cases c19 : t268 = 0
        · rw [if_pos c19] at H
          have c19b0 : (t268 == 0) = true := beq_iff_eq.mpr c19
          have c19b1 : (t268 != 0) = false := bne_eq_false_iff_eq.mpr c19
          clear c19
          (first | rw [c19b0] | (simp only [i64_w, i32_w]; rw [c19b0]) | skip)
          by_cases c20 : t281 = 0
          · rw [if_pos c20] at H
            have c20b0 : (t281 == 0) = true := beq_iff_eq.mpr c20
            have c20b1 : (t281 != 0) = false := bne_eq_false_iff_eq.mpr c20
            clear c20
            have H' := Aside0.mk H
            clear H
            have hcz21_0 : w17.cell? ⟨gb282, 0, none⟩ = some (.int .i64 t271) := (blk_cell BK282.out 0).trans rfl
            have hcz21_1 : w17.cell? ⟨gb282, 1, none⟩ = some (.int .i64 t272) := (blk_cell BK282.out 1).trans rfl
            have hcz21_2 : w17.cell? ⟨gb282, 2, none⟩ = some (.int .i64 t273) := (blk_cell BK282.out 2).trans rfl
            have hcz21_3 : w17.cell? ⟨gb282, 3, none⟩ = some (.int .i64 t274) := (blk_cell BK282.out 3).trans rfl
            have hcz21_4 : w17.cell? ⟨gb282, 4, none⟩ = some (.int .i64 t275) := (blk_cell BK282.out 4).trans rfl
            have hcz21_5 : w17.cell? ⟨gb282, 5, none⟩ = some (.int .i64 t276) := (blk_cell BK282.out 5).trans rfl
            have hcz21_6 : w17.cell? ⟨gb282, 6, none⟩ = some (.int .u64 t277) := (blk_cell BK282.out 6).trans rfl
            have hcz21_7 : w17.cell? ⟨gb282, 7, none⟩ = some (.int .i64 t278) := (blk_cell BK282.out 7).trans rfl
            have hcz21_8 : w17.cell? ⟨gb282, 8, none⟩ = some (.int .i64 t279) := (blk_cell BK282.out 8).trans rfl
            have hcz21_9 : w17.cell? ⟨gb282, 9, none⟩ = some (.int .i64 t280) := (blk_cell BK282.out 9).trans rfl
            have hfz21_0 := blk_frozen BK282.out 0
            have hfz21_1 := blk_frozen BK282.out 1
            have hfz21_2 := blk_frozen BK282.out 2
            have hfz21_3 := blk_frozen BK282.out 3
            have hfz21_4 := blk_frozen BK282.out 4
            have hfz21_5 := blk_frozen BK282.out 5
            have hfz21_6 := blk_frozen BK282.out 6
            have hfz21_7 := blk_frozen BK282.out 7
            have hfz21_8 := blk_frozen BK282.out 8
            have hfz21_9 := blk_frozen BK282.out 9
            go_wp2
            go_meet
            case rel => exact ⟨_, ((t276 != (wrap64 (t267)))), (by first | rfl | (simp; done) | (simp [*]; done)), H', ⟨by first | omega | exact Nat.le_refl _⟩, ⟨by (with_reducible repeat (first | refine blk_drewN ?_ _ | refine blk_drew ?_ | refine blk_alloc ?_ _)); exact BK282.out⟩, ⟨by repeat (first | (with_reducible first | exact HB.out | apply below_alloc | apply pw_below_drewN | apply below_drew1 | refine below_set ?_ GE282.out) | exact HB.out)⟩⟩
          · rw [if_neg c20] at H
            have c20b0 : (t281 == 0) = false := beq_eq_false_iff_ne.mpr c20
            have c20b1 : (t281 != 0) = true := bne_iff_ne.mpr c20
            have H' := Aside0.mk H
            clear H
            go_wp2
            go_meet
            case rel => exact ⟨_, (true), (by first | rfl | (simp; done) | (simp [*]; done)), H', ⟨by first | omega | exact Nat.le_refl _⟩, ⟨by (with_reducible repeat (first | refine blk_drewN ?_ _ | refine blk_drew ?_ | refine blk_alloc ?_ _)); exact BK282.out⟩, ⟨by repeat (first | (with_reducible first | exact HB.out | apply below_alloc | apply pw_below_drewN | apply below_drew1 | refine below_set ?_ GE282.out) | exact HB.out)⟩⟩
        · rw [if_neg c19] at H
          have c19b0 : (t268 == 0) = false := beq_eq_false_iff_ne.mpr c19
          have c19b1 : (t268 != 0) = true := bne_iff_ne.mpr c19
          (first | rw [c19b0] | (simp only [i64_w, i32_w]; rw [c19b0]) | skip)
          have H' := Aside0.mk H
          clear H
          go_wp2
          go_meet
          case rel => exact ⟨_, (true), (by first | rfl | (simp; done) | (simp [*]; done)), H', ⟨by first | omega | exact Nat.le_refl _⟩, ⟨by (with_reducible repeat (first | refine blk_drewN ?_ _ | refine blk_drew ?_ | refine blk_alloc ?_ _)); exact BK282.out⟩, ⟨by repeat (first | (with_reducible first | exact HB.out | apply below_alloc | apply pw_below_drewN | apply below_drew1 | refine below_set ?_ GE282.out) | exact HB.out)⟩⟩
      · replace c18 := Bool.eq_false_iff.mpr c18
        subst c18
        have H1 : (cleatlaw26_FixOnly.j0 k a1 true t271 t272 t273 t274 t275 t276 t277 t278 t279 t280) = some r := by rw [if_neg (show ¬ (false = true) by decide)] at H; exact H
        clear H
        have H := H1
        clear H1
        have H' := Aside0.mk H
        clear H
        go_wp2
        go_meet
        case rel => exact ⟨_, (true), (by first | rfl | (simp; done) | (simp [*]; done)), H', ⟨by first | omega | exact Nat.le_refl _⟩, ⟨by (with_reducible repeat (first | refine blk_drewN ?_ _ | refine blk_drew ?_ | refine blk_alloc ?_ _)); exact BK282.out⟩, ⟨by repeat (first | (with_reducible first | exact HB.out | apply below_alloc | apply pw_below_drewN | apply below_drew1 | refine below_set ?_ GE282.out) | exact HB.out)⟩⟩
    case rest =>
      clear HC10
      try clear c1
      try clear c2
      try clear p2
      try clear c5
      try clear p6
      try clear c7
      try clear c8
      try clear c8b0
      try clear c8b1
      try clear c9
      try clear c16
      try clear c17
      try clear c18
      try clear c19
      try clear c19b0
      try clear c19b1
      try clear c20
      try clear c20b0
      try clear c20b1
      try clear hcz16_0
      try clear hcz16_1
      try clear hcz16_2
      try clear hcz16_3
      try clear hcz16_4
      try clear hcz16_5
      try clear hcz16_6
      try clear hcz16_7
      try clear hcz16_8
      try clear hcz16_9
      try clear hcz21_0
      try clear hcz21_1
      try clear hcz21_2
      try clear hcz21_3
      try clear hcz21_4
      try clear hcz21_5
      try clear hcz21_6
      try clear hcz21_7
      try clear hcz21_8
      try clear hcz21_9
      try clear hfz16_0
      try clear hfz16_1
      try clear hfz16_2
      try clear hfz16_3
      try clear hfz16_4
      try clear hfz16_5
      try clear hfz16_6
      try clear hfz16_7
      try clear hfz16_8
      try clear hfz16_9
      try clear hfz21_0
      try clear hfz21_1
      try clear hfz21_2
      try clear hfz21_3
      try clear hfz21_4
      try clear hfz21_5
      try clear hfz21_6
      try clear hfz21_7
      try clear hfz21_8
      try clear hfz21_9
      obtain ⟨kq, x73_9, rfl, HA, HJ9, BK282, HB⟩ := hcut
      cases kq with
      | zero => exact absurd HA.out (by simp [cleatlaw26_FixOnly.j0])
      | succ kj9 =>
        have H := HA.out
        clear HA
        simp only [cleatlaw26_FixOnly.j0] at H
        by_cases c22 : x73_9 = true
        · subst c22
          have H1 : (some false) = some r := by rw [if_pos rfl] at H; exact H
          clear H
          have H := H1
          clear H1
          obtain rfl := Option.some.inj H
          go_wp2
          go_ret
          exact ⟨by first | rfl | (simp [errW_none, errW_some] <;> rfl) | (simp [*, errW_none, errW_some] <;> rfl), by repeat (first | (with_reducible first | exact HB.out | apply below_alloc | apply pw_below_drewN | apply below_drew1 | refine below_set ?_ GE282.out) | exact HB.out)⟩
        · replace c22 := Bool.eq_false_iff.mpr c22
          subst c22
          have H1 : ((code_Encode.f kj9 t271 t272 t273 t274 t275 0 t277 t278 t279 t280).bind fun bt283 => ((cleatlaw26_fixed.f kj9).bind fun t285 => (if t285 = true then (if bt283.2 = 0 then (some (bt283.1 == a1)) else (some false)) else (some false)))) = some r := by rw [if_neg (show ¬ (false = true) by decide)] at H; exact H
          clear H
          have H := H1
          clear H1
          replace H := Option.bind_eq_some_iff.mp H
          obtain ⟨⟨t283, t284⟩, A230, H⟩ := H
          replace H : ((cleatlaw26_fixed.f kj9).bind fun t285 => (if t285 = true then (if t284 = 0 then (some (t283 == a1)) else (some false)) else (some false))) = some r := H
          have A23 := Aside0.mk A230
          clear A230
          replace H := Option.bind_eq_some_iff.mp H
          obtain ⟨t285, A240, H⟩ := H
          replace H : (if t285 = true then (if t284 = 0 then (some (t283 == a1)) else (some false)) else (some false)) = some r := H
          have A24 := Aside0.mk A240
          clear A240
          by_cases c25 : t285 = true
          · subst c25
            have H1 : (if t284 = 0 then (some (t283 == a1)) else (some false)) = some r := by rw [if_pos rfl] at H; exact H
            clear H
            have H := H1
            clear H1
            by_cases c26 : t284 = 0
            · rw [if_pos c26] at H
              have c26b0 : (t284 == 0) = true := beq_iff_eq.mpr c26
              have c26b1 : (t284 != 0) = false := bne_eq_false_iff_eq.mpr c26
              clear c26
              obtain rfl := Option.some.inj H
              have hcz27_0 : wc.cell? ⟨gb282, 0, none⟩ = some (.int .i64 t271) := (blk_cell BK282.out 0).trans rfl
              have hcz27_1 : wc.cell? ⟨gb282, 1, none⟩ = some (.int .i64 t272) := (blk_cell BK282.out 1).trans rfl
              have hcz27_2 : wc.cell? ⟨gb282, 2, none⟩ = some (.int .i64 t273) := (blk_cell BK282.out 2).trans rfl
              have hcz27_3 : wc.cell? ⟨gb282, 3, none⟩ = some (.int .i64 t274) := (blk_cell BK282.out 3).trans rfl
              have hcz27_4 : wc.cell? ⟨gb282, 4, none⟩ = some (.int .i64 t275) := (blk_cell BK282.out 4).trans rfl
              have hcz27_5 : wc.cell? ⟨gb282, 5, none⟩ = some (.int .i64 t276) := (blk_cell BK282.out 5).trans rfl
              have hcz27_6 : wc.cell? ⟨gb282, 6, none⟩ = some (.int .u64 t277) := (blk_cell BK282.out 6).trans rfl
              have hcz27_7 : wc.cell? ⟨gb282, 7, none⟩ = some (.int .i64 t278) := (blk_cell BK282.out 7).trans rfl
              have hcz27_8 : wc.cell? ⟨gb282, 8, none⟩ = some (.int .i64 t279) := (blk_cell BK282.out 8).trans rfl
              have hcz27_9 : wc.cell? ⟨gb282, 9, none⟩ = some (.int .i64 t280) := (blk_cell BK282.out 9).trans rfl
              have hfz27_0 := blk_frozen BK282.out 0
              have hfz27_1 := blk_frozen BK282.out 1
              have hfz27_2 := blk_frozen BK282.out 2
              have hfz27_3 := blk_frozen BK282.out 3
              have hfz27_4 := blk_frozen BK282.out 4
              have hfz27_5 := blk_frozen BK282.out 5
              have hfz27_6 := blk_frozen BK282.out 6
              have hfz27_7 := blk_frozen BK282.out 7
              have hfz27_8 := blk_frozen BK282.out 8
              have hfz27_9 := blk_frozen BK282.out 9
              go_wp2_with (first | ((with_reducible refine gate_callee (f := 18) rfl ?_); refine goesL_ (some 77) rfl rfl Tryd.func18 (by kernel_rfl) rfl #[.agg #[.int .i64 t271, .int .i64 t272, .int .i64 t273, .int .i64 t274, .int .i64 t275, .int .i64 0, .int .u64 t277, .int .i64 t278, .int .i64 t279, .int .i64 t280]] rfl (by (try simp only [List.map_toArray, List.map_cons, List.map_nil]); first | done | rfl | (simp only [List.length_drop, List.length_take]; rfl)) ?_; (with_reducible refine (code_Encode.calls kj9 t271 t272 t273 t274 t275 0 t277 t278 t279 t280 t283 t284 _ ?side1 A23.out).mono ?_); (case side1 => exact Glob.below hG (by repeat (first | (with_reducible first | exact HB.out | apply below_alloc | apply pw_below_drewN | apply below_drew1 | refine below_set ?_ GE282.out) | exact HB.out))); rintro e w28 ⟨rfl, hb⟩; refine ⟨_, rfl, ?_⟩; have n0_ := Aside0.mk (blk_below (g := gb282) (o := .cells #[.int .i64 t271, .int .i64 t272, .int .i64 t273, .int .i64 t274, .int .i64 t275, .int .i64 0, .int .u64 t277, .int .i64 t278, .int .i64 t279, .int .i64 t280] 37 (0, 0)) (by (with_reducible repeat (first | refine blk_drewN ?_ _ | refine blk_drew ?_ | refine blk_alloc ?_ _)); refine blk_put (cs := #[.int .i64 t271, .int .i64 t272, .int .i64 t273, .int .i64 t274, .int .i64 t275, .int .i64 t276, .int .u64 t277, .int .i64 t278, .int .i64 t279, .int .i64 t280]) ?_ 5 _ rfl; (with_reducible repeat (first | refine blk_drewN ?_ _ | refine blk_drew ?_ | refine blk_alloc ?_ _)); exact BK282.out) hb); have n1_ := Aside0.mk (below_step (by repeat (first | (with_reducible first | exact HB.out | apply below_alloc | apply pw_below_drewN | apply below_drew1 | refine below_set ?_ GE282.out) | exact HB.out)) hb); clear BK282; clear HB; have BK282 := n0_; have HB := n1_; clear n0_ n1_; (try clear hb); (try clear hb2); (try clear hk); (try clear hi)) | ((with_reducible refine gate_callee (f := 15) rfl ?_); refine goesL_ (some 80) rfl rfl Tryd.func15 (by kernel_rfl) rfl #[] rfl (by (try simp only [List.map_toArray, List.map_cons, List.map_nil]); first | done | rfl | (simp only [List.length_drop, List.length_take]; rfl)) ?_; (with_reducible refine (cleatlaw26_fixed.calls kj9  true _ ?side1 A24.out).mono ?_); (case side1 => exact Glob.below hG (by repeat (first | (with_reducible first | exact HB.out | apply below_alloc | apply pw_below_drewN | apply below_drew1 | refine below_set ?_ GE282.out) | exact HB.out))); rintro e w29 ⟨rfl, hb⟩; refine ⟨_, rfl, ?_⟩; have n0_ := Aside0.mk (blk_below (g := gb282) (o := .cells #[.int .i64 t271, .int .i64 t272, .int .i64 t273, .int .i64 t274, .int .i64 t275, .int .i64 0, .int .u64 t277, .int .i64 t278, .int .i64 t279, .int .i64 t280] 37 (0, 0)) (by (with_reducible repeat (first | refine blk_drewN ?_ _ | refine blk_drew ?_ | refine blk_alloc ?_ _)); exact BK282.out) hb); have n1_ := Aside0.mk (below_step (by repeat (first | (with_reducible first | exact HB.out | apply below_alloc | apply pw_below_drewN | apply below_drew1 | refine below_set ?_ GE282.out) | exact HB.out)) hb); clear BK282; clear HB; have BK282 := n0_; have HB := n1_; clear n0_ n1_; (try clear hb); (try clear hb2); (try clear hk); (try clear hi)))
              go_ret
              exact ⟨by first | rfl | (simp [errW_none, errW_some] <;> rfl) | (simp [*, errW_none, errW_some] <;> rfl), by repeat (first | (with_reducible first | exact HB.out | apply below_alloc | apply pw_below_drewN | apply below_drew1 | refine below_set ?_ GE282.out) | exact HB.out)⟩
            · rw [if_neg c26] at H
              have c26b0 : (t284 == 0) = false := beq_eq_false_iff_ne.mpr c26
              have c26b1 : (t284 != 0) = true := bne_iff_ne.mpr c26
              obtain rfl := Option.some.inj H
              have hcz30_0 : wc.cell? ⟨gb282, 0, none⟩ = some (.int .i64 t271) := (blk_cell BK282.out 0).trans rfl
              have hcz30_1 : wc.cell? ⟨gb282, 1, none⟩ = some (.int .i64 t272) := (blk_cell BK282.out 1).trans rfl
              have hcz30_2 : wc.cell? ⟨gb282, 2, none⟩ = some (.int .i64 t273) := (blk_cell BK282.out 2).trans rfl
              have hcz30_3 : wc.cell? ⟨gb282, 3, none⟩ = some (.int .i64 t274) := (blk_cell BK282.out 3).trans rfl
              have hcz30_4 : wc.cell? ⟨gb282, 4, none⟩ = some (.int .i64 t275) := (blk_cell BK282.out 4).trans rfl
              have hcz30_5 : wc.cell? ⟨gb282, 5, none⟩ = some (.int .i64 t276) := (blk_cell BK282.out 5).trans rfl
              have hcz30_6 : wc.cell? ⟨gb282, 6, none⟩ = some (.int .u64 t277) := (blk_cell BK282.out 6).trans rfl
              have hcz30_7 : wc.cell? ⟨gb282, 7, none⟩ = some (.int .i64 t278) := (blk_cell BK282.out 7).trans rfl
              have hcz30_8 : wc.cell? ⟨gb282, 8, none⟩ = some (.int .i64 t279) := (blk_cell BK282.out 8).trans rfl
              have hcz30_9 : wc.cell? ⟨gb282, 9, none⟩ = some (.int .i64 t280) := (blk_cell BK282.out 9).trans rfl
              have hfz30_0 := blk_frozen BK282.out 0
              have hfz30_1 := blk_frozen BK282.out 1
              have hfz30_2 := blk_frozen BK282.out 2
              have hfz30_3 := blk_frozen BK282.out 3
              have hfz30_4 := blk_frozen BK282.out 4
              have hfz30_5 := blk_frozen BK282.out 5
              have hfz30_6 := blk_frozen BK282.out 6
              have hfz30_7 := blk_frozen BK282.out 7
              have hfz30_8 := blk_frozen BK282.out 8
              have hfz30_9 := blk_frozen BK282.out 9
              go_wp2_with (first | ((with_reducible refine gate_callee (f := 18) rfl ?_); refine goesL_ (some 77) rfl rfl Tryd.func18 (by kernel_rfl) rfl #[.agg #[.int .i64 t271, .int .i64 t272, .int .i64 t273, .int .i64 t274, .int .i64 t275, .int .i64 0, .int .u64 t277, .int .i64 t278, .int .i64 t279, .int .i64 t280]] rfl (by (try simp only [List.map_toArray, List.map_cons, List.map_nil]); first | done | rfl | (simp only [List.length_drop, List.length_take]; rfl)) ?_; (with_reducible refine (code_Encode.calls kj9 t271 t272 t273 t274 t275 0 t277 t278 t279 t280 t283 t284 _ ?side1 A23.out).mono ?_); (case side1 => exact Glob.below hG (by repeat (first | (with_reducible first | exact HB.out | apply below_alloc | apply pw_below_drewN | apply below_drew1 | refine below_set ?_ GE282.out) | exact HB.out))); rintro e w31 ⟨rfl, hb⟩; refine ⟨_, rfl, ?_⟩; have n0_ := Aside0.mk (blk_below (g := gb282) (o := .cells #[.int .i64 t271, .int .i64 t272, .int .i64 t273, .int .i64 t274, .int .i64 t275, .int .i64 0, .int .u64 t277, .int .i64 t278, .int .i64 t279, .int .i64 t280] 37 (0, 0)) (by (with_reducible repeat (first | refine blk_drewN ?_ _ | refine blk_drew ?_ | refine blk_alloc ?_ _)); refine blk_put (cs := #[.int .i64 t271, .int .i64 t272, .int .i64 t273, .int .i64 t274, .int .i64 t275, .int .i64 t276, .int .u64 t277, .int .i64 t278, .int .i64 t279, .int .i64 t280]) ?_ 5 _ rfl; (with_reducible repeat (first | refine blk_drewN ?_ _ | refine blk_drew ?_ | refine blk_alloc ?_ _)); exact BK282.out) hb); have n1_ := Aside0.mk (below_step (by repeat (first | (with_reducible first | exact HB.out | apply below_alloc | apply pw_below_drewN | apply below_drew1 | refine below_set ?_ GE282.out) | exact HB.out)) hb); clear BK282; clear HB; have BK282 := n0_; have HB := n1_; clear n0_ n1_; (try clear hb); (try clear hb2); (try clear hk); (try clear hi)) | ((with_reducible refine gate_callee (f := 15) rfl ?_); refine goesL_ (some 80) rfl rfl Tryd.func15 (by kernel_rfl) rfl #[] rfl (by (try simp only [List.map_toArray, List.map_cons, List.map_nil]); first | done | rfl | (simp only [List.length_drop, List.length_take]; rfl)) ?_; (with_reducible refine (cleatlaw26_fixed.calls kj9  true _ ?side1 A24.out).mono ?_); (case side1 => exact Glob.below hG (by repeat (first | (with_reducible first | exact HB.out | apply below_alloc | apply pw_below_drewN | apply below_drew1 | refine below_set ?_ GE282.out) | exact HB.out))); rintro e w32 ⟨rfl, hb⟩; refine ⟨_, rfl, ?_⟩; have n0_ := Aside0.mk (blk_below (g := gb282) (o := .cells #[.int .i64 t271, .int .i64 t272, .int .i64 t273, .int .i64 t274, .int .i64 t275, .int .i64 0, .int .u64 t277, .int .i64 t278, .int .i64 t279, .int .i64 t280] 37 (0, 0)) (by (with_reducible repeat (first | refine blk_drewN ?_ _ | refine blk_drew ?_ | refine blk_alloc ?_ _)); exact BK282.out) hb); have n1_ := Aside0.mk (below_step (by repeat (first | (with_reducible first | exact HB.out | apply below_alloc | apply pw_below_drewN | apply below_drew1 | refine below_set ?_ GE282.out) | exact HB.out)) hb); clear BK282; clear HB; have BK282 := n0_; have HB := n1_; clear n0_ n1_; (try clear hb); (try clear hb2); (try clear hk); (try clear hi)))
              go_ret
              exact ⟨by first | rfl | (simp [errW_none, errW_some] <;> rfl) | (simp [*, errW_none, errW_some] <;> rfl), by repeat (first | (with_reducible first | exact HB.out | apply below_alloc | apply pw_below_drewN | apply below_drew1 | refine below_set ?_ GE282.out) | exact HB.out)⟩
          · replace c25 := Bool.eq_false_iff.mpr c25
            subst c25
            have H1 : (some false) = some r := by rw [if_neg (show ¬ (false = true) by decide)] at H; exact H
            clear H
            have H := H1
            clear H1
            obtain rfl := Option.some.inj H
            have hcz33_0 : wc.cell? ⟨gb282, 0, none⟩ = some (.int .i64 t271) := (blk_cell BK282.out 0).trans rfl
            have hcz33_1 : wc.cell? ⟨gb282, 1, none⟩ = some (.int .i64 t272) := (blk_cell BK282.out 1).trans rfl
            have hcz33_2 : wc.cell? ⟨gb282, 2, none⟩ = some (.int .i64 t273) := (blk_cell BK282.out 2).trans rfl
            have hcz33_3 : wc.cell? ⟨gb282, 3, none⟩ = some (.int .i64 t274) := (blk_cell BK282.out 3).trans rfl
            have hcz33_4 : wc.cell? ⟨gb282, 4, none⟩ = some (.int .i64 t275) := (blk_cell BK282.out 4).trans rfl
            have hcz33_5 : wc.cell? ⟨gb282, 5, none⟩ = some (.int .i64 t276) := (blk_cell BK282.out 5).trans rfl
            have hcz33_6 : wc.cell? ⟨gb282, 6, none⟩ = some (.int .u64 t277) := (blk_cell BK282.out 6).trans rfl
            have hcz33_7 : wc.cell? ⟨gb282, 7, none⟩ = some (.int .i64 t278) := (blk_cell BK282.out 7).trans rfl
            have hcz33_8 : wc.cell? ⟨gb282, 8, none⟩ = some (.int .i64 t279) := (blk_cell BK282.out 8).trans rfl
            have hcz33_9 : wc.cell? ⟨gb282, 9, none⟩ = some (.int .i64 t280) := (blk_cell BK282.out 9).trans rfl
            have hfz33_0 := blk_frozen BK282.out 0
            have hfz33_1 := blk_frozen BK282.out 1
            have hfz33_2 := blk_frozen BK282.out 2
            have hfz33_3 := blk_frozen BK282.out 3
            have hfz33_4 := blk_frozen BK282.out 4
            have hfz33_5 := blk_frozen BK282.out 5
            have hfz33_6 := blk_frozen BK282.out 6
            have hfz33_7 := blk_frozen BK282.out 7
            have hfz33_8 := blk_frozen BK282.out 8
            have hfz33_9 := blk_frozen BK282.out 9
            go_wp2_with (first | ((with_reducible refine gate_callee (f := 18) rfl ?_); refine goesL_ (some 77) rfl rfl Tryd.func18 (by kernel_rfl) rfl #[.agg #[.int .i64 t271, .int .i64 t272, .int .i64 t273, .int .i64 t274, .int .i64 t275, .int .i64 0, .int .u64 t277, .int .i64 t278, .int .i64 t279, .int .i64 t280]] rfl (by (try simp only [List.map_toArray, List.map_cons, List.map_nil]); first | done | rfl | (simp only [List.length_drop, List.length_take]; rfl)) ?_; (with_reducible refine (code_Encode.calls kj9 t271 t272 t273 t274 t275 0 t277 t278 t279 t280 t283 t284 _ ?side1 A23.out).mono ?_); (case side1 => exact Glob.below hG (by repeat (first | (with_reducible first | exact HB.out | apply below_alloc | apply pw_below_drewN | apply below_drew1 | refine below_set ?_ GE282.out) | exact HB.out))); rintro e w34 ⟨rfl, hb⟩; refine ⟨_, rfl, ?_⟩; have n0_ := Aside0.mk (blk_below (g := gb282) (o := .cells #[.int .i64 t271, .int .i64 t272, .int .i64 t273, .int .i64 t274, .int .i64 t275, .int .i64 0, .int .u64 t277, .int .i64 t278, .int .i64 t279, .int .i64 t280] 37 (0, 0)) (by (with_reducible repeat (first | refine blk_drewN ?_ _ | refine blk_drew ?_ | refine blk_alloc ?_ _)); refine blk_put (cs := #[.int .i64 t271, .int .i64 t272, .int .i64 t273, .int .i64 t274, .int .i64 t275, .int .i64 t276, .int .u64 t277, .int .i64 t278, .int .i64 t279, .int .i64 t280]) ?_ 5 _ rfl; (with_reducible repeat (first | refine blk_drewN ?_ _ | refine blk_drew ?_ | refine blk_alloc ?_ _)); exact BK282.out) hb); have n1_ := Aside0.mk (below_step (by repeat (first | (with_reducible first | exact HB.out | apply below_alloc | apply pw_below_drewN | apply below_drew1 | refine below_set ?_ GE282.out) | exact HB.out)) hb); clear BK282; clear HB; have BK282 := n0_; have HB := n1_; clear n0_ n1_; (try clear hb); (try clear hb2); (try clear hk); (try clear hi)) | ((with_reducible refine gate_callee (f := 15) rfl ?_); refine goesL_ (some 80) rfl rfl Tryd.func15 (by kernel_rfl) rfl #[] rfl (by (try simp only [List.map_toArray, List.map_cons, List.map_nil]); first | done | rfl | (simp only [List.length_drop, List.length_take]; rfl)) ?_; (with_reducible refine (cleatlaw26_fixed.calls kj9  false _ ?side1 A24.out).mono ?_); (case side1 => exact Glob.below hG (by repeat (first | (with_reducible first | exact HB.out | apply below_alloc | apply pw_below_drewN | apply below_drew1 | refine below_set ?_ GE282.out) | exact HB.out))); rintro e w35 ⟨rfl, hb⟩; refine ⟨_, rfl, ?_⟩; have n0_ := Aside0.mk (blk_below (g := gb282) (o := .cells #[.int .i64 t271, .int .i64 t272, .int .i64 t273, .int .i64 t274, .int .i64 t275, .int .i64 0, .int .u64 t277, .int .i64 t278, .int .i64 t279, .int .i64 t280] 37 (0, 0)) (by (with_reducible repeat (first | refine blk_drewN ?_ _ | refine blk_drew ?_ | refine blk_alloc ?_ _)); exact BK282.out) hb); have n1_ := Aside0.mk (below_step (by repeat (first | (with_reducible first | exact HB.out | apply below_alloc | apply pw_below_drewN | apply below_drew1 | refine below_set ?_ GE282.out) | exact HB.out)) hb); clear BK282; clear HB; have BK282 := n0_; have HB := n1_; clear n0_ n1_; (try clear hb); (try clear hb2); (try clear hk); (try clear hi)))
            go_ret
            exact ⟨by first | rfl | (simp [errW_none, errW_some] <;> rfl) | (simp [*, errW_none, errW_some] <;> rfl), by repeat (first | (with_reducible first | exact HB.out | apply below_alloc | apply pw_below_drewN | apply below_drew1 | refine below_set ?_ GE282.out) | exact HB.out)⟩
  · rw [if_neg c8] at H
    have c8b0 : (t266 == 0) = false := beq_eq_false_iff_ne.mpr c8
    have c8b1 : (t266 != 0) = true := bne_iff_ne.mpr c8
    replace H := Option.bind_eq_some_iff.mp H
    obtain ⟨t270, A360, H⟩ := H
    replace H : (if t270 = true then (if t265 = 0 then (if t269 = true then (some (t268 == t266)) else (some true)) else (some false)) else (some false)) = some r := H
    have A36 := Aside0.mk A360
    clear A360
    by_cases c37 : t270 = true
    · subst c37
      have H1 : (if t265 = 0 then (if t269 = true then (some (t268 == t266)) else (some true)) else (some false)) = some r := by rw [if_pos rfl] at H; exact H
      clear H
      have H := H1
      clear H1
      by_cases c38 : t265 = 0
      · rw [if_pos c38] at H
        have c38b0 : (t265 == 0) = true := beq_iff_eq.mpr c38
        have c38b1 : (t265 != 0) = false := bne_eq_false_iff_eq.mpr c38
        clear c38
        by_cases c39 : t269 = true
        · subst c39
          have H1 : (some (t268 == t266)) = some r := by rw [if_pos rfl] at H; exact H
          clear H
          have H := H1
          clear H1
          obtain rfl := Option.some.inj H
          go_enter Tryd.func5, Tryd.ntmps5
          go_wp2_with (first | ((with_reducible refine gate_callee (f := 9) rfl ?_); refine goesL_ (some 23) rfl rfl Tryd.func9 (by kernel_rfl) rfl #[.int .i64 a0, .int .u32 a1, .int .u64 a2, .int .u64 a3] rfl (by (try simp only [List.map_toArray, List.map_cons, List.map_nil]); first | done | rfl | (simp only [List.length_drop, List.length_take]; rfl)) ?_; (with_reducible refine (fix_Word.calls k a0 a1 a2 a3 t265 t266 _ ?side1 A5.out).mono ?_); (case side1 => exact Glob.below hG (by repeat (first | (with_reducible first | exact HB.out | apply below_alloc | apply pw_below_drewN | apply below_drew1) | exact HB.out))); rintro e w40 ⟨rfl, hb⟩; refine ⟨_, rfl, ?_⟩; have n0_ := Aside0.mk (below_step (by repeat (first | (with_reducible first | exact HB.out | apply below_alloc | apply pw_below_drewN | apply below_drew1) | exact HB.out)) hb); clear HB; have HB := n0_; clear n0_; (try clear hb); (try clear hb2); (try clear hk); (try clear hi)) | ((with_reducible refine gate_callee (f := 7) rfl ?_); refine goesL_ (some 30) rfl rfl Tryd.func7 (by kernel_rfl) rfl #[.int .i64 a0, .int .u64 a2, .int .u64 a3] rfl (by (try simp only [List.map_toArray, List.map_cons, List.map_nil]); first | done | rfl | (simp only [List.length_drop, List.length_take]; rfl)) ?_; (with_reducible refine (fix_Value.calls a0 a2 a3 t267 t268 _ A6.out).mono ?_); rintro e w41 ⟨rfl, hb⟩; refine ⟨_, rfl, ?_⟩; have n0_ := Aside0.mk (below_step (by repeat (first | (with_reducible first | exact HB.out | apply below_alloc | apply pw_below_drewN | apply below_drew1) | exact HB.out)) hb); clear HB; have HB := n0_; clear n0_; (try clear hb); (try clear hb2); (try clear hk); (try clear hi)) | ((with_reducible refine gate_callee (f := 16) rfl ?_); refine goesL_ (some 35) rfl rfl Tryd.func16 (by kernel_rfl) rfl #[.int .i64 a0, .int .u32 a1] rfl (by (try simp only [List.map_toArray, List.map_cons, List.map_nil]); first | done | rfl | (simp only [List.length_drop, List.length_take]; rfl)) ?_; (with_reducible refine (part_Fits.calls k a0 a1 true _ ?side1 A7.out).mono ?_); (case side1 => exact Glob.below hG (by repeat (first | (with_reducible first | exact HB.out | apply below_alloc | apply pw_below_drewN | apply below_drew1) | exact HB.out))); rintro e w42 ⟨rfl, hb⟩; refine ⟨_, rfl, ?_⟩; have n0_ := Aside0.mk (below_step (by repeat (first | (with_reducible first | exact HB.out | apply below_alloc | apply pw_below_drewN | apply below_drew1) | exact HB.out)) hb); clear HB; have HB := n0_; clear n0_; (try clear hb); (try clear hb2); (try clear hk); (try clear hi)) | ((with_reducible refine gate_callee (f := 15) rfl ?_); refine goesL_ (some 38) rfl rfl Tryd.func15 (by kernel_rfl) rfl #[] rfl (by (try simp only [List.map_toArray, List.map_cons, List.map_nil]); first | done | rfl | (simp only [List.length_drop, List.length_take]; rfl)) ?_; (with_reducible refine (cleatlaw26_fixed.calls k  true _ ?side1 A36.out).mono ?_); (case side1 => exact Glob.below hG (by repeat (first | (with_reducible first | exact HB.out | apply below_alloc | apply pw_below_drewN | apply below_drew1) | exact HB.out))); rintro e w43 ⟨rfl, hb⟩; refine ⟨_, rfl, ?_⟩; have n0_ := Aside0.mk (below_step (by repeat (first | (with_reducible first | exact HB.out | apply below_alloc | apply pw_below_drewN | apply below_drew1) | exact HB.out)) hb); clear HB; have HB := n0_; clear n0_; (try clear hb); (try clear hb2); (try clear hk); (try clear hi)))
          go_ret
          exact ⟨by first | rfl | (simp [errW_none, errW_some] <;> rfl) | (simp [*, errW_none, errW_some] <;> rfl), by repeat (first | (with_reducible first | exact HB.out | apply below_alloc | apply pw_below_drewN | apply below_drew1) | exact HB.out)⟩
        · replace c39 := Bool.eq_false_iff.mpr c39
          subst c39
          have H1 : (some true) = some r := by rw [if_neg (show ¬ (false = true) by decide)] at H; exact H
          clear H
          have H := H1
          clear H1
          obtain rfl := Option.some.inj H
          go_enter Tryd.func5, Tryd.ntmps5
          go_wp2_with (first | ((with_reducible refine gate_callee (f := 9) rfl ?_); refine goesL_ (some 23) rfl rfl Tryd.func9 (by kernel_rfl) rfl #[.int .i64 a0, .int .u32 a1, .int .u64 a2, .int .u64 a3] rfl (by (try simp only [List.map_toArray, List.map_cons, List.map_nil]); first | done | rfl | (simp only [List.length_drop, List.length_take]; rfl)) ?_; (with_reducible refine (fix_Word.calls k a0 a1 a2 a3 t265 t266 _ ?side1 A5.out).mono ?_); (case side1 => exact Glob.below hG (by repeat (first | (with_reducible first | exact HB.out | apply below_alloc | apply pw_below_drewN | apply below_drew1) | exact HB.out))); rintro e w44 ⟨rfl, hb⟩; refine ⟨_, rfl, ?_⟩; have n0_ := Aside0.mk (below_step (by repeat (first | (with_reducible first | exact HB.out | apply below_alloc | apply pw_below_drewN | apply below_drew1) | exact HB.out)) hb); clear HB; have HB := n0_; clear n0_; (try clear hb); (try clear hb2); (try clear hk); (try clear hi)) | ((with_reducible refine gate_callee (f := 7) rfl ?_); refine goesL_ (some 30) rfl rfl Tryd.func7 (by kernel_rfl) rfl #[.int .i64 a0, .int .u64 a2, .int .u64 a3] rfl (by (try simp only [List.map_toArray, List.map_cons, List.map_nil]); first | done | rfl | (simp only [List.length_drop, List.length_take]; rfl)) ?_; (with_reducible refine (fix_Value.calls a0 a2 a3 t267 t268 _ A6.out).mono ?_); rintro e w45 ⟨rfl, hb⟩; refine ⟨_, rfl, ?_⟩; have n0_ := Aside0.mk (below_step (by repeat (first | (with_reducible first | exact HB.out | apply below_alloc | apply pw_below_drewN | apply below_drew1) | exact HB.out)) hb); clear HB; have HB := n0_; clear n0_; (try clear hb); (try clear hb2); (try clear hk); (try clear hi)) | ((with_reducible refine gate_callee (f := 16) rfl ?_); refine goesL_ (some 35) rfl rfl Tryd.func16 (by kernel_rfl) rfl #[.int .i64 a0, .int .u32 a1] rfl (by (try simp only [List.map_toArray, List.map_cons, List.map_nil]); first | done | rfl | (simp only [List.length_drop, List.length_take]; rfl)) ?_; (with_reducible refine (part_Fits.calls k a0 a1 false _ ?side1 A7.out).mono ?_); (case side1 => exact Glob.below hG (by repeat (first | (with_reducible first | exact HB.out | apply below_alloc | apply pw_below_drewN | apply below_drew1) | exact HB.out))); rintro e w46 ⟨rfl, hb⟩; refine ⟨_, rfl, ?_⟩; have n0_ := Aside0.mk (below_step (by repeat (first | (with_reducible first | exact HB.out | apply below_alloc | apply pw_below_drewN | apply below_drew1) | exact HB.out)) hb); clear HB; have HB := n0_; clear n0_; (try clear hb); (try clear hb2); (try clear hk); (try clear hi)) | ((with_reducible refine gate_callee (f := 15) rfl ?_); refine goesL_ (some 38) rfl rfl Tryd.func15 (by kernel_rfl) rfl #[] rfl (by (try simp only [List.map_toArray, List.map_cons, List.map_nil]); first | done | rfl | (simp only [List.length_drop, List.length_take]; rfl)) ?_; (with_reducible refine (cleatlaw26_fixed.calls k  true _ ?side1 A36.out).mono ?_); (case side1 => exact Glob.below hG (by repeat (first | (with_reducible first | exact HB.out | apply below_alloc | apply pw_below_drewN | apply below_drew1) | exact HB.out))); rintro e w47 ⟨rfl, hb⟩; refine ⟨_, rfl, ?_⟩; have n0_ := Aside0.mk (below_step (by repeat (first | (with_reducible first | exact HB.out | apply below_alloc | apply pw_below_drewN | apply below_drew1) | exact HB.out)) hb); clear HB; have HB := n0_; clear n0_; (try clear hb); (try clear hb2); (try clear hk); (try clear hi)))
          go_ret
          exact ⟨by first | rfl | (simp [errW_none, errW_some] <;> rfl) | (simp [*, errW_none, errW_some] <;> rfl), by repeat (first | (with_reducible first | exact HB.out | apply below_alloc | apply pw_below_drewN | apply below_drew1) | exact HB.out)⟩
      · rw [if_neg c38] at H
        have c38b0 : (t265 == 0) = false := beq_eq_false_iff_ne.mpr c38
        have c38b1 : (t265 != 0) = true := bne_iff_ne.mpr c38
        obtain rfl := Option.some.inj H
        go_enter Tryd.func5, Tryd.ntmps5
        go_wp2_with (first | ((with_reducible refine gate_callee (f := 9) rfl ?_); refine goesL_ (some 23) rfl rfl Tryd.func9 (by kernel_rfl) rfl #[.int .i64 a0, .int .u32 a1, .int .u64 a2, .int .u64 a3] rfl (by (try simp only [List.map_toArray, List.map_cons, List.map_nil]); first | done | rfl | (simp only [List.length_drop, List.length_take]; rfl)) ?_; (with_reducible refine (fix_Word.calls k a0 a1 a2 a3 t265 t266 _ ?side1 A5.out).mono ?_); (case side1 => exact Glob.below hG (by repeat (first | (with_reducible first | exact HB.out | apply below_alloc | apply pw_below_drewN | apply below_drew1) | exact HB.out))); rintro e w48 ⟨rfl, hb⟩; refine ⟨_, rfl, ?_⟩; have n0_ := Aside0.mk (below_step (by repeat (first | (with_reducible first | exact HB.out | apply below_alloc | apply pw_below_drewN | apply below_drew1) | exact HB.out)) hb); clear HB; have HB := n0_; clear n0_; (try clear hb); (try clear hb2); (try clear hk); (try clear hi)) | ((with_reducible refine gate_callee (f := 7) rfl ?_); refine goesL_ (some 30) rfl rfl Tryd.func7 (by kernel_rfl) rfl #[.int .i64 a0, .int .u64 a2, .int .u64 a3] rfl (by (try simp only [List.map_toArray, List.map_cons, List.map_nil]); first | done | rfl | (simp only [List.length_drop, List.length_take]; rfl)) ?_; (with_reducible refine (fix_Value.calls a0 a2 a3 t267 t268 _ A6.out).mono ?_); rintro e w49 ⟨rfl, hb⟩; refine ⟨_, rfl, ?_⟩; have n0_ := Aside0.mk (below_step (by repeat (first | (with_reducible first | exact HB.out | apply below_alloc | apply pw_below_drewN | apply below_drew1) | exact HB.out)) hb); clear HB; have HB := n0_; clear n0_; (try clear hb); (try clear hb2); (try clear hk); (try clear hi)) | ((with_reducible refine gate_callee (f := 16) rfl ?_); refine goesL_ (some 35) rfl rfl Tryd.func16 (by kernel_rfl) rfl #[.int .i64 a0, .int .u32 a1] rfl (by (try simp only [List.map_toArray, List.map_cons, List.map_nil]); first | done | rfl | (simp only [List.length_drop, List.length_take]; rfl)) ?_; (with_reducible refine (part_Fits.calls k a0 a1 t269 _ ?side1 A7.out).mono ?_); (case side1 => exact Glob.below hG (by repeat (first | (with_reducible first | exact HB.out | apply below_alloc | apply pw_below_drewN | apply below_drew1) | exact HB.out))); rintro e w50 ⟨rfl, hb⟩; refine ⟨_, rfl, ?_⟩; have n0_ := Aside0.mk (below_step (by repeat (first | (with_reducible first | exact HB.out | apply below_alloc | apply pw_below_drewN | apply below_drew1) | exact HB.out)) hb); clear HB; have HB := n0_; clear n0_; (try clear hb); (try clear hb2); (try clear hk); (try clear hi)) | ((with_reducible refine gate_callee (f := 15) rfl ?_); refine goesL_ (some 38) rfl rfl Tryd.func15 (by kernel_rfl) rfl #[] rfl (by (try simp only [List.map_toArray, List.map_cons, List.map_nil]); first | done | rfl | (simp only [List.length_drop, List.length_take]; rfl)) ?_; (with_reducible refine (cleatlaw26_fixed.calls k  true _ ?side1 A36.out).mono ?_); (case side1 => exact Glob.below hG (by repeat (first | (with_reducible first | exact HB.out | apply below_alloc | apply pw_below_drewN | apply below_drew1) | exact HB.out))); rintro e w51 ⟨rfl, hb⟩; refine ⟨_, rfl, ?_⟩; have n0_ := Aside0.mk (below_step (by repeat (first | (with_reducible first | exact HB.out | apply below_alloc | apply pw_below_drewN | apply below_drew1) | exact HB.out)) hb); clear HB; have HB := n0_; clear n0_; (try clear hb); (try clear hb2); (try clear hk); (try clear hi)))
        go_ret
        exact ⟨by first | rfl | (simp [errW_none, errW_some] <;> rfl) | (simp [*, errW_none, errW_some] <;> rfl), by repeat (first | (with_reducible first | exact HB.out | apply below_alloc | apply pw_below_drewN | apply below_drew1) | exact HB.out)⟩
    · replace c37 := Bool.eq_false_iff.mpr c37
      subst c37
      have H1 : (some false) = some r := by rw [if_neg (show ¬ (false = true) by decide)] at H; exact H
      clear H
      have H := H1
      clear H1
      obtain rfl := Option.some.inj H
      go_enter Tryd.func5, Tryd.ntmps5
      go_wp2_with (first | ((with_reducible refine gate_callee (f := 9) rfl ?_); refine goesL_ (some 23) rfl rfl Tryd.func9 (by kernel_rfl) rfl #[.int .i64 a0, .int .u32 a1, .int .u64 a2, .int .u64 a3] rfl (by (try simp only [List.map_toArray, List.map_cons, List.map_nil]); first | done | rfl | (simp only [List.length_drop, List.length_take]; rfl)) ?_; (with_reducible refine (fix_Word.calls k a0 a1 a2 a3 t265 t266 _ ?side1 A5.out).mono ?_); (case side1 => exact Glob.below hG (by repeat (first | (with_reducible first | exact HB.out | apply below_alloc | apply pw_below_drewN | apply below_drew1) | exact HB.out))); rintro e w52 ⟨rfl, hb⟩; refine ⟨_, rfl, ?_⟩; have n0_ := Aside0.mk (below_step (by repeat (first | (with_reducible first | exact HB.out | apply below_alloc | apply pw_below_drewN | apply below_drew1) | exact HB.out)) hb); clear HB; have HB := n0_; clear n0_; (try clear hb); (try clear hb2); (try clear hk); (try clear hi)) | ((with_reducible refine gate_callee (f := 7) rfl ?_); refine goesL_ (some 30) rfl rfl Tryd.func7 (by kernel_rfl) rfl #[.int .i64 a0, .int .u64 a2, .int .u64 a3] rfl (by (try simp only [List.map_toArray, List.map_cons, List.map_nil]); first | done | rfl | (simp only [List.length_drop, List.length_take]; rfl)) ?_; (with_reducible refine (fix_Value.calls a0 a2 a3 t267 t268 _ A6.out).mono ?_); rintro e w53 ⟨rfl, hb⟩; refine ⟨_, rfl, ?_⟩; have n0_ := Aside0.mk (below_step (by repeat (first | (with_reducible first | exact HB.out | apply below_alloc | apply pw_below_drewN | apply below_drew1) | exact HB.out)) hb); clear HB; have HB := n0_; clear n0_; (try clear hb); (try clear hb2); (try clear hk); (try clear hi)) | ((with_reducible refine gate_callee (f := 16) rfl ?_); refine goesL_ (some 35) rfl rfl Tryd.func16 (by kernel_rfl) rfl #[.int .i64 a0, .int .u32 a1] rfl (by (try simp only [List.map_toArray, List.map_cons, List.map_nil]); first | done | rfl | (simp only [List.length_drop, List.length_take]; rfl)) ?_; (with_reducible refine (part_Fits.calls k a0 a1 t269 _ ?side1 A7.out).mono ?_); (case side1 => exact Glob.below hG (by repeat (first | (with_reducible first | exact HB.out | apply below_alloc | apply pw_below_drewN | apply below_drew1) | exact HB.out))); rintro e w54 ⟨rfl, hb⟩; refine ⟨_, rfl, ?_⟩; have n0_ := Aside0.mk (below_step (by repeat (first | (with_reducible first | exact HB.out | apply below_alloc | apply pw_below_drewN | apply below_drew1) | exact HB.out)) hb); clear HB; have HB := n0_; clear n0_; (try clear hb); (try clear hb2); (try clear hk); (try clear hi)) | ((with_reducible refine gate_callee (f := 15) rfl ?_); refine goesL_ (some 38) rfl rfl Tryd.func15 (by kernel_rfl) rfl #[] rfl (by (try simp only [List.map_toArray, List.map_cons, List.map_nil]); first | done | rfl | (simp only [List.length_drop, List.length_take]; rfl)) ?_; (with_reducible refine (cleatlaw26_fixed.calls k  false _ ?side1 A36.out).mono ?_); (case side1 => exact Glob.below hG (by repeat (first | (with_reducible first | exact HB.out | apply below_alloc | apply pw_below_drewN | apply below_drew1) | exact HB.out))); rintro e w55 ⟨rfl, hb⟩; refine ⟨_, rfl, ?_⟩; have n0_ := Aside0.mk (below_step (by repeat (first | (with_reducible first | exact HB.out | apply below_alloc | apply pw_below_drewN | apply below_drew1) | exact HB.out)) hb); clear HB; have HB := n0_; clear n0_; (try clear hb); (try clear hb2); (try clear hk); (try clear hi)))
      go_ret
      exact ⟨by first | rfl | (simp [errW_none, errW_some] <;> rfl) | (simp [*, errW_none, errW_some] <;> rfl), by repeat (first | (with_reducible first | exact HB.out | apply below_alloc | apply pw_below_drewN | apply below_drew1) | exact HB.out)⟩
end Go.Proofs.YtjllhcfcdimbfaaDoor.P
