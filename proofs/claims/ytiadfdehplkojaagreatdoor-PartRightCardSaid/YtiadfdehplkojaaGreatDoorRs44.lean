/- Walks and plain laws of this claim, a part. -/
import Derived.Test.YtiadfdehplkojaaGreatDoorRs43
namespace Go.Proofs.YtiadfdehplkojaaGreatDoor.P
open Go.RowKit Go.Proofs.YtiadfdehplkojaaGreatDoorW.PrintWords Go.Proofs.YtiadfdehplkojaaGreatDoorW.PrintLast Go.Proofs.YtiadfdehplkojaaGreatDoorW.PrintMore
attribute [local go_sem] max2_int min2_int max_two min_two max_three min_three max_four min_four   -- for this text's walks alone
set_option linter.unusedVariables false
set_option linter.unusedSimpArgs false
def code_packed.f (k : Nat) (a0 : Int) (a1 : Int) (a2 : Int) : Option (Int × Int × Int) := (bits_Pack.f k a2 a1).bind fun bt251 => (some (a0, a1, bt251.1))
set_option maxHeartbeats 8000000 in
set_option maxRecDepth 100000 in
theorem code_packed.calls (k : Nat) (a0 : Int) (a1 : Int) (a2 : Int) (r1 : Int) (r2 : Int) (r3 : Int) (w : World) (h : code_packed.f k a0 a1 a2 = some (r1, r2, r3)) :
 Calls Tryz.prog 120 #[.int .i64 a0, .int .i64 a1, .int .i64 a2] w fun e w' => e = .returned (.agg #[.int .i64 r1, .int .i64 r2, .int .u32 r3]) ∧ Below w.heap.size w w' := by
 have hu166 := Tryz.underlying166
 have HB := Azz.mk (Below.refl w.heap.size w)
 have H : ((bits_Pack.f k a2 a1).bind fun bt251 => (some (a0, a1, bt251.1))) = some (r1, r2, r3) := h
 clear h
 replace H := Option.bind_eq_some_iff.mp H
 obtain ⟨⟨t251, t252⟩, A40, H⟩ := H
 (try dsimp only at H)
 have A4 := Azz.mk A40
 clear A40
 simp only [Option.some.injEq, Prod.mk.injEq] at H
 obtain ⟨rfl, rfl, rfl⟩ := H
 go_enter Tryz.func120, Tryz.ntmps120
 go_wp2_with (first | ((with_reducible refine gate_dst (N := 6) rfl ?_); refine box_event ?hg (N := 6) ?hd (cs := #[.int .i64 0, .int .i64 0, .int .u32 0]) (t := 166) ?hr ?_; (case hd => rfl); (case hg => rfl); (case hr => first | (go_simp; done) | (go_simp; rfl)); intro gb250 hg w5 hbox hb; have n0_ := Azz.mk (bTT (by with_reducible repeat first | exact HB.out | apply bAA | apply bNN | apply bDD) hb); have n1_ := Azz.mk (hbox); have n2_ := Azz.mk ((by rw [hg]; exact (bZZ (by with_reducible repeat first | exact HB.out | apply bAA | apply bNN | apply bDD)) : w.heap.size ≤ gb250)); have n3_ := Azz.mk ((by rw [hg]; exact (bZZ (by with_reducible repeat first | exact HB.out | apply bAA | apply bNN | apply bDD)) : w.heap.size ≤ gb250)); clear HB; have HB := n0_; have BK250 := n1_; have GW250 := n2_; have GE250 := n3_; clear n0_ n1_ n2_ n3_; clear hb hbox hg) | ((with_reducible refine gate_callee (f := 121) rfl ?_); refine goesL_ (some 12) rfl rfl Tryz.func121 (by kernel_rfl) rfl #[.int .i64 a2, .int .i64 a1] rfl (by (try simp only [List.map_toArray, List.map_cons, List.map_nil]); first | done | rfl | (simp only [List.length_drop, List.length_take]; rfl)) ?_; (with_reducible refine (bits_Pack.calls k a2 a1 t251 t252 _ A4.out).mono ?_); rintro e w' ⟨rfl, ⟨nd, rfl⟩⟩; refine ⟨_, rfl, ?_⟩; (try (rw [drewN_self w5]; generalize hq_ : World.drewN w5 _ = w5; have n0_ : Azz (w5.heap[gb250]? = some (.cells #[.int .i64 0, .int .i64 0, .int .u32 0] 166 (0, 0))) := ⟨by rw [← hq_]; exact (by (with_reducible repeat first | apply kNN | apply kDD | apply kAA); exact BK250.out)⟩; have n1_ : Azz (Below w.heap.size w w5) := ⟨by rw [← hq_]; exact (by with_reducible repeat first | exact HB.out | apply bAA | apply bNN | apply bDD | refine bSS ?_ GE250.out)⟩; clear BK250 HB hq_; have BK250 := n0_; have HB := n1_; clear n0_ n1_)); obtain ⟨hcz6_0, hcz6_1, hcz6_2, hfz6_0, hfz6_1, hfz6_2⟩ := cel3 BK250.out))
 refine bodyPost_ret (results_cell_row rfl _ _ gb250 166 #[.int .i64 a0, .int .i64 a1, .int .u32 t251] (0, 0) _ rfl (by apply put3; (with_reducible repeat first | apply kNN | apply kDD | apply kAA); exact BK250.out) Tryz.underlying166 rfl (by kernel_rfl)) rfl ?_
 exact ⟨by first | rfl | (simp [eNN, eSS] <;> rfl) | (simp [*, eNN, eSS] <;> rfl), by repeat (first | (with_reducible first | exact HB.out | apply bAA | apply bNN | apply bDD | refine bSS ?_ GE250.out) | exact HB.out)⟩
end Go.Proofs.YtiadfdehplkojaaGreatDoor.P
