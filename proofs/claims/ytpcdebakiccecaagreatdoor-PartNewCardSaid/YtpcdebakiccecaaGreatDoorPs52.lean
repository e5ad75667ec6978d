/- Walks and plain laws of this claim, a part. -/
import Derived.Test.YtpcdebakiccecaaGreatDoorPs23
namespace Go.Proofs.YtpcdebakiccecaaGreatDoor.P
open Go.RowKit Go.Proofs.YtpcdebakiccecaaGreatDoorW.PrintWords Go.Proofs.YtpcdebakiccecaaGreatDoorW.PrintLast Go.Proofs.YtpcdebakiccecaaGreatDoorW.PrintMore
attribute [local go_sem] max2_int min2_int max_two min_two max_three min_three max_four min_four   -- for this text's walks alone
set_option linter.unusedVariables false
set_option linter.unusedSimpArgs false
def bits_Pack.j0 : Nat → Int → Int → Bool → Option (Int × Int)
 | 0, _, _, _ => none
 | k + 1, x0, x1, x12 => if x12 = true then (some (0, 1)) else (if 0 ≤ (wrap64 (x1 - 1)) then (if x0 < (wrap64 (-(shl .i64 1 (wrap64 (x1 - 1))))) then (some (0, 4)) else (if x0 > (wrap64 ((shl .i64 1 (wrap64 (x1 - 1))) - 1)) then (some (0, 4)) else (if 0 ≤ x1 then (some (Go.bits .and .u32 ((x0) % 4294967296) (((shl .u32 1 x1) - 1) % 4294967296), 0)) else (none)))) else (none))
def bits_Pack.f (k : Nat) (a0 : Int) (a1 : Int) : Option (Int × Int) := if a1 < 1 then (bits_Pack.j0 k a0 a1 true) else (bits_Pack.j0 k a0 a1 (decide (a1 > 32)))
set_option maxHeartbeats 8000000 in
set_option maxRecDepth 100000 in
theorem bits_Pack.calls (k : Nat) (a0 : Int) (a1 : Int) (r1 : Int) (r2 : Int) (w : World) (h : bits_Pack.f k a0 a1 = some (r1, r2)) :
 Calls Tryz.prog 51 #[.int .i64 a0, .int .i64 a1] w fun e w' => e = .returned (.tuple #[.int .u32 r1, .int .i64 r2]) ∧ Drawn0 w w' := by
 have H : (if a1 < 1 then (bits_Pack.j0 k a0 a1 true) else (bits_Pack.j0 k a0 a1 (decide (a1 > 32)))) = some (r1, r2) := h
 clear h
 have HC3 := Azz.mk H
 clear H
 go_enter Tryz.func51, Tryz.ntmps51
 go_upto_region 1 with (fail)
 go_cut [12] (fun v12 wc => ∃ (kq : Nat) (x12_2 : Bool), v12 = .bool x12_2 ∧ Azz (bits_Pack.j0 kq a0 a1 x12_2 = some (r1, r2)) ∧ Azz (kq ≤ k) ∧ Drawn0 w wc)
 case first =>
  have H := HC3.out
  clear HC3
  by_cases c4 : a1 < 1
  ·rw [if_pos c4] at H
   have c4b0 := decide_eq_true c4
   clear c4
   (first | rw [c4b0] | (simp only [i64_w, i32_w]; rw [c4b0]) | skip)
   have H' := Azz.mk H
   clear H
   go_wp2
   go_meet
   case rel => exact ⟨_, (true), (by first | rfl | (simp; done) | (simp [*]; done)), H', ⟨by first | omega | exact Nat.le_refl _⟩, by repeat (first | exact Drawn0.refl _ | apply Drawn0.step)⟩
  ·rw [if_neg c4] at H
   have c4b0 := decide_eq_false c4
   clear c4
   (first | rw [c4b0] | (simp only [i64_w, i32_w]; rw [c4b0]) | skip)
   have H' := Azz.mk H
   clear H
   go_wp2
   go_meet
   case rel => exact ⟨_, (decide (a1 > 32)), (by first | rfl | (simp; done) | (simp [*]; done)), H', ⟨by first | omega | exact Nat.le_refl _⟩, by repeat (first | exact Drawn0.refl _ | apply Drawn0.step)⟩
 case rest =>
  clear HC3
  try clear p2
  try clear c4
  try clear c4b0
  obtain ⟨kq, x12_2, rfl, HA, HJ2, ⟨mc2, rfl⟩⟩ := hcut
  cases kq with
  | zero => exact absurd HA.out (by simp [bits_Pack.j0])
  | succ kj2 =>
   have H := HA.out
   clear HA
   simp only [bits_Pack.j0] at H
   by_cases c5 : x12_2 = true
   ·subst c5
    rw [if_pos rfl] at H
    simp only [Option.some.injEq, Prod.mk.injEq] at H
    obtain ⟨rfl, rfl⟩ := H
    go_wp2
    go_ret2
    exact ⟨by first | rfl | (simp; done) | (simp [*]; done), by repeat (first | exact Drawn0.refl _ | apply Drawn0.step)⟩
   ·replace c5 := Bool.eq_false_iff.mpr c5
    subst c5
    rw [if_neg (show ¬ (false = true) by decide)] at H
    obtain ⟨ji6, hji6⟩ : ∃ j_ : Int, (wrap64 (a1 - 1)) = j_ := ⟨_, rfl⟩
    replace H : (if 0 ≤ (ji6) then (if a0 < (wrap64 (-(shl .i64 1 (ji6)))) then (some (0, 4)) else (if a0 > (wrap64 ((shl .i64 1 (ji6)) - 1)) then (some (0, 4)) else (if 0 ≤ a1 then (some (Go.bits .and .u32 ((a0) % 4294967296) (((shl .u32 1 a1) - 1) % 4294967296), 0)) else (none)))) else (none)) = some (r1, r2) := by first | (rw [hji6] at H; exact H) | (simp only [hji6] at H ⊢; exact H)
    have hji6w : (IntKind.i64.wrap (a1 - 1)) = ji6 := (i64_w _).trans hji6
    by_cases c7 : 0 ≤ (ji6)
    ·rw [if_pos c7] at H
     have c7b0 := eq_true c7
     have c7b1 := decide_eq_true c7
     clear c7
     obtain ⟨ji8, hji8⟩ : ∃ j_ : Int, (shl .i64 1 (ji6)) = j_ := ⟨_, rfl⟩
     replace H : (if a0 < (wrap64 (-(ji8))) then (some (0, 4)) else (if a0 > (wrap64 ((ji8) - 1)) then (some (0, 4)) else (if 0 ≤ a1 then (some (Go.bits .and .u32 ((a0) % 4294967296) (((shl .u32 1 a1) - 1) % 4294967296), 0)) else (none)))) = some (r1, r2) := by first | (rw [hji8] at H; exact H) | (simp only [hji8] at H ⊢; exact H)
     have hji8_ : (IntKind.i64.wrap (1 * 2 ^ min (ji6).toNat 64)) = ji8 := hji8
     have hji8z : (ji6) ≤ 64 → (IntKind.i64.wrap (1 * 2 ^ (ji6).toNat)) = ji8 := shl_small hji8
     have hji8u : (IntKind.i64.wrap (2 ^ min (ji6).toNat 64)) = ji8 := by have h_ := hji8_; rw [Int.one_mul] at h_; exact h_
     have hji8v : (ji6) ≤ 64 → (IntKind.i64.wrap (2 ^ (ji6).toNat)) = ji8 := fun hle_ => by have h_ := hji8z hle_; rw [Int.one_mul] at h_; exact h_
     have hji8y : (wrap64 (1 * 2 ^ min (ji6).toNat 64)) = ji8 := (i64_w _).symm.trans hji8_
     have hji8x : (ji6) ≤ 64 → (wrap64 (1 * 2 ^ (ji6).toNat)) = ji8 := fun h_ => (i64_w _).symm.trans (hji8z h_)
     by_cases c9 : a0 < (wrap64 (-(ji8)))
     ·rw [if_pos c9] at H
      have c9b0 := decide_eq_true c9
      clear c9
      simp only [Option.some.injEq, Prod.mk.injEq] at H
      obtain ⟨rfl, rfl⟩ := H
      go_wp2
      go_ret2
      exact ⟨by first | rfl | (simp; done) | (simp only [← hji6, ← hji8] <;> (first | rfl | simp)) | (simp [*]; done), by repeat (first | exact Drawn0.refl _ | apply Drawn0.step)⟩
     ·rw [if_neg c9] at H
      have c9b0 := decide_eq_false c9
      clear c9
      by_cases c10 : a0 > (wrap64 ((ji8) - 1))
      ·rw [if_pos c10] at H
       have c10b0 := decide_eq_true c10
       clear c10
       simp only [Option.some.injEq, Prod.mk.injEq] at H
       obtain ⟨rfl, rfl⟩ := H
       go_wp2
       go_ret2
       exact ⟨by first | rfl | (simp; done) | (simp only [← hji6, ← hji8] <;> (first | rfl | simp)) | (simp [*]; done), by repeat (first | exact Drawn0.refl _ | apply Drawn0.step)⟩
      ·rw [if_neg c10] at H
       have c10b0 := decide_eq_false c10
       clear c10
       by_cases c11 : 0 ≤ a1
       ·rw [if_pos c11] at H
        have c11b0 := eq_true c11
        have c11b1 := decide_eq_true c11
        clear c11
        obtain ⟨ji12, hji12⟩ : ∃ j_ : Int, (shl .u32 1 a1) = j_ := ⟨_, rfl⟩
        replace H : (some (Go.bits .and .u32 ((a0) % 4294967296) (((ji12) - 1) % 4294967296), 0)) = some (r1, r2) := by first | (rw [hji12] at H; exact H) | (simp only [hji12] at H ⊢; exact H)
        have hji12_ : (IntKind.u32.wrap (1 * 2 ^ min a1.toNat 32)) = ji12 := hji12
        have hji12z : a1 ≤ 32 → (IntKind.u32.wrap (1 * 2 ^ a1.toNat)) = ji12 := shl_small hji12
        have hji12u : (IntKind.u32.wrap (2 ^ min a1.toNat 32)) = ji12 := by have h_ := hji12_; rw [Int.one_mul] at h_; exact h_
        have hji12v : a1 ≤ 32 → (IntKind.u32.wrap (2 ^ a1.toNat)) = ji12 := fun hle_ => by have h_ := hji12z hle_; rw [Int.one_mul] at h_; exact h_
        simp only [Option.some.injEq, Prod.mk.injEq] at H
        obtain ⟨rfl, rfl⟩ := H
        go_wp2
        go_ret2
        exact ⟨by first | rfl | (simp; done) | (simp only [← hji6, ← hji8, ← hji12] <;> (first | rfl | simp)) | (simp [*]; done), by repeat (first | exact Drawn0.refl _ | apply Drawn0.step)⟩
       ·rw [if_neg c11] at H
        exact absurd H (by simp)
    ·rw [if_neg c7] at H
     exact absurd H (by simp)
def code_packed.f (k : Nat) (a0 : Int) (a1 : Int) (a2 : Int) : Option (Int × Int × Int) := (bits_Pack.f k a2 a1).bind fun bt250 => (some (a0, a1, bt250.1))
set_option maxHeartbeats 8000000 in
set_option maxRecDepth 100000 in
theorem code_packed.calls (k : Nat) (a0 : Int) (a1 : Int) (a2 : Int) (r1 : Int) (r2 : Int) (r3 : Int) (w : World) (h : code_packed.f k a0 a1 a2 = some (r1, r2, r3)) :
 Calls Tryz.prog 50 #[.int .i64 a0, .int .i64 a1, .int .i64 a2] w fun e w' => e = .returned (.agg #[.int .i64 r1, .int .i64 r2, .int .u32 r3]) ∧ Below w.heap.size w w' := by
 have hu92 := Tryz.underlying92
 have HB := Azz.mk (Below.refl w.heap.size w)
 have H : ((bits_Pack.f k a2 a1).bind fun bt250 => (some (a0, a1, bt250.1))) = some (r1, r2, r3) := h
 clear h
 replace H := Option.bind_eq_some_iff.mp H
 obtain ⟨⟨t250, t251⟩, A40, H⟩ := H
 (try dsimp only at H)
 have A4 := Azz.mk A40
 clear A40
 simp only [Option.some.injEq, Prod.mk.injEq] at H
 obtain ⟨rfl, rfl, rfl⟩ := H
 go_enter Tryz.func50, Tryz.ntmps50
 go_wp2_with (first | ((with_reducible refine gate_dst (N := 6) rfl ?_); refine box_event ?hg (N := 6) ?hd (cs := #[.int .i64 0, .int .i64 0, .int .u32 0]) (t := 92) ?hr ?_; (case hd => rfl); (case hg => rfl); (case hr => first | (go_simp; done) | (go_simp; rfl)); intro gb249 hg w5 hbox hb; have n0_ := Azz.mk (bTT (by with_reducible repeat first | exact HB.out | apply bAA | apply bNN | apply bDD) hb); have n1_ := Azz.mk (hbox); have n2_ := Azz.mk ((by rw [hg]; exact (bZZ (by with_reducible repeat first | exact HB.out | apply bAA | apply bNN | apply bDD)) : w.heap.size ≤ gb249)); have n3_ := Azz.mk ((by rw [hg]; exact (bZZ (by with_reducible repeat first | exact HB.out | apply bAA | apply bNN | apply bDD)) : w.heap.size ≤ gb249)); clear HB; have HB := n0_; have BK249 := n1_; have GW249 := n2_; have GE249 := n3_; clear n0_ n1_ n2_ n3_; clear hb hbox hg) | ((with_reducible refine gate_callee (f := 51) rfl ?_); refine goesL_ (some 12) rfl rfl Tryz.func51 (by kernel_rfl) rfl #[.int .i64 a2, .int .i64 a1] rfl (by (try simp only [List.map_toArray, List.map_cons, List.map_nil]); first | done | rfl | (simp only [List.length_drop, List.length_take]; rfl)) ?_; (with_reducible refine (bits_Pack.calls k a2 a1 t250 t251 _ A4.out).mono ?_); rintro e w' ⟨rfl, ⟨nd, rfl⟩⟩; refine ⟨_, rfl, ?_⟩; (try (rw [drewN_self w5]; generalize hq_ : World.drewN w5 _ = w5; have n0_ : Azz (w5.heap[gb249]? = some (.cells #[.int .i64 0, .int .i64 0, .int .u32 0] 92 (0, 0))) := ⟨by rw [← hq_]; exact (by (with_reducible repeat first | apply kNN | apply kDD | apply kAA); exact BK249.out)⟩; have n1_ : Azz (Below w.heap.size w w5) := ⟨by rw [← hq_]; exact (by with_reducible repeat first | exact HB.out | apply bAA | apply bNN | apply bDD | refine bSS ?_ GE249.out)⟩; clear BK249 HB hq_; have BK249 := n0_; have HB := n1_; clear n0_ n1_)); obtain ⟨hcz6_0, hcz6_1, hcz6_2, hfz6_0, hfz6_1, hfz6_2⟩ := cel3 BK249.out))
 refine bodyPost_ret (results_cell_row rfl _ _ gb249 92 #[.int .i64 a0, .int .i64 a1, .int .u32 t250] (0, 0) _ rfl (by apply put3; (with_reducible repeat first | apply kNN | apply kDD | apply kAA); exact BK249.out) Tryz.underlying92 rfl (by kernel_rfl)) rfl ?_
 exact ⟨by first | rfl | (simp [eNN, eSS] <;> rfl) | (simp [*, eNN, eSS] <;> rfl), by repeat (first | (with_reducible first | exact HB.out | apply bAA | apply bNN | apply bDD | refine bSS ?_ GE249.out) | exact HB.out)⟩
end Go.Proofs.YtpcdebakiccecaaGreatDoor.P
