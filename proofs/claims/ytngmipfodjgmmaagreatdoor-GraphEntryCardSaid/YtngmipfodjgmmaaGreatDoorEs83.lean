/- Walks and plain laws of this claim, a part. -/
import Derived.Test.YtngmipfodjgmmaaGreatDoorEs68
namespace Go.Proofs.YtngmipfodjgmmaaGreatDoor.P
open Go.RowKit Go.Proofs.YtngmipfodjgmmaaGreatDoorW.PrintWords Go.Proofs.YtngmipfodjgmmaaGreatDoorW.PrintLast Go.Proofs.YtngmipfodjgmmaaGreatDoorW.PrintMore
attribute [local go_sem] max2_int min2_int max_two min_two max_three min_three max_four min_four   -- for this text's walks alone
set_option linter.unusedVariables false
set_option linter.unusedSimpArgs false
def cleatlaw21_quads.l0 : Nat → List Int → Int → ByteArray → Int → Bool → Int → ByteArray → List (S80) → Option (ByteArray × Int × Bool × Int × ByteArray × (List (S80)))
 | 0, _, _, _, _, _, _, _, _ => none
 | k + 1, x1, x6, x521000, x521001, x521002, x521003, x521004, x521005 => if x6 < (x1.length : Int) then (if x521004.size + 8 ≤ 9223372036854775807 then (if 0 ≤ x6 then (if x521005.length < 4398046511104 then (cleatlaw21_quads.l0 k x1 (wrap64 (x6 + 1)) x521000 x521001 x521002 x521003 (x521004 ++ (⟨#[0, 0, 0, 0, 0, 0, 0, 0]⟩ : ByteArray)) (x521005 ++ [(⟨wrap64 (8 * x6), 1, rd x1 x6, 0⟩ : S80)])) else (none)) else (none)) else (none)) else (some (x521000, x521001, x521002, x521003, x521004, x521005))
def cleatlaw21_quads.f (k : Nat) (a0 : ByteArray) (l1 : List Int) : Option (ByteArray × Int × Bool × Int × ByteArray × (List (S80))) := cleatlaw21_quads.l0 k l1 0 a0 2 false 0 (⟨#[]⟩ : ByteArray) ([] : List (S80))
def cleatlaw21_quads.T6 : Bool × List (List Nat × List Nat) := (true, [([], []), ([0], [0]), ([], []), ([2], [2]), ([], []), ([], []), ([4, 5], [4, 5]), ([6], [6]), ([3, 7], [3, 7]), ([8], [8]), ([1, 9], [1, 9]), ([0, 1, 2, 3, 4, 5, 6, 7, 8, 9, 10], []), ([11, 10, 10, 0, 1, 2, 3, 4, 5, 6, 7, 8, 9, 10], [10, 11])])
def cleatlaw21_quads.B6 : List Nat := [0, 1, 0, 4, 0, 0, 48, 112, 252, 508, 1023, 2047, 4095]
theorem cleatlaw21_quads.tab6 : rtab .any (opsOf Tryz.f57 6) = cleatlaw21_quads.T6 := by kernel_rfl
theorem cleatlaw21_quads.bits6 : waitsOk cleatlaw21_quads.T6.2 cleatlaw21_quads.B6 = true := by kernel_rfl
set_option maxHeartbeats 8000000 in
set_option maxRecDepth 100000 in
theorem cleatlaw21_quads.calls (k : Nat) (a0 : ByteArray) (A1 : Option Addr) (c1 : Nat) (l1 : List Int) (r1 : ByteArray) (r2 : Int) (r3 : Bool) (r4 : Int) (r5 : ByteArray) (r6 : List (S80)) (w : World) (hr1 : Kd.C (Kd.int .i64) w A1 l1.length l1) (hc1 : l1.length ≤ c1) (h : cleatlaw21_quads.f k a0 l1 = some (r1, r2, r3, r4, r5, r6)) :
 Calls Tryz.prog 57 #[.string a0, .slice A1 l1.length c1] w fun e w' => ∃ v5_ : Value, e = .returned (.agg #[.string r1, .int .i64 r2, .bool r3, .int .i64 r4, .string r5, v5_]) ∧ Kd.R k80 80 w' w.heap.size (fun _ => True) v5_ r6 ∧ Below w.heap.size w w' := by
 have hu39 := Tryz.underlying39
 have hu80 := Tryz.underlying80
 have HR1 := Azz.mk hr1
 have HC1 := Azz.mk hc1
 clear hr1 hc1
 have HB := Azz.mk (Below.refl w.heap.size w)
 have H : (cleatlaw21_quads.l0 k l1 0 a0 2 false 0 (⟨#[]⟩ : ByteArray) ([] : List (S80))) = some (r1, r2, r3, r4, r5, r6) := h
 clear h
 have H' := Azz.mk H
 clear H
 go_enter Tryz.func57, Tryz.ntmps57
 go_wp2_with (first | ((with_reducible refine gate_dst (N := 4) rfl ?_); refine box_event ?hg (N := 4) ?hd (cs := #[.string (⟨#[]⟩ : ByteArray), .int .i64 0, .bool false, .int .i64 0, .string (⟨#[]⟩ : ByteArray), .slice none 0 0]) (t := 39) ?hr ?_; (case hd => rfl); (case hg => rfl); (case hr => first | (go_simp; done) | (go_simp; rfl)); intro gb519 hg w3 hbox hb; have n0_ := Azz.mk (bTT (by with_reducible repeat first | exact HB.out | apply bAA | apply bNN | apply bDD) hb); have n1_ := Azz.mk (hbox); have n2_ := Azz.mk ((by rw [hg]; exact (bZZ (by with_reducible repeat first | exact HB.out | apply bAA | apply bNN | apply bDD)) : w.heap.size ≤ gb519)); have n3_ := Azz.mk ((by rw [hg]; exact (bZZ (by with_reducible repeat first | exact HB.out | apply bAA | apply bNN | apply bDD)) : w.heap.size ≤ gb519)); clear HB; have HB := n0_; have BK519 := n1_; have GW519 := n2_; have GE519 := n3_; clear n0_ n1_ n2_ n3_; clear hb hbox hg) | ((with_reducible refine gate_dst (N := 5) rfl ?_); refine box_event ?hg (N := 5) ?hd (cs := #[.string (⟨#[]⟩ : ByteArray), .int .i64 0, .bool false, .int .i64 0, .string (⟨#[]⟩ : ByteArray), .slice none 0 0]) (t := 39) ?hr ?_; (case hd => rfl); (case hg => rfl); (case hr => first | (go_simp; done) | (go_simp; rfl)); intro gb520 hg w4 hbox hb; have n0_ := Azz.mk (blk_b hb BK519.out); have n1_ := Azz.mk (bTT (by with_reducible repeat first | exact HB.out | apply bAA | apply bNN | apply bDD | refine bSS ?_ GE519.out) hb); have n2_ := Azz.mk (hbox); have n3_ := Azz.mk ((by rw [hg]; exact (bZZ (by with_reducible repeat first | exact HB.out | apply bAA | apply bNN | apply bDD | refine bSS ?_ GE519.out)) : w.heap.size ≤ gb520)); have n4_ := Azz.mk ((by rw [hg]; exact (bZZ (by with_reducible repeat first | exact HB.out | apply bAA | apply bNN | apply bDD | refine bSS ?_ GE519.out)) : w.heap.size ≤ gb520)); have n5_ := Azz.mk ((by rw [hg]; exact Nat.ne_of_lt (blk_lt BK519.out) : gb519 ≠ gb520)); have n6_ := Azz.mk ((by rw [hg]; exact Nat.ne_of_gt (blk_lt BK519.out) : gb520 ≠ gb519)); clear BK519; clear HB; have BK519 := n0_; have HB := n1_; have BK520 := n2_; have GW520 := n3_; have GE520 := n4_; have NB519_520 := n5_; have NB520_519 := n6_; clear n0_ n1_ n2_ n3_ n4_ n5_ n6_; clear hb hbox hg; have hnb5 := NB520_519.out; have hnc5 := NB519_520.out; obtain ⟨hcz6_0, hcz6_1, hcz6_2, hcz6_3, hcz6_4, hcz6_5, hfz6_0, hfz6_1, hfz6_2, hfz6_3, hfz6_4, hfz6_5⟩ := cel6 BK520.out) | ((with_reducible refine gate_store (t := 39) (p := 5) rfl ?_); refine store_event (t := 39) (p := 5) (v := ?vo_w7) (w1 := ((((((w4.setCell ⟨gb520, 0, none⟩ (.string a0)).setCell ⟨gb520, 1, none⟩ (.int .i64 2)).setCell ⟨gb520, 2, none⟩ (.bool false)).setCell ⟨gb520, 3, none⟩ (.int .i64 0)).setCell ⟨gb520, 4, none⟩ (.string (⟨#[]⟩ : ByteArray))).setCell ⟨gb520, 5, none⟩ (.slice none 0 0))) ?hg ?ho ?hn ?hr ?_; (case ho => rfl); (case hg => rfl); (case hn => rfl); (case hr => first | (go_simp; done) | (go_simp; rfl)); intro w7 hw; have n0_ : Azz (w7.heap[gb519]? = some (.cells #[.string (⟨#[]⟩ : ByteArray), .int .i64 0, .bool false, .int .i64 0, .string (⟨#[]⟩ : ByteArray), .slice none 0 0] 39 (0, 0))) := ⟨(by rw [hw]; exact (by refine far6 NB519_520.out ?_; (with_reducible repeat first | apply kNN | apply kDD | apply kAA); exact BK519.out))⟩; have n1_ : Azz (w7.heap[gb520]? = some (.cells #[.string a0, .int .i64 2, .bool false, .int .i64 0, .string (⟨#[]⟩ : ByteArray), .slice none 0 0] 39 (0, 0))) := ⟨(by rw [hw]; exact (by apply put6; (with_reducible repeat first | apply kNN | apply kDD | apply kAA); exact BK520.out))⟩; have n2_ : Azz (Below w.heap.size w w7) := ⟨(by rw [hw]; exact (by with_reducible repeat first | exact HB.out | apply bAA | apply bNN | apply bDD | refine bSS ?_ GE519.out | refine bSS ?_ GE520.out))⟩; clear hw; clear BK519; clear BK520; clear HB; have BK519 := n0_; have BK520 := n1_; have HB := n2_; clear n0_ n1_ n2_))
 go_loopg [6] k (fun kq v6 w' => ∃ (x6_1 : Int) (x521004_1 : ByteArray) (x521005_1 : List (S80)) (u521005 : Value), v6 = .int .i64 x6_1 ∧ Azz (cleatlaw21_quads.l0 kq l1 x6_1 a0 2 false 0 x521004_1 x521005_1 = some (r1, r2, r3, r4, r5, r6)) ∧ Azz (kq ≤ k) ∧ Azz (Kd.R k80 80 w' w.heap.size (fun _ => True) u521005 x521005_1) ∧ Azz (w'.heap[gb519]? = some (.cells #[.string (⟨#[]⟩ : ByteArray), .int .i64 0, .bool false, .int .i64 0, .string (⟨#[]⟩ : ByteArray), (.slice none 0 0)] 39 (0, 0))) ∧ Azz (w'.heap[gb520]? = some (.cells #[.string a0, .int .i64 2, .bool false, .int .i64 0, .string x521004_1, u521005] 39 (0, 0))) ∧ Azz (Below w.heap.size w w'))
 case atStart => exact ⟨(0), ((⟨#[]⟩ : ByteArray)), (([] : List (S80))), (.slice none 0 0), (by first | rfl | (simp; done) | (simp [*]; done)), H', ⟨Nat.le_refl _⟩, ⟨by first | exact Kd.R_nil _ _ _ _ _ | exact Kd.N_nil _ _ _ _ _ | exact Kd.V_nil _ _ _ _ _ | exact Kd.Q_nil _ _ _ _ _ | exact Kd.S_nil _ _ _ _ _⟩, ⟨by (with_reducible repeat first | apply kNN | apply kDD | apply kAA); exact BK519.out⟩, ⟨by (with_reducible repeat first | apply kNN | apply kDD | apply kAA); exact BK520.out⟩, ⟨by repeat (first | (with_reducible first | exact HB.out | apply bAA | apply bNN | apply bDD | refine bSS ?_ GE519.out | refine bSS ?_ GE520.out) | exact HB.out)⟩⟩
 case round =>
  clear H'
  try clear c1
  try clear p2
  try clear c5
  try clear hcz6_0 hcz6_1 hcz6_2 hcz6_3 hcz6_4 hcz6_5 hfz6_0 hfz6_1 hfz6_2 hfz6_3 hfz6_4 hfz6_5
  obtain ⟨x6_1, x521004_1, x521005_1, u521005, rfl, HA, HK1, HO_521005, BK519, BK520, HB⟩ := hrel
  cases gk with
  | zero => exact absurd HA.out (by simp [cleatlaw21_quads.l0])
  | succ k1 =>
   have H := HA.out
   clear HA
   simp only [cleatlaw21_quads.l0] at H
   by_cases c8 : x6_1 < (l1.length : Int)
   ·rw [if_pos c8] at H
    have c8b0 := decide_eq_true c8
    clear c8
    by_cases c9 : x521004_1.size + 8 ≤ 9223372036854775807
    ·rw [if_pos c9] at H
     have c9b0 := eq_true c9
     have c9b1 := decide_eq_true c9
     try have c9b2 : (9223372036854775807 < x521004_1.size + 8) = False := eq_false (Nat.not_lt.2 c9)
     by_cases c10 : 0 ≤ x6_1
     ·rw [if_pos c10] at H
      have c10b0 := decide_eq_true c10
      clear c10
      by_cases c11 : x521005_1.length < 4398046511104
      ·rw [if_pos c11] at H
       have LMc11 := Azz.mk c11
       clear c11
       obtain ⟨y522, hy522⟩ : ∃ y_ : List (S80), y_ = (x521005_1 ++ [(⟨wrap64 (8 * x6_1), 1, rd l1 x6_1, 0⟩ : S80)]) := ⟨_, rfl⟩
       replace H : (cleatlaw21_quads.l0 k1 l1 (wrap64 (x6_1 + 1)) a0 2 false 0 (x521004_1 ++ (⟨#[0, 0, 0, 0, 0, 0, 0, 0]⟩ : ByteArray)) y522) = some (r1, r2, r3, r4, r5, r6) := by first | (rw [hy522]; with_reducible exact H) | (have H2_ := (Option.bind_some _ _).symm.trans H; rw [hy522]; with_reducible exact H2_) | (have H2_ := (Option.bind_some _ _).symm.trans H; with_reducible exact H2_) | with_reducible exact H | (rw [hy522]; exact H) | exact H
       have Ny522 := Azz.mk hy522
       clear hy522
       have H' := Azz.mk H
       clear H
       have hnb12 := NB520_519.out
       have hnc12 := NB519_520.out
       obtain ⟨hcz13_0, hcz13_1, hcz13_2, hcz13_3, hcz13_4, hcz13_5, hfz13_0, hfz13_1, hfz13_2, hfz13_3, hfz13_4, hfz13_5⟩ := cel6 BK520.out
       try go_wp2
       have n0_ : Azz (Kd.R k80 80 (wr.setCell ⟨gb520, 4, none⟩ (.string (x521004_1 ++ (⟨#[0, 0, 0, 0, 0, 0, 0, 0]⟩ : ByteArray)))) w.heap.size (fun _ => True) u521005 x521005_1) := ⟨by (with_reducible repeat (first | apply Kd.R_alloc | apply Kd.R_drewN | apply Kd.R_drew)); exact Kd.R_mono (Kd.farR1 (Kd.R_types HO_521005.out BK520.out (by decide)) (fun _ hk => hk.2)) (fun _ hk => trivial)⟩
       have n1_ : Azz ((wr.setCell ⟨gb520, 4, none⟩ (.string (x521004_1 ++ (⟨#[0, 0, 0, 0, 0, 0, 0, 0]⟩ : ByteArray)))).heap[gb519]? = some (.cells #[.string (⟨#[]⟩ : ByteArray), .int .i64 0, .bool false, .int .i64 0, .string (⟨#[]⟩ : ByteArray), .slice none 0 0] 39 (0, 0))) := ⟨by (with_reducible repeat first | apply kNN | apply kDD | apply kAA); refine blk_far ?_ NB519_520.out _; (with_reducible repeat first | apply kNN | apply kDD | apply kAA); exact BK519.out⟩
       have n2_ : Azz ((wr.setCell ⟨gb520, 4, none⟩ (.string (x521004_1 ++ (⟨#[0, 0, 0, 0, 0, 0, 0, 0]⟩ : ByteArray)))).heap[gb520]? = some (.cells #[.string a0, .int .i64 2, .bool false, .int .i64 0, .string (x521004_1 ++ (⟨#[0, 0, 0, 0, 0, 0, 0, 0]⟩ : ByteArray)), u521005] 39 (0, 0))) := ⟨by (with_reducible repeat first | apply kNN | apply kDD | apply kAA); refine blk_put (cs := #[.string a0, .int .i64 2, .bool false, .int .i64 0, .string x521004_1, u521005]) ?_ 4 _ rfl; (with_reducible repeat first | apply kNN | apply kDD | apply kAA); exact BK520.out⟩
       have n3_ : Azz (Below w.heap.size w (wr.setCell ⟨gb520, 4, none⟩ (.string (x521004_1 ++ (⟨#[0, 0, 0, 0, 0, 0, 0, 0]⟩ : ByteArray))))) := ⟨by repeat (first | (with_reducible first | exact HB.out | apply bAA | apply bNN | apply bDD | refine bSS ?_ GE519.out | refine bSS ?_ GE520.out) | exact HB.out)⟩
       (try clear HO_521005)
       (try clear BK519)
       (try clear BK520)
       (try clear HB)
       generalize (wr.setCell ⟨gb520, 4, none⟩ (.string (x521004_1 ++ (⟨#[0, 0, 0, 0, 0, 0, 0, 0]⟩ : ByteArray)))) = w14 at n0_ n1_ n2_ n3_ ⊢
       have HO_521005 := n0_
       have BK519 := n1_
       have BK520 := n2_
       have HB := n3_
       clear n0_ n1_ n2_ n3_
       have n0_ := Azz.mk (Kd.R_drew HO_521005.out)
       have n1_ := Azz.mk (kDD BK519.out)
       have n2_ := Azz.mk (kDD BK520.out)
       have n3_ := Azz.mk (bDD HB.out)
       clear HO_521005
       clear BK519
       clear BK520
       clear HB
       have HO_521005 := n0_
       have BK519 := n1_
       have BK520 := n2_
       have HB := n3_
       clear n0_ n1_ n2_ n3_
       have p521 : 0 ≤ (x6_1 : Int) := of_decide_eq_true (by first | (with_reducible assumption) | assumption)
       have q521 : x6_1 < (l1.length : Int) := of_decide_eq_true (by first | (with_reducible assumption) | assumption)
       obtain ⟨ad521, e521, hx521_0⟩ := Kd.at_int HR1.out x6_1 p521 q521
       have hw521_0 := hx521_0
       cases e521
       replace hx521_0 := (HB.out.cell (World.block_lt_of_cell? w _ hx521_0)).trans hx521_0
       replace p521 := eq_true p521
       replace q521 := eq_true q521
       refine start_ (n := 13) (S := fun w' => w'.cell? ⟨gb520, 0, none⟩ = some (.string a0) ∧ w'.cell? ⟨gb520, 1, none⟩ = some (.int .i64 2) ∧ w'.cell? ⟨gb520, 2, none⟩ = some (.bool false) ∧ w'.cell? ⟨gb520, 3, none⟩ = some (.int .i64 0) ∧ w'.cell? ⟨gb520, 4, none⟩ = some (.string (x521004_1 ++ (⟨#[0, 0, 0, 0, 0, 0, 0, 0]⟩ : ByteArray))) ∧ w'.cell? ⟨gb520, 5, none⟩ = some (u521005) ∧ w'.cell? (ad521.add (x6_1).toNat) = some (.int .i64 (rd l1 x6_1))) (ds := [12]) #[false, false, false, false, false, false, false, false, false, false, false, false, false] (by kernel_rfl) rfl rfl ⟨(kCC BK520.out 0).trans rfl, (kCC BK520.out 1).trans rfl, (kCC BK520.out 2).trans rfl, (kCC BK520.out 3).trans rfl, (kCC BK520.out 4).trans rfl, (kCC BK520.out 5).trans rfl, ((HB.out.cell (World.block_lt_of_cell? w _ hw521_0)).trans hw521_0)⟩ (fun hHeld => ?_); refine with_tabW cleatlaw21_quads.tab6 cleatlaw21_quads.bits6 (fun HT_ HW_ => ?_)
       generalize w14.drew = w15 at HO_521005 BK519 BK520 HB hx521_0 hHeld ⊢
       refine pure_ (i := 0) (N := some 19) (v := ?_) (a' := ?_) #[true, false, false, false, false, false, false, false, false, false, false, false, false] rfl rfl (any_of HT_.out (by kernel_rfl)) (fun _ _ _ h => h) (Or.inl ⟨by rfl, ?_⟩) ?_ ?_
       rotate_left
       ·intro w'
        go_simp
        with_reducible rfl
       rotate_left
       ·simp only [Act.put, List.setIfInBounds_toArray, List.set_cons_zero, List.set_cons_succ, i64_w, i32_w]
        rfl
       refine pure_ (i := 2) (N := some 21) (v := ?_) (a' := ?_) #[true, false, true, false, false, false, false, false, false, false, false, false, false] rfl rfl (any_of HT_.out (by kernel_rfl)) (fun _ _ _ h => h) (Or.inl ⟨by rfl, ?_⟩) ?_ ?_
       rotate_left
       ·intro w'
        go_simp
        with_reducible rfl
       rotate_left
       ·simp only [Act.put, List.setIfInBounds_toArray, List.set_cons_zero, List.set_cons_succ, i64_w, i32_w]
        rfl
       refine pure_ (i := 3) (N := some 22) (v := ?_) (a' := ?_) #[true, false, true, true, false, false, false, false, false, false, false, false, false] rfl rfl (any_of HT_.out (by kernel_rfl)) (fun _ _ _ h => h) (Or.inl ⟨by rfl, ?_⟩) ?_ ?_
       rotate_left
       ·intro w'
        go_simp
        with_reducible rfl
       rotate_left
       ·simp only [Act.put, List.setIfInBounds_toArray, List.set_cons_zero, List.set_cons_succ, i64_w, i32_w]
        rfl
       refine pure_ (i := 4) (N := some 23) (v := ?_) (a' := ?_) #[true, false, true, true, true, false, false, false, false, false, false, false, false] rfl rfl (any_of HT_.out (by kernel_rfl)) (fun _ _ _ h => h) (Or.inl ⟨by rfl, ?_⟩) ?_ ?_
       rotate_left
       ·intro w'
        go_simp
        with_reducible rfl
       rotate_left
       ·simp only [Act.put, List.setIfInBounds_toArray, List.set_cons_zero, List.set_cons_succ, i64_w, i32_w]
        rfl
       refine pure_ (i := 5) (N := some 24) (v := ?_) (a' := ?_) #[true, false, true, true, true, true, false, false, false, false, false, false, false] rfl rfl (any_of HT_.out (by kernel_rfl)) (fun _ _ _ h => h) (Or.inl ⟨by rfl, ?_⟩) ?_ ?_
       rotate_left
       ·intro w'
        go_simp
        with_reducible rfl
       rotate_left
       ·simp only [Act.put, List.setIfInBounds_toArray, List.set_cons_zero, List.set_cons_succ, i64_w, i32_w]
        rfl
       refine pure_ (i := 6) (N := some 25) (v := ?_) (a' := ?_) #[true, false, true, true, true, true, true, false, false, false, false, false, false] rfl rfl (any_of HT_.out (by kernel_rfl)) (fun _ _ _ h => h) (Or.inl ⟨by rfl, ?_⟩) ?_ ?_
       rotate_left
       ·intro w'
        go_simp
        with_reducible rfl
       rotate_left
       ·simp only [Act.put, List.setIfInBounds_toArray, List.set_cons_zero, List.set_cons_succ, i64_w, i32_w]
        rfl
       refine take_ (i := 1) (N := some 20) (v := ?_) (a' := ?_) #[true, true, true, true, true, true, true, false, false, false, false, false, false] rfl rfl (take_ofW HT_.out HW_.out (by kernel_rfl)) (fun _ _ _ h => h) (Or.inl ⟨by rfl, ?_⟩) hHeld ?_ ?_
       rotate_left
       ·rintro w' ⟨s0, s1, s2, s3, s4, s5, s6⟩
        go_simp
        with_reducible rfl
       rotate_left
       ·simp only [Act.put, List.setIfInBounds_toArray, List.set_cons_zero, List.set_cons_succ, i64_w, i32_w]
        rfl
       refine take_ (i := 7) (N := some 26) (v := ?_) (a' := ?_) #[true, true, true, true, true, true, true, true, false, false, false, false, false] rfl rfl (take_ofW HT_.out HW_.out (by kernel_rfl)) (fun _ _ _ h => h) (Or.inl ⟨by rfl, ?_⟩) hHeld ?_ ?_
       rotate_left
       ·rintro w' ⟨s0, s1, s2, s3, s4, s5, s6⟩
        go_simp
        with_reducible rfl
       rotate_left
       ·simp only [Act.put, List.setIfInBounds_toArray, List.set_cons_zero, List.set_cons_succ, i64_w, i32_w]
        rfl
       refine pure_ (i := 8) (N := some 27) (v := ?_) (a' := ?_) #[true, true, true, true, true, true, true, true, true, false, false, false, false] rfl rfl (any_of HT_.out (by kernel_rfl)) (fun _ _ _ h => h) (Or.inl ⟨by rfl, ?_⟩) ?_ ?_
       rotate_left
       ·intro w'
        go_simp
        with_reducible rfl
       rotate_left
       ·simp only [Act.put, List.setIfInBounds_toArray, List.set_cons_zero, List.set_cons_succ, i64_w, i32_w]
        rfl
       refine one_ (i := 9) (N := some 28) #[true, true, true, true, true, true, true, true, true, true, false, false, false] rfl rfl (one_of HT_.out (by kernel_rfl)) (by decide) (fun K hK => ?_)
       refine value_ (w1 := ?_) (v := ?_) (by rfl) rfl ?_ ?_
       rotate_left 2
       ·go_simp
        constructor
        ·rfl
        ·rfl
       refine hK.out _ _ ⟨(kCC (kAA BK520.out _) 0).trans rfl, (kCC (kAA BK520.out _) 1).trans rfl, (kCC (kAA BK520.out _) 2).trans rfl, (kCC (kAA BK520.out _) 3).trans rfl, (kCC (kAA BK520.out _) 4).trans rfl, (kCC (kAA BK520.out _) 5).trans rfl, (World.cell?_alloc_lt _ _ _ (World.block_lt_of_cell? _ _ (((HB.out.cell (World.block_lt_of_cell? w _ hw521_0)).trans hw521_0)))).trans (((HB.out.cell (World.block_lt_of_cell? w _ hw521_0)).trans hw521_0))⟩ (fun hHeld => ?_)
       clear hK K
       refine norm_ (a' := ?_) ?_ ?_
       rotate_left
       ·show Act.put _ (some 28) _ = _
        simp only [Act.put, List.setIfInBounds_toArray, List.set_cons_zero, List.set_cons_succ, i64_w, i32_w]
        rfl
       refine one_ (i := 10) (N := some 29) #[true, true, true, true, true, true, true, true, true, true, true, false, false] rfl rfl (one_of HT_.out (by kernel_rfl)) (by decide) (fun K hK => ?_)
       refine Kd.R_append_step k80 (w0 := w) w.heap.size (by rfl) (.tmp 20) (.tmp 28) 37 80 (.agg #[(.int .i64 0), (.int .i64 0), (.int .i64 0), (.int .i64 0)]) 32 rfl Tryz.underlying37 info80 rfl (by decide) (by omega) u521005 x521005_1 (⟨wrap64 (8 * x6_1), 1, rd l1 x6_1, 0⟩ : S80) [.int .i64 (wrap64 (8 * x6_1)), .int .i64 1, .int .i64 (rd l1 x6_1), .int .i64 0] (fun _ => True) (fun _ => False) rfl rfl ?aP (fun _ hk => hk.elim) ?aF ?aO ?aB ?aS ?aL ?_
       (case aP => exact k80_mkM _ _ _ (⟨wrap64 (8 * x6_1), 1, rd l1 x6_1, 0⟩ : S80))
       (case aB => exact (by with_reducible repeat first | exact HB.out | apply bAA | apply bNN | apply bDD | refine bSS ?_ GE519.out | refine bSS ?_ GE520.out))
       (case aF => exact (fun _ _ => trivial))
       (case aO => exact (by (with_reducible repeat (first | apply Kd.R_alloc | apply Kd.R_drewN | apply Kd.R_drew)); exact HO_521005.out))
       (case aS => exact (bZZ (by with_reducible repeat first | exact HB.out | apply bAA | apply bNN | apply bDD | refine bSS ?_ GE519.out | refine bSS ?_ GE520.out)))
       (case aL => have := LMc11.out; omega)
       intro v523 w16 ho hb hg hat
       rw [← Ny522.out] at ho
       have n0_ := Azz.mk (blk_grown (g := gb519) (o := .cells #[.string (⟨#[]⟩ : ByteArray), .int .i64 0, .bool false, .int .i64 0, .string (⟨#[]⟩ : ByteArray), .slice none 0 0] 39 (0, 0)) (by (with_reducible repeat first | apply kNN | apply kDD | apply kAA); exact BK519.out) hg (Kd.R_ne HO_521005.out BK519.out (by decide)))
       have n1_ := Azz.mk (blk_grown (g := gb520) (o := .cells #[.string a0, .int .i64 2, .bool false, .int .i64 0, .string (x521004_1 ++ (⟨#[0, 0, 0, 0, 0, 0, 0, 0]⟩ : ByteArray)), u521005] 39 (0, 0)) (by (with_reducible repeat first | apply kNN | apply kDD | apply kAA); exact BK520.out) hg (Kd.R_ne HO_521005.out BK520.out (by decide)))
       have n2_ := Azz.mk (hb)
       have n3_ := Azz.mk (ho)
       clear BK519
       clear BK520
       clear HB
       clear HO_521005
       have BK519 := n0_
       have BK520 := n1_
       have HB := n2_
       have HO524 := n3_
       clear n0_ n1_ n2_ n3_
       clear ho hb hg hat
       obtain ⟨Ao17, co17, eo17⟩ := Kd.R_slice HO524.out
       (first | subst eo17 | (injection eo17 with f1_ f2_ f3_; have f4_ := f1_.symm; have f5_ := f3_.symm; clear f1_ f2_ f3_; subst f4_; subst f5_))
       refine hK.out _ _ ⟨(kCC BK520.out 0).trans rfl, (kCC BK520.out 1).trans rfl, (kCC BK520.out 2).trans rfl, (kCC BK520.out 3).trans rfl, (kCC BK520.out 4).trans rfl, (kCC BK520.out 5).trans rfl, ((HB.out.cell (World.block_lt_of_cell? w _ hw521_0)).trans hw521_0)⟩ (fun hHeld => ?_)
       clear hK K
       refine norm_ (a' := ?_) ?_ ?_
       rotate_left
       ·show Act.put _ (some 29) _ = _
        simp only [Act.put, List.setIfInBounds_toArray, List.set_cons_zero, List.set_cons_succ, i64_w, i32_w]
        rfl
       refine pure_ (i := 11) (N := some 30) (v := ?_) (a' := ?_) #[true, true, true, true, true, true, true, true, true, true, true, true, false] rfl rfl (any_of HT_.out (by kernel_rfl)) (fun _ _ _ h => h) (Or.inl ⟨by rfl, ?_⟩) ?_ ?_
       rotate_left
       ·intro w'
        go_simp
        with_reducible rfl
       rotate_left
       ·simp only [Act.put, List.setIfInBounds_toArray, List.set_cons_zero, List.set_cons_succ, i64_w, i32_w]
        rfl
       refine last_ (i := 12) (N := none) #[true, true, true, true, true, true, true, true, true, true, true, true, true] rfl rfl (one_of HT_.out (by kernel_rfl)) (by decide) (fun K hK => ?_)
       have hs18 : w16.cell? ⟨gb520, 5, none⟩ = some (u521005) := (kCC BK520.out 5).trans rfl
       have hfs18 := kFF BK520.out 5
       have hns18_0 := NB519_520.out
       have hms18_0 := NB520_519.out
       refine skip_ (w1 := ?_) (by rfl) rfl ?_ ?_
       rotate_left
       ·go_simp
        rfl
       refine hK.out _ _ ?_
       clear hK K
       refine done_ (done_of HT_.out (by kernel_rfl)) ?_
       try go_wp2
       go_roundg k1
       case measure => have := HK1.out; omega
       case rel => exact ⟨(wrap64 (x6_1 + 1)), (x521004_1 ++ (⟨#[0, 0, 0, 0, 0, 0, 0, 0]⟩ : ByteArray)), (y522), (.slice Ao17 y522.length co17), (by first | rfl | (simp; done) | (simp [*]; done)), H', ⟨by have := HK1.out; omega⟩, ⟨by (with_reducible repeat (first | apply Kd.R_alloc | apply Kd.R_drewN | apply Kd.R_drew)); exact Kd.R_mono (Kd.farR1 (Kd.R_types HO524.out BK520.out (by decide)) (fun _ hk => hk.2)) (fun _ hk => trivial)⟩, ⟨by (with_reducible repeat first | apply kNN | apply kDD | apply kAA); refine blk_far ?_ NB519_520.out _; (with_reducible repeat first | apply kNN | apply kDD | apply kAA); exact BK519.out⟩, ⟨by (with_reducible repeat first | apply kNN | apply kDD | apply kAA); refine blk_put (cs := #[.string a0, .int .i64 2, .bool false, .int .i64 0, .string (x521004_1 ++ (⟨#[0, 0, 0, 0, 0, 0, 0, 0]⟩ : ByteArray)), u521005]) ?_ 5 _ rfl; (with_reducible repeat first | apply kNN | apply kDD | apply kAA); exact BK520.out⟩, ⟨by repeat (first | (with_reducible first | exact HB.out | apply bAA | apply bNN | apply bDD | refine bSS ?_ GE519.out | refine bSS ?_ GE520.out) | exact HB.out)⟩⟩
      ·rw [if_neg c11] at H
       exact absurd H (by simp)
     ·rw [if_neg c10] at H
      exact absurd H (by simp)
    ·rw [if_neg c9] at H
     exact absurd H (by simp)
   ·rw [if_neg c8] at H
    have c8b0 := decide_eq_false c8
    clear c8
    simp only [Option.some.injEq, Prod.mk.injEq] at H
    obtain ⟨rfl, rfl, rfl, rfl, rfl, rfl⟩ := H
    have hnb19 := NB520_519.out
    have hnc19 := NB519_520.out
    obtain ⟨hcz20_0, hcz20_1, hcz20_2, hcz20_3, hcz20_4, hcz20_5, hfz20_0, hfz20_1, hfz20_2, hfz20_3, hfz20_4, hfz20_5⟩ := cel6 BK520.out
    obtain ⟨hcz21_0, hcz21_1, hcz21_2, hcz21_3, hcz21_4, hcz21_5, hfz21_0, hfz21_1, hfz21_2, hfz21_3, hfz21_4, hfz21_5⟩ := cel6 BK519.out
    obtain ⟨Ao22, co22, eo22⟩ := Kd.R_slice HO_521005.out
    subst eo22
    go_wp2_with (first | ((with_reducible refine gate_store (t := 39) (p := 4) rfl ?_); refine store_event (t := 39) (p := 4) (v := ?vo_w23) (w1 := ((((((wr.setCell ⟨gb519, 0, none⟩ (.string a0)).setCell ⟨gb519, 1, none⟩ (.int .i64 2)).setCell ⟨gb519, 2, none⟩ (.bool false)).setCell ⟨gb519, 3, none⟩ (.int .i64 0)).setCell ⟨gb519, 4, none⟩ (.string x521004_1)).setCell ⟨gb519, 5, none⟩ (.slice Ao22 x521005_1.length co22))) ?hg ?ho ?hn ?hr ?_; (case ho => rfl); (case hg => rfl); (case hn => rfl); (case hr => first | (go_simp; done) | (go_simp; rfl)); intro w23 hw; have n0_ : Azz (Kd.R k80 80 w23 w.heap.size (fun _ => True) (.slice Ao22 x521005_1.length co22) x521005_1) := ⟨(by rw [hw]; exact (by (with_reducible repeat (first | apply Kd.R_alloc | apply Kd.R_drewN | apply Kd.R_drew)); exact Kd.R_mono (Kd.farR6 (Kd.R_types HO_521005.out BK519.out (by decide)) (fun _ hk => hk.2)) (fun _ hk => trivial)))⟩; have n1_ : Azz (w23.heap[gb519]? = some (.cells #[.string a0, .int .i64 2, .bool false, .int .i64 0, .string x521004_1, .slice Ao22 x521005_1.length co22] 39 (0, 0))) := ⟨(by rw [hw]; exact (by apply put6; (with_reducible repeat first | apply kNN | apply kDD | apply kAA); exact BK519.out))⟩; have n2_ : Azz (w23.heap[gb520]? = some (.cells #[.string a0, .int .i64 2, .bool false, .int .i64 0, .string x521004_1, .slice Ao22 x521005_1.length co22] 39 (0, 0))) := ⟨(by rw [hw]; exact (by refine far6 NB520_519.out ?_; (with_reducible repeat first | apply kNN | apply kDD | apply kAA); exact BK520.out))⟩; have n3_ : Azz (Below w.heap.size w w23) := ⟨(by rw [hw]; exact (by with_reducible repeat first | exact HB.out | apply bAA | apply bNN | apply bDD | refine bSS ?_ GE519.out | refine bSS ?_ GE520.out))⟩; clear hw; clear HO_521005; clear BK519; clear BK520; clear HB; have HO_521005 := n0_; have BK519 := n1_; have BK520 := n2_; have HB := n3_; clear n0_ n1_ n2_ n3_))
    refine bodyPost_ret (results_cell_row rfl _ _ gb519 39 #[.string a0, .int .i64 2, .bool false, .int .i64 0, .string x521004_1, .slice Ao22 x521005_1.length co22] (0, 0) _ rfl (by (with_reducible repeat first | apply kNN | apply kDD | apply kAA); exact BK519.out) Tryz.underlying39 rfl (by kernel_rfl)) rfl ?_
    exact ⟨_, by first | rfl | (simp [eNN, eSS] <;> rfl) | (simp [*, eNN, eSS] <;> rfl), by (with_reducible repeat (first | apply Kd.R_alloc | apply Kd.R_drewN | apply Kd.R_drew)); exact HO_521005.out, by repeat (first | (with_reducible first | exact HB.out | apply bAA | apply bNN | apply bDD | refine bSS ?_ GE519.out | refine bSS ?_ GE520.out) | exact HB.out)⟩
end Go.Proofs.YtngmipfodjgmmaaGreatDoor.P
