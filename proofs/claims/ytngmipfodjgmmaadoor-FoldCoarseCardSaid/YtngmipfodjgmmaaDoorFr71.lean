/- Walks and plain laws of this claim, a part. -/
import Derived.Test.YtngmipfodjgmmaaDoorFr23
namespace Go.Proofs.YtngmipfodjgmmaaDoor.P
open Go.RowKit Go.Proofs.YtngmipfodjgmmaaDoorW.PrintWords Go.Proofs.YtngmipfodjgmmaaDoorW.PrintLast Go.Proofs.YtngmipfodjgmmaaDoorW.PrintMore
attribute [local go_sem] max2_int min2_int max_two min_two max_three min_three max_four min_four   -- for this text's walks alone
set_option linter.unusedVariables false
set_option linter.unusedSimpArgs false
def cleatref16_Big.f (a0_0 : ByteArray) (a0_1 : Int) (a0_2 : Bool) (a0_3 : Int) (a0_4 : ByteArray) (l0_5 : List (S85)) : Option (Bool) := if (a0_4.size : Int) > 5000 then (some true) else (if (l0_5.length : Int) > 80 then (some true) else (some (decide ((a0_0.size : Int) > 100))))
set_option maxHeartbeats 8000000 in
set_option maxRecDepth 100000 in
theorem cleatref16_Big.calls (a0_0 : ByteArray) (a0_1 : Int) (a0_2 : Bool) (a0_3 : Int) (a0_4 : ByteArray) (A0_5 : Option Addr) (c0_5 : Nat) (l0_5 : List (S85)) (r : Bool) (w : World) (hr0_5 : Kd.C k85 w A0_5 l0_5.length l0_5) (hc0_5 : l0_5.length ≤ c0_5) (h : cleatref16_Big.f a0_0 a0_1 a0_2 a0_3 a0_4 l0_5 = some r) :
 Calls Tryd.prog 29 #[.agg #[.string a0_0, .int .i64 a0_1, .bool a0_2, .int .i64 a0_3, .string a0_4, .slice A0_5 l0_5.length c0_5]] w fun e w' => e = .returned (.bool r) ∧ Below w.heap.size w w' := by
 have hu71 := Tryd.underlying71
 have HR0_5 := Azz.mk hr0_5
 have HC0_5 := Azz.mk hc0_5
 clear hr0_5 hc0_5
 have HB := Azz.mk (Below.refl w.heap.size w)
 have H : (if (a0_4.size : Int) > 5000 then (some true) else (if (l0_5.length : Int) > 80 then (some true) else (some (decide ((a0_0.size : Int) > 100))))) = some r := h
 clear h
 by_cases c2 : (a0_4.size : Int) > 5000
 ·rw [if_pos c2] at H
  have c2b0 := decide_eq_true c2
  have c2b1 : decide (5000 < a0_4.size) = true := decide_eq_true (by omega)
  clear c2
  obtain rfl := Option.some.inj H
  go_enter Tryd.func29, Tryd.ntmps29
  go_wp2_with (first | ((with_reducible refine gate_dst (N := 1) rfl ?_); (try (refine gate_guard (by rfl) ?_; dsimp only)); refine box_event ?hg (N := 1) ?hd (cs := #[.string a0_0, .int .i64 a0_1, .bool a0_2, .int .i64 a0_3, .string a0_4, .slice A0_5 l0_5.length c0_5]) (t := 71) ?hr ?_; (case hd => rfl); (case hg => rfl); (case hr => first | (go_simp; done) | (go_simp; rfl)); intro gb101 hg w3 hbox hb; have n0_ := Azz.mk (bTT (by with_reducible repeat first | exact HB.out | apply bAA | apply bNN | apply bDD) hb); have n1_ := Azz.mk (hbox); have n2_ := Azz.mk ((by rw [hg]; exact (bZZ (by with_reducible repeat first | exact HB.out | apply bAA | apply bNN | apply bDD)) : w.heap.size ≤ gb101)); have n3_ := Azz.mk ((by rw [hg]; exact (bZZ (by with_reducible repeat first | exact HB.out | apply bAA | apply bNN | apply bDD)) : w.heap.size ≤ gb101)); clear HB; have HB := n0_; have BK101 := n1_; have GW101 := n2_; have GE101 := n3_; clear n0_ n1_ n2_ n3_; clear hb hbox hg; obtain ⟨hcz4_0, hcz4_1, hcz4_2, hcz4_3, hcz4_4, hcz4_5, hfz4_0, hfz4_1, hfz4_2, hfz4_3, hfz4_4, hfz4_5⟩ := cel6 BK101.out))
  go_ret
  exact ⟨by first | rfl | (simp [eNN, eSS] <;> rfl) | (simp [*, eNN, eSS] <;> rfl), by repeat (first | (with_reducible first | exact HB.out | apply bAA | apply bNN | apply bDD | refine bSS ?_ GE101.out) | exact HB.out)⟩
 ·rw [if_neg c2] at H
  have c2b0 := decide_eq_false c2
  have c2b1 : decide (5000 < a0_4.size) = false := decide_eq_false (by omega)
  clear c2
  by_cases c5 : (l0_5.length : Int) > 80
  ·rw [if_pos c5] at H
   have c5b0 := decide_eq_true c5
   have c5b1 : decide (80 < l0_5.length) = true := decide_eq_true (by omega)
   clear c5
   obtain rfl := Option.some.inj H
   go_enter Tryd.func29, Tryd.ntmps29
   go_wp2_with (first | ((with_reducible refine gate_dst (N := 1) rfl ?_); (try (refine gate_guard (by rfl) ?_; dsimp only)); refine box_event ?hg (N := 1) ?hd (cs := #[.string a0_0, .int .i64 a0_1, .bool a0_2, .int .i64 a0_3, .string a0_4, .slice A0_5 l0_5.length c0_5]) (t := 71) ?hr ?_; (case hd => rfl); (case hg => rfl); (case hr => first | (go_simp; done) | (go_simp; rfl)); intro gb101 hg w6 hbox hb; have n0_ := Azz.mk (bTT (by with_reducible repeat first | exact HB.out | apply bAA | apply bNN | apply bDD) hb); have n1_ := Azz.mk (hbox); have n2_ := Azz.mk ((by rw [hg]; exact (bZZ (by with_reducible repeat first | exact HB.out | apply bAA | apply bNN | apply bDD)) : w.heap.size ≤ gb101)); have n3_ := Azz.mk ((by rw [hg]; exact (bZZ (by with_reducible repeat first | exact HB.out | apply bAA | apply bNN | apply bDD)) : w.heap.size ≤ gb101)); clear HB; have HB := n0_; have BK101 := n1_; have GW101 := n2_; have GE101 := n3_; clear n0_ n1_ n2_ n3_; clear hb hbox hg; obtain ⟨hcz7_0, hcz7_1, hcz7_2, hcz7_3, hcz7_4, hcz7_5, hfz7_0, hfz7_1, hfz7_2, hfz7_3, hfz7_4, hfz7_5⟩ := cel6 BK101.out))
   go_ret
   exact ⟨by first | rfl | (simp [eNN, eSS] <;> rfl) | (simp [*, eNN, eSS] <;> rfl), by repeat (first | (with_reducible first | exact HB.out | apply bAA | apply bNN | apply bDD | refine bSS ?_ GE101.out) | exact HB.out)⟩
  ·rw [if_neg c5] at H
   have c5b0 := decide_eq_false c5
   have c5b1 : decide (80 < l0_5.length) = false := decide_eq_false (by omega)
   clear c5
   obtain rfl := Option.some.inj H
   go_enter Tryd.func29, Tryd.ntmps29
   go_wp2_with (first | ((with_reducible refine gate_dst (N := 1) rfl ?_); (try (refine gate_guard (by rfl) ?_; dsimp only)); refine box_event ?hg (N := 1) ?hd (cs := #[.string a0_0, .int .i64 a0_1, .bool a0_2, .int .i64 a0_3, .string a0_4, .slice A0_5 l0_5.length c0_5]) (t := 71) ?hr ?_; (case hd => rfl); (case hg => rfl); (case hr => first | (go_simp; done) | (go_simp; rfl)); intro gb101 hg w8 hbox hb; have n0_ := Azz.mk (bTT (by with_reducible repeat first | exact HB.out | apply bAA | apply bNN | apply bDD) hb); have n1_ := Azz.mk (hbox); have n2_ := Azz.mk ((by rw [hg]; exact (bZZ (by with_reducible repeat first | exact HB.out | apply bAA | apply bNN | apply bDD)) : w.heap.size ≤ gb101)); have n3_ := Azz.mk ((by rw [hg]; exact (bZZ (by with_reducible repeat first | exact HB.out | apply bAA | apply bNN | apply bDD)) : w.heap.size ≤ gb101)); clear HB; have HB := n0_; have BK101 := n1_; have GW101 := n2_; have GE101 := n3_; clear n0_ n1_ n2_ n3_; clear hb hbox hg; obtain ⟨hcz9_0, hcz9_1, hcz9_2, hcz9_3, hcz9_4, hcz9_5, hfz9_0, hfz9_1, hfz9_2, hfz9_3, hfz9_4, hfz9_5⟩ := cel6 BK101.out))
   go_ret
   exact ⟨by first | rfl | (simp [eNN, eSS] <;> rfl) | (simp [*, eNN, eSS] <;> rfl), by repeat (first | (with_reducible first | exact HB.out | apply bAA | apply bNN | apply bDD | refine bSS ?_ GE101.out) | exact HB.out)⟩
def cleatref21_Sec.l0 : Nat → Int → ByteArray → Int → Bool → Int → ByteArray → List (S64) → ByteArray → Int → Bool → Int → ByteArray → List (S85) → Option (ByteArray × Int × Bool × Int × ByteArray × (List (S85)))
 | 0, _, _, _, _, _, _, _, _, _, _, _, _, _ => none
 | k + 1, x4, x103000, x103001, x103002, x103003, x103004, x103005, x105000, x105001, x105002, x105003, x105004, x105005 => if x4 < (x103005.length : Int) then (if 0 ≤ x4 then (if x105005.length < 4398046511104 then (cleatref21_Sec.l0 k (wrap64 (x4 + 1)) x103000 x103001 x103002 x103003 x103004 x103005 x105000 x105001 x105002 x105003 x105004 (x105005 ++ [(⟨(rd_T64 x103005 x4).f0, (rd_T64 x103005 x4).f1, (rd_T64 x103005 x4).f2, (rd_T64 x103005 x4).f3⟩ : S85)])) else (none)) else (none)) else (some (x105000, x105001, x105002, x105003, x105004, x105005))
def cleatref21_Sec.f (k : Nat) (a0_0 : ByteArray) (a0_1 : Int) (a0_2 : Bool) (a0_3 : Int) (a0_4 : ByteArray) (l0_5 : List (S64)) : Option (ByteArray × Int × Bool × Int × ByteArray × (List (S85))) := cleatref21_Sec.l0 k 0 a0_0 a0_1 a0_2 a0_3 a0_4 l0_5 a0_0 a0_1 a0_2 a0_3 a0_4 ([] : List (S85))
set_option maxHeartbeats 8000000 in
set_option maxRecDepth 100000 in
theorem cleatref21_Sec.calls (k : Nat) (a0_0 : ByteArray) (a0_1 : Int) (a0_2 : Bool) (a0_3 : Int) (a0_4 : ByteArray) (A0_5 : Option Addr) (c0_5 : Nat) (l0_5 : List (S64)) (r1 : ByteArray) (r2 : Int) (r3 : Bool) (r4 : Int) (r5 : ByteArray) (r6 : List (S85)) (w : World) (hr0_5 : Kd.C k64 w A0_5 l0_5.length l0_5) (hc0_5 : l0_5.length ≤ c0_5) (h : cleatref21_Sec.f k a0_0 a0_1 a0_2 a0_3 a0_4 l0_5 = some (r1, r2, r3, r4, r5, r6)) :
 Calls Tryd.prog 30 #[.agg #[.string a0_0, .int .i64 a0_1, .bool a0_2, .int .i64 a0_3, .string a0_4, .slice A0_5 l0_5.length c0_5]] w fun e w' => ∃ v5_ : Value, e = .returned (.agg #[.string r1, .int .i64 r2, .bool r3, .int .i64 r4, .string r5, v5_]) ∧ Kd.R k85 85 w' w.heap.size (fun _ => True) v5_ r6 ∧ Below w.heap.size w w' := by
 have hu36 := Tryd.underlying36
 have hu71 := Tryd.underlying71
 have hu64 := Tryd.underlying64
 have hu85 := Tryd.underlying85
 have HR0_5 := Azz.mk hr0_5
 have HC0_5 := Azz.mk hc0_5
 clear hr0_5 hc0_5
 have HB := Azz.mk (Below.refl w.heap.size w)
 have H : (cleatref21_Sec.l0 k 0 a0_0 a0_1 a0_2 a0_3 a0_4 l0_5 a0_0 a0_1 a0_2 a0_3 a0_4 ([] : List (S85))) = some (r1, r2, r3, r4, r5, r6) := h
 clear h
 have H' := Azz.mk H
 clear H
 go_enter Tryd.func30, Tryd.ntmps30
 go_wp2_with (first | ((with_reducible refine gate_dst (N := 1) rfl ?_); refine box_event ?hg (N := 1) ?hd (cs := #[.string a0_0, .int .i64 a0_1, .bool a0_2, .int .i64 a0_3, .string a0_4, .slice A0_5 l0_5.length c0_5]) (t := 36) ?hr ?_; (case hd => rfl); (case hg => rfl); (case hr => first | (go_simp; done) | (go_simp; rfl)); intro gb102 hg w2 hbox hb; have n0_ := Azz.mk (bTT (by with_reducible repeat first | exact HB.out | apply bAA | apply bNN | apply bDD) hb); have n1_ := Azz.mk (hbox); have n2_ := Azz.mk ((by rw [hg]; exact (bZZ (by with_reducible repeat first | exact HB.out | apply bAA | apply bNN | apply bDD)) : w.heap.size ≤ gb102)); have n3_ := Azz.mk ((by rw [hg]; exact (bZZ (by with_reducible repeat first | exact HB.out | apply bAA | apply bNN | apply bDD)) : w.heap.size ≤ gb102)); clear HB; have HB := n0_; have BK102 := n1_; have GW102 := n2_; have GE102 := n3_; clear n0_ n1_ n2_ n3_; clear hb hbox hg) | ((with_reducible refine gate_dst (N := 2) rfl ?_); refine box_event ?hg (N := 2) ?hd (cs := #[.string (⟨#[]⟩ : ByteArray), .int .i64 0, .bool false, .int .i64 0, .string (⟨#[]⟩ : ByteArray), .slice none 0 0]) (t := 71) ?hr ?_; (case hd => rfl); (case hg => rfl); (case hr => first | (go_simp; done) | (go_simp; rfl)); intro gb103 hg w3 hbox hb; have n0_ := Azz.mk (blk_b hb BK102.out); have n1_ := Azz.mk (bTT (by with_reducible repeat first | exact HB.out | apply bAA | apply bNN | apply bDD | refine bSS ?_ GE102.out) hb); have n2_ := Azz.mk (hbox); have n3_ := Azz.mk ((by rw [hg]; exact (bZZ (by with_reducible repeat first | exact HB.out | apply bAA | apply bNN | apply bDD | refine bSS ?_ GE102.out)) : w.heap.size ≤ gb103)); have n4_ := Azz.mk ((by rw [hg]; exact (bZZ (by with_reducible repeat first | exact HB.out | apply bAA | apply bNN | apply bDD | refine bSS ?_ GE102.out)) : w.heap.size ≤ gb103)); have n5_ := Azz.mk ((by rw [hg]; exact Nat.ne_of_lt (blk_lt BK102.out) : gb102 ≠ gb103)); have n6_ := Azz.mk ((by rw [hg]; exact Nat.ne_of_gt (blk_lt BK102.out) : gb103 ≠ gb102)); clear BK102; clear HB; have BK102 := n0_; have HB := n1_; have BK103 := n2_; have GW103 := n3_; have GE103 := n4_; have NB102_103 := n5_; have NB103_102 := n6_; clear n0_ n1_ n2_ n3_ n4_ n5_ n6_; clear hb hbox hg; have hnb4 := NB102_103.out; have hnc4 := NB103_102.out; obtain ⟨hcz5_0, hcz5_1, hcz5_2, hcz5_3, hcz5_4, hcz5_5, hfz5_0, hfz5_1, hfz5_2, hfz5_3, hfz5_4, hfz5_5⟩ := cel6 BK102.out) | ((with_reducible refine gate_dst (N := 3) rfl ?_); refine box_event ?hg (N := 3) ?hd (cs := #[.string (⟨#[]⟩ : ByteArray), .int .i64 0, .bool false, .int .i64 0, .string (⟨#[]⟩ : ByteArray), .slice none 0 0]) (t := 71) ?hr ?_; (case hd => rfl); (case hg => rfl); (case hr => first | (go_simp; done) | (go_simp; rfl)); intro gb104 hg w6 hbox hb; have n0_ := Azz.mk (blk_b hb BK102.out); have n1_ := Azz.mk (blk_b hb BK103.out); have n2_ := Azz.mk (bTT (by with_reducible repeat first | exact HB.out | apply bAA | apply bNN | apply bDD | refine bSS ?_ GE102.out | refine bSS ?_ GE103.out) hb); have n3_ := Azz.mk (hbox); have n4_ := Azz.mk ((by rw [hg]; exact (bZZ (by with_reducible repeat first | exact HB.out | apply bAA | apply bNN | apply bDD | refine bSS ?_ GE102.out | refine bSS ?_ GE103.out)) : w.heap.size ≤ gb104)); have n5_ := Azz.mk ((by rw [hg]; exact (bZZ (by with_reducible repeat first | exact HB.out | apply bAA | apply bNN | apply bDD | refine bSS ?_ GE102.out | refine bSS ?_ GE103.out)) : w.heap.size ≤ gb104)); have n6_ := Azz.mk ((by rw [hg]; exact Nat.ne_of_lt (blk_lt BK102.out) : gb102 ≠ gb104)); have n7_ := Azz.mk ((by rw [hg]; exact Nat.ne_of_gt (blk_lt BK102.out) : gb104 ≠ gb102)); have n8_ := Azz.mk ((by rw [hg]; exact Nat.ne_of_lt (blk_lt BK103.out) : gb103 ≠ gb104)); have n9_ := Azz.mk ((by rw [hg]; exact Nat.ne_of_gt (blk_lt BK103.out) : gb104 ≠ gb103)); clear BK102; clear BK103; clear HB; have BK102 := n0_; have BK103 := n1_; have HB := n2_; have BK104 := n3_; have GW104 := n4_; have GE104 := n5_; have NB102_104 := n6_; have NB104_102 := n7_; have NB103_104 := n8_; have NB104_103 := n9_; clear n0_ n1_ n2_ n3_ n4_ n5_ n6_ n7_ n8_ n9_; clear hb hbox hg; have hnb7 := NB104_102.out; have hnc7 := NB102_104.out; have hnb8 := NB104_103.out; have hnc8 := NB103_104.out; obtain ⟨hcz9_0, hcz9_1, hcz9_2, hcz9_3, hcz9_4, hcz9_5, hfz9_0, hfz9_1, hfz9_2, hfz9_3, hfz9_4, hfz9_5⟩ := cel6 BK104.out) | ((with_reducible refine gate_store (t := 71) (p := 3) rfl ?_); refine store_event (t := 71) (p := 3) (v := ?vo_w10) (w1 := ((((((w6.setCell ⟨gb104, 0, none⟩ (.string a0_0)).setCell ⟨gb104, 1, none⟩ (.int .i64 a0_1)).setCell ⟨gb104, 2, none⟩ (.bool a0_2)).setCell ⟨gb104, 3, none⟩ (.int .i64 a0_3)).setCell ⟨gb104, 4, none⟩ (.string a0_4)).setCell ⟨gb104, 5, none⟩ (.slice none 0 0))) ?hg ?ho ?hn ?hr ?_; (case ho => rfl); (case hg => rfl); (case hn => rfl); (case hr => first | (go_simp; done) | (go_simp; rfl)); intro w10 hw; have n0_ : Azz (w10.heap[gb102]? = some (.cells #[.string a0_0, .int .i64 a0_1, .bool a0_2, .int .i64 a0_3, .string a0_4, .slice A0_5 l0_5.length c0_5] 36 (0, 0))) := ⟨(by rw [hw]; exact (by refine far6 NB102_104.out ?_; (with_reducible repeat first | apply kNN | apply kDD | apply kAA); exact BK102.out))⟩; have n1_ : Azz (w10.heap[gb103]? = some (.cells #[.string (⟨#[]⟩ : ByteArray), .int .i64 0, .bool false, .int .i64 0, .string (⟨#[]⟩ : ByteArray), .slice none 0 0] 71 (0, 0))) := ⟨(by rw [hw]; exact (by refine far6 NB103_104.out ?_; (with_reducible repeat first | apply kNN | apply kDD | apply kAA); exact BK103.out))⟩; have n2_ : Azz (w10.heap[gb104]? = some (.cells #[.string a0_0, .int .i64 a0_1, .bool a0_2, .int .i64 a0_3, .string a0_4, .slice none 0 0] 71 (0, 0))) := ⟨(by rw [hw]; exact (by apply put6; (with_reducible repeat first | apply kNN | apply kDD | apply kAA); exact BK104.out))⟩; have n3_ : Azz (Below w.heap.size w w10) := ⟨(by rw [hw]; exact (by with_reducible repeat first | exact HB.out | apply bAA | apply bNN | apply bDD | refine bSS ?_ GE102.out | refine bSS ?_ GE103.out | refine bSS ?_ GE104.out))⟩; clear hw; clear BK102; clear BK103; clear BK104; clear HB; have BK102 := n0_; have BK103 := n1_; have BK104 := n2_; have HB := n3_; clear n0_ n1_ n2_ n3_))
 go_loopg [4] k (fun kq v4 w' => ∃ (x4_1 : Int) (x105005_1 : List (S85)) (u105005 : Value), v4 = .int .i64 x4_1 ∧ Azz (cleatref21_Sec.l0 kq x4_1 a0_0 a0_1 a0_2 a0_3 a0_4 l0_5 a0_0 a0_1 a0_2 a0_3 a0_4 x105005_1 = some (r1, r2, r3, r4, r5, r6)) ∧ Azz (kq ≤ k) ∧ Azz (Kd.R k85 85 w' w.heap.size (fun _ => True) u105005 x105005_1) ∧ Azz (w'.heap[gb102]? = some (.cells #[.string a0_0, .int .i64 a0_1, .bool a0_2, .int .i64 a0_3, .string a0_4, (.slice A0_5 l0_5.length c0_5)] 36 (0, 0))) ∧ Azz (w'.heap[gb103]? = some (.cells #[.string (⟨#[]⟩ : ByteArray), .int .i64 0, .bool false, .int .i64 0, .string (⟨#[]⟩ : ByteArray), (.slice none 0 0)] 71 (0, 0))) ∧ Azz (w'.heap[gb104]? = some (.cells #[.string a0_0, .int .i64 a0_1, .bool a0_2, .int .i64 a0_3, .string a0_4, u105005] 71 (0, 0))) ∧ Azz (Below w.heap.size w w'))
 case atStart => exact ⟨(0), (([] : List (S85))), (.slice none 0 0), (by first | rfl | (simp; done) | (simp [*]; done)), H', ⟨Nat.le_refl _⟩, ⟨by first | exact Kd.R_nil _ _ _ _ _ | exact Kd.N_nil _ _ _ _ _ | exact Kd.V_nil _ _ _ _ _ | exact Kd.Q_nil _ _ _ _ _ | exact Kd.S_nil _ _ _ _ _⟩, ⟨by (with_reducible repeat first | apply kNN | apply kDD | apply kAA); exact BK102.out⟩, ⟨by (with_reducible repeat first | apply kNN | apply kDD | apply kAA); exact BK103.out⟩, ⟨by (with_reducible repeat first | apply kNN | apply kDD | apply kAA); exact BK104.out⟩, ⟨by repeat (first | (with_reducible first | exact HB.out | apply bAA | apply bNN | apply bDD | refine bSS ?_ GE102.out | refine bSS ?_ GE103.out | refine bSS ?_ GE104.out) | exact HB.out)⟩⟩
 case round =>
  clear H'
  try clear p2
  try clear c3
  try clear c4
  try clear c7
  try clear c8
  try clear hcz5_0 hcz5_1 hcz5_2 hcz5_3 hcz5_4 hcz5_5 hcz9_0 hcz9_1 hcz9_2 hcz9_3 hcz9_4 hcz9_5 hfz5_0 hfz5_1 hfz5_2 hfz5_3 hfz5_4 hfz5_5 hfz9_0 hfz9_1 hfz9_2 hfz9_3 hfz9_4 hfz9_5
  obtain ⟨x4_1, x105005_1, u105005, rfl, HA, HK1, HO_105005, BK102, BK103, BK104, HB⟩ := hrel
  cases gk with
  | zero => exact absurd HA.out (by simp [cleatref21_Sec.l0])
  | succ k1 =>
   have H := HA.out
   clear HA
   simp only [cleatref21_Sec.l0] at H
   by_cases c11 : x4_1 < (l0_5.length : Int)
   ·rw [if_pos c11] at H
    have c11b0 := decide_eq_true c11
    clear c11
    by_cases c12 : 0 ≤ x4_1
    ·rw [if_pos c12] at H
     have c12b0 := decide_eq_true c12
     clear c12
     by_cases c13 : x105005_1.length < 4398046511104
     ·rw [if_pos c13] at H
      have LMc13 := Azz.mk c13
      clear c13
      obtain ⟨y107, hy107⟩ : ∃ y_ : List (S85), y_ = (x105005_1 ++ [(⟨(rd_T64 l0_5 x4_1).f0, (rd_T64 l0_5 x4_1).f1, (rd_T64 l0_5 x4_1).f2, (rd_T64 l0_5 x4_1).f3⟩ : S85)]) := ⟨_, rfl⟩
      replace H : (cleatref21_Sec.l0 k1 (wrap64 (x4_1 + 1)) a0_0 a0_1 a0_2 a0_3 a0_4 l0_5 a0_0 a0_1 a0_2 a0_3 a0_4 y107) = some (r1, r2, r3, r4, r5, r6) := by first | (rw [hy107]; with_reducible exact H) | (have H2_ := (Option.bind_some _ _).symm.trans H; rw [hy107]; with_reducible exact H2_) | (have H2_ := (Option.bind_some _ _).symm.trans H; with_reducible exact H2_) | with_reducible exact H | (rw [hy107]; exact H) | exact H
      have Ny107 := Azz.mk hy107
      clear hy107
      have H' := Azz.mk H
      clear H
      have hnb14 := NB102_103.out
      have hnc14 := NB103_102.out
      have hnb15 := NB102_104.out
      have hnc15 := NB104_102.out
      obtain ⟨hcz16_0, hcz16_1, hcz16_2, hcz16_3, hcz16_4, hcz16_5, hfz16_0, hfz16_1, hfz16_2, hfz16_3, hfz16_4, hfz16_5⟩ := cel6 BK102.out
      have p105 : 0 ≤ (x4_1 : Int) := of_decide_eq_true (by first | (with_reducible assumption) | assumption)
      have q105 : x4_1 < (l0_5.length : Int) := of_decide_eq_true (by first | (with_reducible assumption) | assumption)
      obtain ⟨ad105, e105, hx105_0, hx105_1, hx105_2, hx105_3⟩ := at_T64 HR0_5.out x4_1 p105 q105
      cases e105
      replace hx105_0 := (HB.out.cell (World.block_lt_of_cell? w _ hx105_0)).trans hx105_0
      replace hx105_1 := (HB.out.cell (World.block_lt_of_cell? w _ hx105_1)).trans hx105_1
      replace hx105_2 := (HB.out.cell (World.block_lt_of_cell? w _ hx105_2)).trans hx105_2
      replace hx105_3 := (HB.out.cell (World.block_lt_of_cell? w _ hx105_3)).trans hx105_3
      replace p105 := eq_true p105
      replace q105 := eq_true q105
      go_wp2_with (first | ((with_reducible refine gate_dst (N := 5) rfl ?_); refine box_event ?hg (N := 5) ?hd (cs := #[.int .i64 0, .int .i64 0, .int .i64 0, .int .i64 0]) (t := 64) ?hr ?_; (case hd => rfl); (case hg => rfl); (case hr => first | (go_simp; done) | (go_simp; rfl)); intro gb106 hg w17 hbox hb; have n0_ := Azz.mk (Kd.R_below (by (with_reducible repeat (first | apply Kd.R_alloc | apply Kd.R_drewN | apply Kd.R_drew)); exact HO_105005.out) hb); have n1_ := Azz.mk (blk_b hb BK102.out); have n2_ := Azz.mk (blk_b hb BK103.out); have n3_ := Azz.mk (blk_b hb BK104.out); have n4_ := Azz.mk (bTT (by with_reducible repeat first | exact HB.out | apply bAA | apply bNN | apply bDD | refine bSS ?_ GE102.out | refine bSS ?_ GE103.out | refine bSS ?_ GE104.out) hb); have n5_ := Azz.mk (hbox); have n6_ := Azz.mk ((by rw [hg]; exact (bZZ (by with_reducible repeat first | exact HB.out | apply bAA | apply bNN | apply bDD | refine bSS ?_ GE102.out | refine bSS ?_ GE103.out | refine bSS ?_ GE104.out)) : w.heap.size ≤ gb106)); have n7_ := Azz.mk ((by rw [hg]; exact (bZZ (by with_reducible repeat first | exact HB.out | apply bAA | apply bNN | apply bDD | refine bSS ?_ GE102.out | refine bSS ?_ GE103.out | refine bSS ?_ GE104.out)) : w.heap.size ≤ gb106)); have n8_ := Azz.mk ((by rw [hg]; exact Nat.ne_of_lt (blk_lt BK102.out) : gb102 ≠ gb106)); have n9_ := Azz.mk ((by rw [hg]; exact Nat.ne_of_gt (blk_lt BK102.out) : gb106 ≠ gb102)); have n10_ := Azz.mk ((by rw [hg]; exact Nat.ne_of_lt (blk_lt BK103.out) : gb103 ≠ gb106)); have n11_ := Azz.mk ((by rw [hg]; exact Nat.ne_of_gt (blk_lt BK103.out) : gb106 ≠ gb103)); have n12_ := Azz.mk ((by rw [hg]; exact Nat.ne_of_lt (blk_lt BK104.out) : gb104 ≠ gb106)); have n13_ := Azz.mk ((by rw [hg]; exact Nat.ne_of_gt (blk_lt BK104.out) : gb106 ≠ gb104)); clear HO_105005; clear BK102; clear BK103; clear BK104; clear HB; have HO_105005 := n0_; have BK102 := n1_; have BK103 := n2_; have BK104 := n3_; have HB := n4_; have BK106 := n5_; have GW106 := n6_; have GE106 := n7_; have NB102_106 := n8_; have NB106_102 := n9_; have NB103_106 := n10_; have NB106_103 := n11_; have NB104_106 := n12_; have NB106_104 := n13_; clear n0_ n1_ n2_ n3_ n4_ n5_ n6_ n7_ n8_ n9_ n10_ n11_ n12_ n13_; clear hb hbox hg; have hnb18 := NB106_102.out; have hnc18 := NB102_106.out; have hnb19 := NB106_103.out; have hnc19 := NB103_106.out; have hnb20 := NB106_104.out; have hnc20 := NB104_106.out; obtain ⟨hcz21_0, hcz21_1, hcz21_2, hcz21_3, hfz21_0, hfz21_1, hfz21_2, hfz21_3⟩ := cel4 BK106.out; have hnb22 := NB104_103.out; have hnc22 := NB103_104.out; obtain ⟨hcz23_0, hcz23_1, hcz23_2, hcz23_3, hcz23_4, hcz23_5, hfz23_0, hfz23_1, hfz23_2, hfz23_3, hfz23_4, hfz23_5⟩ := cel6 BK104.out) | ((with_reducible refine gate_builtin (b := .append) (xs := #[.tmp 30, .tmp 40]) rfl ?_); at_builtin; refine Kd.R_append k85 (w0 := w) w.heap.size rfl (.tmp 30) (.tmp 40) 69 85 (.agg #[(.int .i64 0), (.int .i64 0), (.int .i64 0), (.int .i64 0)]) 32 rfl Tryd.underlying69 info85 rfl (by decide) (by omega) u105005 x105005_1 (⟨(rd_T64 l0_5 x4_1).f0, (rd_T64 l0_5 x4_1).f1, (rd_T64 l0_5 x4_1).f2, (rd_T64 l0_5 x4_1).f3⟩ : S85) [.int .i64 ((rd_T64 l0_5 x4_1).f0), .int .i64 ((rd_T64 l0_5 x4_1).f1), .int .i64 ((rd_T64 l0_5 x4_1).f2), .int .i64 ((rd_T64 l0_5 x4_1).f3)] (fun _ => True) (fun _ => False) rfl (by first | (go_simp; done) | (go_simp; rfl)) ?aP (fun _ hk => hk.elim) ?aF ?aO ?aB ?aS ?aL ?_; (case aP => exact k85_mkM _ _ _ (⟨(rd_T64 l0_5 x4_1).f0, (rd_T64 l0_5 x4_1).f1, (rd_T64 l0_5 x4_1).f2, (rd_T64 l0_5 x4_1).f3⟩ : S85)); (case aB => exact (by with_reducible repeat first | exact HB.out | apply bAA | apply bNN | apply bDD | refine bSS ?_ GE102.out | refine bSS ?_ GE103.out | refine bSS ?_ GE104.out | refine bSS ?_ GE106.out)); (case aF => exact (fun _ _ => trivial)); (case aO => exact (by (with_reducible repeat (first | apply Kd.R_alloc | apply Kd.R_drewN | apply Kd.R_drew)); exact Kd.R_mono (Kd.farR4 (Kd.R_types HO_105005.out BK106.out (by decide)) (fun _ hk => hk.2)) (fun _ hk => trivial))); (case aS => exact (bZZ (by with_reducible repeat first | exact HB.out | apply bAA | apply bNN | apply bDD | refine bSS ?_ GE102.out | refine bSS ?_ GE103.out | refine bSS ?_ GE104.out | refine bSS ?_ GE106.out))); (case aL => have := LMc13.out; omega); intro v108 w24 ho hb hg hat; rw [← Ny107.out] at ho; have n0_ := Azz.mk (blk_grown (g := gb102) (o := .cells #[.string a0_0, .int .i64 a0_1, .bool a0_2, .int .i64 a0_3, .string a0_4, .slice (some ad105) l0_5.length c0_5] 36 (0, 0)) (by refine far4 NB102_106.out ?_; (with_reducible repeat first | apply kNN | apply kDD | apply kAA); exact BK102.out) hg (Kd.R_ne HO_105005.out BK102.out (by decide))); have n1_ := Azz.mk (blk_grown (g := gb103) (o := .cells #[.string (⟨#[]⟩ : ByteArray), .int .i64 0, .bool false, .int .i64 0, .string (⟨#[]⟩ : ByteArray), .slice none 0 0] 71 (0, 0)) (by refine far4 NB103_106.out ?_; (with_reducible repeat first | apply kNN | apply kDD | apply kAA); exact BK103.out) hg (Kd.R_ne HO_105005.out BK103.out (by decide))); have n2_ := Azz.mk (blk_grown (g := gb104) (o := .cells #[.string a0_0, .int .i64 a0_1, .bool a0_2, .int .i64 a0_3, .string a0_4, u105005] 71 (0, 0)) (by refine far4 NB104_106.out ?_; (with_reducible repeat first | apply kNN | apply kDD | apply kAA); exact BK104.out) hg (Kd.R_ne HO_105005.out BK104.out (by decide))); have n3_ := Azz.mk (blk_grown (g := gb106) (o := .cells #[.int .i64 ((rd_T64 l0_5 x4_1).f0), .int .i64 ((rd_T64 l0_5 x4_1).f1), .int .i64 ((rd_T64 l0_5 x4_1).f2), .int .i64 ((rd_T64 l0_5 x4_1).f3)] 64 (0, 0)) (by apply put4; (with_reducible repeat first | apply kNN | apply kDD | apply kAA); exact BK106.out) hg (Kd.R_ne HO_105005.out BK106.out (by decide))); have n4_ := Azz.mk (hb); have n5_ := Azz.mk (ho); clear BK102; clear BK103; clear BK104; clear BK106; clear HB; clear HO_105005; have BK102 := n0_; have BK103 := n1_; have BK104 := n2_; have BK106 := n3_; have HB := n4_; have HO109 := n5_; clear n0_ n1_ n2_ n3_ n4_ n5_; clear ho hb hg hat; obtain ⟨Ao25, co25, eo25⟩ := Kd.R_slice HO109.out; subst eo25; obtain ⟨hcz26_0, hcz26_1, hcz26_2, hcz26_3, hcz26_4, hcz26_5, hfz26_0, hfz26_1, hfz26_2, hfz26_3, hfz26_4, hfz26_5⟩ := cel6 BK104.out))
      go_roundg k1
      case measure => have := HK1.out; omega
      case rel => exact ⟨(wrap64 (x4_1 + 1)), (y107), (.slice Ao25 y107.length co25), (by first | rfl | (simp; done) | (simp [*]; done)), H', ⟨by have := HK1.out; omega⟩, ⟨by (with_reducible repeat (first | apply Kd.R_alloc | apply Kd.R_drewN | apply Kd.R_drew)); exact Kd.R_mono (Kd.farR1 (Kd.R_types HO109.out BK104.out (by decide)) (fun _ hk => hk.2)) (fun _ hk => trivial)⟩, ⟨by (with_reducible repeat first | apply kNN | apply kDD | apply kAA); refine blk_far ?_ NB102_104.out _; (with_reducible repeat first | apply kNN | apply kDD | apply kAA); exact BK102.out⟩, ⟨by (with_reducible repeat first | apply kNN | apply kDD | apply kAA); refine blk_far ?_ NB103_104.out _; (with_reducible repeat first | apply kNN | apply kDD | apply kAA); exact BK103.out⟩, ⟨by (with_reducible repeat first | apply kNN | apply kDD | apply kAA); refine blk_put (cs := #[.string a0_0, .int .i64 a0_1, .bool a0_2, .int .i64 a0_3, .string a0_4, u105005]) ?_ 5 _ rfl; (with_reducible repeat first | apply kNN | apply kDD | apply kAA); exact BK104.out⟩, ⟨by repeat (first | (with_reducible first | exact HB.out | apply bAA | apply bNN | apply bDD | refine bSS ?_ GE102.out | refine bSS ?_ GE103.out | refine bSS ?_ GE104.out | refine bSS ?_ GE106.out) | exact HB.out)⟩⟩
     ·rw [if_neg c13] at H
      exact absurd H (by simp)
    ·rw [if_neg c12] at H
     exact absurd H (by simp)
   ·rw [if_neg c11] at H
    have c11b0 := decide_eq_false c11
    clear c11
    simp only [Option.some.injEq, Prod.mk.injEq] at H
    obtain ⟨rfl, rfl, rfl, rfl, rfl, rfl⟩ := H
    have hnb27 := NB102_103.out
    have hnc27 := NB103_102.out
    have hnb28 := NB102_104.out
    have hnc28 := NB104_102.out
    obtain ⟨hcz29_0, hcz29_1, hcz29_2, hcz29_3, hcz29_4, hcz29_5, hfz29_0, hfz29_1, hfz29_2, hfz29_3, hfz29_4, hfz29_5⟩ := cel6 BK102.out
    have hnb30 := NB104_103.out
    have hnc30 := NB103_104.out
    obtain ⟨hcz31_0, hcz31_1, hcz31_2, hcz31_3, hcz31_4, hcz31_5, hfz31_0, hfz31_1, hfz31_2, hfz31_3, hfz31_4, hfz31_5⟩ := cel6 BK104.out
    obtain ⟨hcz32_0, hcz32_1, hcz32_2, hcz32_3, hcz32_4, hcz32_5, hfz32_0, hfz32_1, hfz32_2, hfz32_3, hfz32_4, hfz32_5⟩ := cel6 BK103.out
    obtain ⟨Ao33, co33, eo33⟩ := Kd.R_slice HO_105005.out
    subst eo33
    go_wp2_with (first | ((with_reducible refine gate_store (t := 71) (p := 2) rfl ?_); refine store_event (t := 71) (p := 2) (v := ?vo_w34) (w1 := ((((((wr.setCell ⟨gb103, 0, none⟩ (.string a0_0)).setCell ⟨gb103, 1, none⟩ (.int .i64 a0_1)).setCell ⟨gb103, 2, none⟩ (.bool a0_2)).setCell ⟨gb103, 3, none⟩ (.int .i64 a0_3)).setCell ⟨gb103, 4, none⟩ (.string a0_4)).setCell ⟨gb103, 5, none⟩ (.slice Ao33 x105005_1.length co33))) ?hg ?ho ?hn ?hr ?_; (case ho => rfl); (case hg => rfl); (case hn => rfl); (case hr => first | (go_simp; done) | (go_simp; rfl)); intro w34 hw; have n0_ : Azz (Kd.R k85 85 w34 w.heap.size (fun _ => True) (.slice Ao33 x105005_1.length co33) x105005_1) := ⟨(by rw [hw]; exact (by (with_reducible repeat (first | apply Kd.R_alloc | apply Kd.R_drewN | apply Kd.R_drew)); exact Kd.R_mono (Kd.farR6 (Kd.R_types HO_105005.out BK103.out (by decide)) (fun _ hk => hk.2)) (fun _ hk => trivial)))⟩; have n1_ : Azz (w34.heap[gb102]? = some (.cells #[.string a0_0, .int .i64 a0_1, .bool a0_2, .int .i64 a0_3, .string a0_4, .slice A0_5 l0_5.length c0_5] 36 (0, 0))) := ⟨(by rw [hw]; exact (by refine far6 NB102_103.out ?_; (with_reducible repeat first | apply kNN | apply kDD | apply kAA); exact BK102.out))⟩; have n2_ : Azz (w34.heap[gb103]? = some (.cells #[.string a0_0, .int .i64 a0_1, .bool a0_2, .int .i64 a0_3, .string a0_4, .slice Ao33 x105005_1.length co33] 71 (0, 0))) := ⟨(by rw [hw]; exact (by apply put6; (with_reducible repeat first | apply kNN | apply kDD | apply kAA); exact BK103.out))⟩; have n3_ : Azz (w34.heap[gb104]? = some (.cells #[.string a0_0, .int .i64 a0_1, .bool a0_2, .int .i64 a0_3, .string a0_4, .slice Ao33 x105005_1.length co33] 71 (0, 0))) := ⟨(by rw [hw]; exact (by refine far6 NB104_103.out ?_; (with_reducible repeat first | apply kNN | apply kDD | apply kAA); exact BK104.out))⟩; have n4_ : Azz (Below w.heap.size w w34) := ⟨(by rw [hw]; exact (by with_reducible repeat first | exact HB.out | apply bAA | apply bNN | apply bDD | refine bSS ?_ GE102.out | refine bSS ?_ GE103.out | refine bSS ?_ GE104.out))⟩; clear hw; clear HO_105005; clear BK102; clear BK103; clear BK104; clear HB; have HO_105005 := n0_; have BK102 := n1_; have BK103 := n2_; have BK104 := n3_; have HB := n4_; clear n0_ n1_ n2_ n3_ n4_))
    refine bodyPost_ret (results_cell_row rfl _ _ gb103 71 #[.string a0_0, .int .i64 a0_1, .bool a0_2, .int .i64 a0_3, .string a0_4, .slice Ao33 x105005_1.length co33] (0, 0) _ rfl (by (with_reducible repeat first | apply kNN | apply kDD | apply kAA); exact BK103.out) Tryd.underlying71 rfl (by kernel_rfl)) rfl ?_
    exact ⟨_, by first | rfl | (simp [eNN, eSS] <;> rfl) | (simp [*, eNN, eSS] <;> rfl), by (with_reducible repeat (first | apply Kd.R_alloc | apply Kd.R_drewN | apply Kd.R_drew)); exact HO_105005.out, by repeat (first | (with_reducible first | exact HB.out | apply bAA | apply bNN | apply bDD | refine bSS ?_ GE102.out | refine bSS ?_ GE103.out | refine bSS ?_ GE104.out) | exact HB.out)⟩
mutual
def cleatref21_Big.l0 : Nat → List (S36) → Int → Option (Bool)
 | 0, _, _ => none
 | k + 1, x0, x3 => if x3 < (x0.length : Int) then (cleatref21_Big.j1 k x0 x3 (decide ((x0.length : Int) ≤ 40))) else (cleatref21_Big.j1 k x0 x3 false)
def cleatref21_Big.j1 : Nat → List (S36) → Int → Bool → Option (Bool)
 | 0, _, _, _ => none
 | k + 1, x0, x3, x12 => if x12 = true then (if 0 ≤ x3 then (if x3 < (x0.length : Int) then ((cleatref21_Sec.f k ((rd_T36 x0 x3).f0) ((rd_T36 x0 x3).f1) ((rd_T36 x0 x3).f2) ((rd_T36 x0 x3).f3) ((rd_T36 x0 x3).f4) ((rd_T36 x0 x3).f5)).bind fun bt111 => ((cleatref16_Big.f bt111.1 bt111.2.1 bt111.2.2.1 bt111.2.2.2.1 bt111.2.2.2.2.1 bt111.2.2.2.2.2).bind fun t119 => (if t119 = true then (some true) else (cleatref21_Big.l0 k x0 (wrap64 (x3 + 1)))))) else (none)) else (none)) else (if (x0.length : Int) > 40 then (if (x0.length : Int) ≤ 256 then (some true) else (some (decide ((x0.length : Int) > 300)))) else (some (decide ((x0.length : Int) > 300))))
end
def cleatref21_Big.f (k : Nat) (l0 : List (S36)) : Option (Bool) := cleatref21_Big.l0 k l0 0
set_option maxHeartbeats 8000000 in
set_option maxRecDepth 100000 in
theorem cleatref21_Big.calls (k : Nat) (A0 : Option Addr) (c0 : Nat) (l0 : List (S36)) (r : Bool) (w : World) (hr0 : Kd.C k36 w A0 l0.length l0) (hc0 : l0.length ≤ c0) (h : cleatref21_Big.f k l0 = some r) :
 Calls Tryd.prog 12 #[.slice A0 l0.length c0] w fun e w' => e = .returned (.bool r) ∧ Below w.heap.size w w' := by
 have hu36 := Tryd.underlying36
 have HR0 := Azz.mk hr0
 have HC0 := Azz.mk hc0
 clear hr0 hc0
 have HB := Azz.mk (Below.refl w.heap.size w)
 have H : (cleatref21_Big.l0 k l0 0) = some r := h
 clear h
 have H' := Azz.mk H
 clear H
 go_enter Tryd.func12, Tryd.ntmps12
 go_wp2
 go_loopg [3] k (fun kq v3 w' => ∃ (x3_1 : Int), v3 = .int .i64 x3_1 ∧ Azz (cleatref21_Big.l0 kq l0 x3_1 = some r) ∧ Azz (kq ≤ k) ∧ Azz (Below w.heap.size w w'))
 case atStart => exact ⟨(0), (by first | rfl | (simp; done) | (simp [*]; done)), H', ⟨Nat.le_refl _⟩, ⟨by repeat (first | (with_reducible first | exact HB.out | apply bAA | apply bNN | apply bDD) | exact HB.out)⟩⟩
 case round =>
  clear H'
  try clear c1
  obtain ⟨x3_1, rfl, HA, HK1, HB⟩ := hrel
  cases gk with
  | zero => exact absurd HA.out (by simp [cleatref21_Big.l0])
  | succ k1 =>
   have H := HA.out
   clear HA
   simp only [cleatref21_Big.l0] at H
   have HC2 := Azz.mk H
   clear H
   go_upto_region 2 with (fail)
   go_cut [12] (fun v12 wc => ∃ (kq : Nat) (x12_1 : Bool), v12 = .bool x12_1 ∧ Azz (cleatref21_Big.j1 kq l0 x3_1 x12_1 = some r) ∧ Azz (kq ≤ k1) ∧ Azz (Below w.heap.size w wc))
   case first =>
    have H := HC2.out
    clear HC2
    by_cases c3 : x3_1 < (l0.length : Int)
    ·rw [if_pos c3] at H
     have c3b0 := decide_eq_true c3
     clear c3
     (first | rw [c3b0] | (simp only [i64_w, i32_w]; rw [c3b0]) | skip)
     have H' := Azz.mk H
     clear H
     go_wp2
     go_meet
     case rel => exact ⟨_, (decide ((l0.length : Int) ≤ 40)), (by first | rfl | (simp; done) | (simp [*]; done)), H', ⟨by have := HK1.out; first | omega | exact Nat.le_refl _⟩, ⟨by repeat (first | (with_reducible first | exact HB.out | apply bAA | apply bNN | apply bDD) | exact HB.out)⟩⟩
    ·rw [if_neg c3] at H
     have c3b0 := decide_eq_false c3
     clear c3
     (first | rw [c3b0] | (simp only [i64_w, i32_w]; rw [c3b0]) | skip)
     have H' := Azz.mk H
     clear H
     go_wp2
     go_meet
     case rel => exact ⟨_, (false), (by first | rfl | (simp; done) | (simp [*]; done)), H', ⟨by have := HK1.out; first | omega | exact Nat.le_refl _⟩, ⟨by repeat (first | (with_reducible first | exact HB.out | apply bAA | apply bNN | apply bDD) | exact HB.out)⟩⟩
   case rest =>
    clear HC2
    try clear c1
    try clear p2
    try clear c3
    try clear c3b0
    obtain ⟨kq, x12_1, rfl, HA, HJ1, HB⟩ := hcut
    cases kq with
    | zero => exact absurd HA.out (by simp [cleatref21_Big.j1])
    | succ kj1 =>
     have H := HA.out
     clear HA
     simp only [cleatref21_Big.j1] at H
     by_cases c4 : x12_1 = true
     ·subst c4
      rw [if_pos rfl] at H
      by_cases c5 : 0 ≤ x3_1
      ·rw [if_pos c5] at H
       have c5b0 := decide_eq_true c5
       clear c5
       by_cases c6 : x3_1 < (l0.length : Int)
       ·rw [if_pos c6] at H
        have c6b0 := decide_eq_true c6
        clear c6
        replace H := Option.bind_eq_some_iff.mp H
        obtain ⟨⟨t111, t112, t113, t114, t115, t116⟩, A70, H⟩ := H
        (try dsimp only at H)
        have A7 := Azz.mk A70
        clear A70
        replace H := Option.bind_eq_some_iff.mp H
        obtain ⟨t119, A80, H⟩ := H
        (try dsimp only at H)
        have A8 := Azz.mk A80
        clear A80
        by_cases c9 : t119 = true
        ·subst c9
         rw [if_pos rfl] at H
         obtain rfl := Option.some.inj H
         have p110 : 0 ≤ (x3_1 : Int) := of_decide_eq_true (by first | (with_reducible assumption) | assumption)
         have q110 : x3_1 < (l0.length : Int) := of_decide_eq_true (by first | (with_reducible assumption) | assumption)
         obtain ⟨ad110, A110_5, c110_5, e110, hx110_0, hx110_1, hx110_2, hx110_3, hx110_4, hx110_5, hl110_5, hi110_5⟩ := at_T36 HR0.out x3_1 p110 q110
         cases e110
         replace hx110_0 := (HB.out.cell (World.block_lt_of_cell? w _ hx110_0)).trans hx110_0
         replace hx110_1 := (HB.out.cell (World.block_lt_of_cell? w _ hx110_1)).trans hx110_1
         replace hx110_2 := (HB.out.cell (World.block_lt_of_cell? w _ hx110_2)).trans hx110_2
         replace hx110_3 := (HB.out.cell (World.block_lt_of_cell? w _ hx110_3)).trans hx110_3
         replace hx110_4 := (HB.out.cell (World.block_lt_of_cell? w _ hx110_4)).trans hx110_4
         replace hx110_5 := (HB.out.cell (World.block_lt_of_cell? w _ hx110_5)).trans hx110_5
         have HR110_5 := Azz.mk hi110_5
         have HC110_5 := Azz.mk hl110_5
         clear hi110_5 hl110_5
         replace p110 := eq_true p110
         replace q110 := eq_true q110
         go_wp2_with (first | ((with_reducible refine gate_callee (f := 30) rfl ?_); refine goesL_ (some 19) rfl rfl Tryd.func30 (by kernel_rfl) rfl #[.agg #[.string ((rd_T36 l0 x3_1).f0), .int .i64 ((rd_T36 l0 x3_1).f1), .bool ((rd_T36 l0 x3_1).f2), .int .i64 ((rd_T36 l0 x3_1).f3), .string ((rd_T36 l0 x3_1).f4), .slice A110_5 ((rd_T36 l0 x3_1).f5).length c110_5]] rfl (by (try simp only [List.map_toArray, List.map_cons, List.map_nil]); first | done | rfl | (simp only [List.length_drop, List.length_take]; rfl)) ?_; (with_reducible refine (cleatref21_Sec.calls kj1 ((rd_T36 l0 x3_1).f0) ((rd_T36 l0 x3_1).f1) ((rd_T36 l0 x3_1).f2) ((rd_T36 l0 x3_1).f3) ((rd_T36 l0 x3_1).f4) _ _ ((rd_T36 l0 x3_1).f5) t111 t112 t113 t114 t115 t116 _ ?side1 ?side2 A7.out).mono ?_); (case side1 => repeat (first | exact (Kd.C_below HR110_5.out HB.out) | (with_reducible refine Kd.C_alloc ?_ _) | (with_reducible refine Kd.C_drewN ?_ _) | (with_reducible refine Kd.C_drew ?_))); (case side2 => exact HC110_5.out); rintro e w10 ⟨v117, rfl, ho0, hb⟩; refine ⟨_, rfl, ?_⟩; have n0_ := Azz.mk (Kd.R_lower ho0 (bZZ (by with_reducible repeat first | exact HB.out | apply bAA | apply bNN | apply bDD))); have n1_ := Azz.mk (bTT (by with_reducible repeat first | exact HB.out | apply bAA | apply bNN | apply bDD) hb); clear HB; have HO118 := n0_; have HB := n1_; clear n0_ n1_; (try clear hb); (try clear hb2); (try clear hk); (try clear hi); (try clear ho0); obtain ⟨Ao11, co11, eo11⟩ := Kd.R_slice HO118.out; subst eo11) | ((with_reducible refine gate_callee (f := 29) rfl ?_); refine goesL_ (some 20) rfl rfl Tryd.func29 (by kernel_rfl) rfl #[.agg #[.string t111, .int .i64 t112, .bool t113, .int .i64 t114, .string t115, .slice Ao11 t116.length co11]] rfl (by (try simp only [List.map_toArray, List.map_cons, List.map_nil]); first | done | rfl | (simp only [List.length_drop, List.length_take]; rfl)) ?_; (with_reducible refine (cleatref16_Big.calls t111 t112 t113 t114 t115 _ _ t116 true _ ?side1 ?side2 A8.out).mono ?_); (case side1 => repeat (first | exact (Kd.R_reads' HO118.out).2.2 | (with_reducible refine Kd.C_alloc ?_ _) | (with_reducible refine Kd.C_drewN ?_ _) | (with_reducible refine Kd.C_drew ?_))); (case side2 => exact (Kd.R_reads' HO118.out).2.1); rintro e w12 ⟨rfl, hb⟩; refine ⟨_, rfl, ?_⟩; have n0_ := Azz.mk (Kd.R_below (by (with_reducible repeat (first | apply Kd.R_alloc | apply Kd.R_drewN | apply Kd.R_drew)); exact HO118.out) hb); have n1_ := Azz.mk (bTT (by with_reducible repeat first | exact HB.out | apply bAA | apply bNN | apply bDD) hb); clear HO118; clear HB; have HO118 := n0_; have HB := n1_; clear n0_ n1_; (try clear hb); (try clear hb2); (try clear hk); (try clear hi)))
         go_ret
         exact ⟨by first | rfl | (simp [eNN, eSS] <;> rfl) | (simp [*, eNN, eSS] <;> rfl), by repeat (first | (with_reducible first | exact HB.out | apply bAA | apply bNN | apply bDD) | exact HB.out)⟩
        ·replace c9 := Bool.eq_false_iff.mpr c9
         subst c9
         rw [if_neg (show ¬ (false = true) by decide)] at H
         have H' := Azz.mk H
         clear H
         have p110 : 0 ≤ (x3_1 : Int) := of_decide_eq_true (by first | (with_reducible assumption) | assumption)
         have q110 : x3_1 < (l0.length : Int) := of_decide_eq_true (by first | (with_reducible assumption) | assumption)
         obtain ⟨ad110, A110_5, c110_5, e110, hx110_0, hx110_1, hx110_2, hx110_3, hx110_4, hx110_5, hl110_5, hi110_5⟩ := at_T36 HR0.out x3_1 p110 q110
         cases e110
         replace hx110_0 := (HB.out.cell (World.block_lt_of_cell? w _ hx110_0)).trans hx110_0
         replace hx110_1 := (HB.out.cell (World.block_lt_of_cell? w _ hx110_1)).trans hx110_1
         replace hx110_2 := (HB.out.cell (World.block_lt_of_cell? w _ hx110_2)).trans hx110_2
         replace hx110_3 := (HB.out.cell (World.block_lt_of_cell? w _ hx110_3)).trans hx110_3
         replace hx110_4 := (HB.out.cell (World.block_lt_of_cell? w _ hx110_4)).trans hx110_4
         replace hx110_5 := (HB.out.cell (World.block_lt_of_cell? w _ hx110_5)).trans hx110_5
         have HR110_5 := Azz.mk hi110_5
         have HC110_5 := Azz.mk hl110_5
         clear hi110_5 hl110_5
         replace p110 := eq_true p110
         replace q110 := eq_true q110
         go_wp2_with (first | ((with_reducible refine gate_callee (f := 30) rfl ?_); refine goesL_ (some 19) rfl rfl Tryd.func30 (by kernel_rfl) rfl #[.agg #[.string ((rd_T36 l0 x3_1).f0), .int .i64 ((rd_T36 l0 x3_1).f1), .bool ((rd_T36 l0 x3_1).f2), .int .i64 ((rd_T36 l0 x3_1).f3), .string ((rd_T36 l0 x3_1).f4), .slice A110_5 ((rd_T36 l0 x3_1).f5).length c110_5]] rfl (by (try simp only [List.map_toArray, List.map_cons, List.map_nil]); first | done | rfl | (simp only [List.length_drop, List.length_take]; rfl)) ?_; (with_reducible refine (cleatref21_Sec.calls kj1 ((rd_T36 l0 x3_1).f0) ((rd_T36 l0 x3_1).f1) ((rd_T36 l0 x3_1).f2) ((rd_T36 l0 x3_1).f3) ((rd_T36 l0 x3_1).f4) _ _ ((rd_T36 l0 x3_1).f5) t111 t112 t113 t114 t115 t116 _ ?side1 ?side2 A7.out).mono ?_); (case side1 => repeat (first | exact (Kd.C_below HR110_5.out HB.out) | (with_reducible refine Kd.C_alloc ?_ _) | (with_reducible refine Kd.C_drewN ?_ _) | (with_reducible refine Kd.C_drew ?_))); (case side2 => exact HC110_5.out); rintro e w13 ⟨v117, rfl, ho0, hb⟩; refine ⟨_, rfl, ?_⟩; have n0_ := Azz.mk (Kd.R_lower ho0 (bZZ (by with_reducible repeat first | exact HB.out | apply bAA | apply bNN | apply bDD))); have n1_ := Azz.mk (bTT (by with_reducible repeat first | exact HB.out | apply bAA | apply bNN | apply bDD) hb); clear HB; have HO118 := n0_; have HB := n1_; clear n0_ n1_; (try clear hb); (try clear hb2); (try clear hk); (try clear hi); (try clear ho0); obtain ⟨Ao14, co14, eo14⟩ := Kd.R_slice HO118.out; subst eo14) | ((with_reducible refine gate_callee (f := 29) rfl ?_); refine goesL_ (some 20) rfl rfl Tryd.func29 (by kernel_rfl) rfl #[.agg #[.string t111, .int .i64 t112, .bool t113, .int .i64 t114, .string t115, .slice Ao14 t116.length co14]] rfl (by (try simp only [List.map_toArray, List.map_cons, List.map_nil]); first | done | rfl | (simp only [List.length_drop, List.length_take]; rfl)) ?_; (with_reducible refine (cleatref16_Big.calls t111 t112 t113 t114 t115 _ _ t116 false _ ?side1 ?side2 A8.out).mono ?_); (case side1 => repeat (first | exact (Kd.R_reads' HO118.out).2.2 | (with_reducible refine Kd.C_alloc ?_ _) | (with_reducible refine Kd.C_drewN ?_ _) | (with_reducible refine Kd.C_drew ?_))); (case side2 => exact (Kd.R_reads' HO118.out).2.1); rintro e w15 ⟨rfl, hb⟩; refine ⟨_, rfl, ?_⟩; have n0_ := Azz.mk (Kd.R_below (by (with_reducible repeat (first | apply Kd.R_alloc | apply Kd.R_drewN | apply Kd.R_drew)); exact HO118.out) hb); have n1_ := Azz.mk (bTT (by with_reducible repeat first | exact HB.out | apply bAA | apply bNN | apply bDD) hb); clear HO118; clear HB; have HO118 := n0_; have HB := n1_; clear n0_ n1_; (try clear hb); (try clear hb2); (try clear hk); (try clear hi)))
         go_roundg kj1
         case measure => have := HK1.out; have := HJ1.out; omega
         case rel => exact ⟨(wrap64 (x3_1 + 1)), (by first | rfl | (simp; done) | (simp [*]; done)), H', ⟨by have := HK1.out; have := HJ1.out; omega⟩, ⟨by repeat (first | (with_reducible first | exact HB.out | apply bAA | apply bNN | apply bDD) | exact HB.out)⟩⟩
       ·rw [if_neg c6] at H
        exact absurd H (by simp)
      ·rw [if_neg c5] at H
       exact absurd H (by simp)
     ·replace c4 := Bool.eq_false_iff.mpr c4
      subst c4
      rw [if_neg (show ¬ (false = true) by decide)] at H
      by_cases c16 : (l0.length : Int) > 40
      ·rw [if_pos c16] at H
       have c16b0 := decide_eq_true c16
       have c16b1 : decide (40 < l0.length) = true := decide_eq_true (by omega)
       clear c16
       by_cases c17 : (l0.length : Int) ≤ 256
       ·rw [if_pos c17] at H
        have c17b0 := decide_eq_true c17
        have c17b1 : decide (l0.length ≤ 256) = true := decide_eq_true (by omega)
        clear c17
        obtain rfl := Option.some.inj H
        go_wp2
        go_ret
        exact ⟨by first | rfl | (simp [eNN, eSS] <;> rfl) | (simp [*, eNN, eSS] <;> rfl), by repeat (first | (with_reducible first | exact HB.out | apply bAA | apply bNN | apply bDD) | exact HB.out)⟩
       ·rw [if_neg c17] at H
        have c17b0 := decide_eq_false c17
        have c17b1 : decide (l0.length ≤ 256) = false := decide_eq_false (by omega)
        clear c17
        obtain rfl := Option.some.inj H
        go_wp2
        go_ret
        exact ⟨by first | rfl | (simp [eNN, eSS] <;> rfl) | (simp [*, eNN, eSS] <;> rfl), by repeat (first | (with_reducible first | exact HB.out | apply bAA | apply bNN | apply bDD) | exact HB.out)⟩
      ·rw [if_neg c16] at H
       have c16b0 := decide_eq_false c16
       have c16b1 : decide (40 < l0.length) = false := decide_eq_false (by omega)
       clear c16
       obtain rfl := Option.some.inj H
       go_wp2
       go_ret
       exact ⟨by first | rfl | (simp [eNN, eSS] <;> rfl) | (simp [*, eNN, eSS] <;> rfl), by repeat (first | (with_reducible first | exact HB.out | apply bAA | apply bNN | apply bDD) | exact HB.out)⟩
end Go.Proofs.YtngmipfodjgmmaaDoor.P
