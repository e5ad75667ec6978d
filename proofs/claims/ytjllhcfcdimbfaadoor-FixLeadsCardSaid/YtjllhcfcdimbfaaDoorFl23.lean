/- The walks and the plain laws of this claim, a part: what each function of the program computes. -/
import Derived.Test.YtjllhcfcdimbfaaDoorFl22
namespace Go.Proofs.YtjllhcfcdimbfaaDoor.P
open Go.RowKit Go.Proofs.YtjllhcfcdimbfaaDoorW.PrintWords Go.Proofs.YtjllhcfcdimbfaaDoorW.PrintLast Go.Proofs.YtjllhcfcdimbfaaDoorW.PrintMore
attribute [local go_sem] max2_int min2_int max_two min_two max_three min_three max_four min_four   -- for this text's walks alone
set_option linter.unusedVariables false
set_option linter.unusedSimpArgs false
def fix_whole.f (a0 : Int) (a1 : Int) : Option (Int) := some (wrap64 (a1))
set_option maxHeartbeats 8000000 in
set_option maxRecDepth 100000 in
theorem fix_whole.calls (a0 : Int) (a1 : Int) (r : Int) (w : World) (h : fix_whole.f a0 a1 = some r) :
    Calls Tryd.prog 36 #[.int .u64 a0, .int .u64 a1] w fun e w' => e = .returned (.int .i64 r) ∧ Drawn0 w w' := by
  have H : (some (wrap64 (a1))) = some r := h
  clear h
  obtain rfl := Option.some.inj H
  go_enter Tryd.func36, Tryd.ntmps36
  go_wp2
  go_ret
  exact ⟨by first | rfl | (simp; done) | (simp [*]; done), by repeat (first | exact Drawn0.refl _ | apply Drawn0.step)⟩
def place_Far.f (a0 : Int) (a1 : Int) : Option (Int) := some (wrap64 (IntKind.u64.wrap (a1 - a0)))
set_option maxHeartbeats 8000000 in
set_option maxRecDepth 100000 in
theorem place_Far.calls (a0 : Int) (a1 : Int) (r : Int) (w : World) (h : place_Far.f a0 a1 = some r) :
    Calls Tryd.prog 37 #[.int .u64 a0, .int .u64 a1] w fun e w' => e = .returned (.int .i64 r) ∧ Drawn0 w w' := by
  have H : (some (wrap64 (IntKind.u64.wrap (a1 - a0)))) = some r := h
  clear h
  obtain rfl := Option.some.inj H
  go_enter Tryd.func37, Tryd.ntmps37
  go_wp2
  go_ret
  exact ⟨by first | rfl | (simp; done) | (simp [*]; done), by repeat (first | exact Drawn0.refl _ | apply Drawn0.step)⟩
def fix_pages.f (a0 : Int) (a1 : Int) : Option (Int) := (place_Far.f (IntKind.u64.wrap (a0 - (Int.tmod a0 4096))) (IntKind.u64.wrap (a1 - (Int.tmod a1 4096)))).bind fun t101 => (some (wrap64 (Int.tdiv t101 4096)))
set_option maxHeartbeats 8000000 in
set_option maxRecDepth 100000 in
theorem fix_pages.calls (a0 : Int) (a1 : Int) (r : Int) (w : World) (h : fix_pages.f a0 a1 = some r) :
    Calls Tryd.prog 38 #[.int .u64 a0, .int .u64 a1] w fun e w' => e = .returned (.int .i64 r) ∧ Drawn0 w w' := by
  have H : ((place_Far.f (IntKind.u64.wrap (a0 - (Int.tmod a0 4096))) (IntKind.u64.wrap (a1 - (Int.tmod a1 4096)))).bind fun t101 => (some (wrap64 (Int.tdiv t101 4096)))) = some r := h
  clear h
  replace H := Option.bind_eq_some_iff.mp H
  obtain ⟨t101, A30, H⟩ := H
  replace H : (some (wrap64 (Int.tdiv t101 4096))) = some r := H
  have A3 := Aside0.mk A30
  clear A30
  obtain rfl := Option.some.inj H
  go_enter Tryd.func38, Tryd.ntmps38
  go_wp2_with (first | ((with_reducible refine gate_callee (f := 37) rfl ?_); refine goesL_ (some 13) rfl rfl Tryd.func37 (by kernel_rfl) rfl #[.int .u64 (IntKind.u64.wrap (a0 - (Int.tmod a0 4096))), .int .u64 (IntKind.u64.wrap (a1 - (Int.tmod a1 4096)))] rfl (by (try simp only [List.map_toArray, List.map_cons, List.map_nil]); first | done | rfl | (simp only [List.length_drop, List.length_take]; rfl)) ?_; (with_reducible refine (place_Far.calls (IntKind.u64.wrap (a0 - (Int.tmod a0 4096))) (IntKind.u64.wrap (a1 - (Int.tmod a1 4096))) t101 _ A3.out).mono ?_); rintro e w' ⟨rfl, ⟨nd, rfl⟩⟩; refine ⟨_, rfl, ?_⟩))
  go_ret
  exact ⟨by first | rfl | (simp; done) | (simp [*]; done), by repeat (first | exact Drawn0.refl _ | apply Drawn0.step)⟩
def fix_low.f (a0 : Int) (a1 : Int) : Option (Int) := some (wrap64 (Int.tmod a1 4096))
set_option maxHeartbeats 8000000 in
set_option maxRecDepth 100000 in
theorem fix_low.calls (a0 : Int) (a1 : Int) (r : Int) (w : World) (h : fix_low.f a0 a1 = some r) :
    Calls Tryd.prog 39 #[.int .u64 a0, .int .u64 a1] w fun e w' => e = .returned (.int .i64 r) ∧ Drawn0 w w' := by
  have H : (some (wrap64 (Int.tmod a1 4096))) = some r := h
  clear h
  obtain rfl := Option.some.inj H
  go_enter Tryd.func39, Tryd.ntmps39
  go_wp2
  go_ret
  exact ⟨by first | rfl | (simp; done) | (simp [*]; done), by repeat (first | exact Drawn0.refl _ | apply Drawn0.step)⟩
theorem exec_store_new {P : Program} {a : Act} {o : Oper} {w : World} {t : TypeId} {p : Tmp} {v : Operand} {c c' : Array Value} (ho : o.op = .store t (.tmp p) v) (hx : a.eval (.tmp p) = .pointer (some ⟨w.heap.size, 0, none⟩)) (hy : a.eval v = .agg c')
    (hi : (P.info? t).map (·.size) = some c'.size) (hc : c.size = c'.size) (h1 : c'.all (·.oneCell') = true) : (execOp a.eval o).run P (w.alloc (.cells c t)) = .ok .skip (w.alloc (.cells c' t)) := by
  unfold execOp
  simp only [ho, hx, hy, Instr.storeAt, Instr.sureAddr, Sem.run_bind, Sem.run_pure, Result.andThen_ok, run_storeVar_new w t c c' hi hc h1]
theorem blk_here {W : World} {o : Obj} {n : Nat} (h : n = W.heap.size) : (W.alloc o).heap[n]? = some o := h ▸ blk_new W o
def ruleZero : Array Value := #[Value.nilFunc, Value.int .i64 0, Value.int .i64 0, Value.int .i64 0, Value.nilFunc, Value.int .i64 0, Value.int .i64 0, Value.int .i64 0, Value.nilFunc, Value.int .i64 0, Value.int .i64 0, Value.int .i64 0, Value.nilFunc, Value.int .i64 0, Value.int .i64 0, Value.int .i64 0, Value.nilFunc, Value.int .i64 0, Value.int .i64 0, Value.int .i64 0, Value.nilFunc, Value.int .i64 0, Value.int .i64 0, Value.int .i64 0, Value.nilFunc, Value.int .i64 0, Value.int .i64 0, Value.int .i64 0, Value.nilFunc, Value.int .i64 0, Value.int .i64 0, Value.int .i64 0, Value.nilFunc, Value.int .i64 0, Value.int .i64 0, Value.int .i64 0]
def ruleCells : Array Value := #[Value.func (.func 36) #[] #[], Value.int .i64 1, Value.int .i64 (-9223372036854775808), Value.int .i64 9223372036854775807, Value.func (.func 37) #[] #[], Value.int .i64 4, Value.int .i64 (-134217728), Value.int .i64 134217724, Value.func (.func 37) #[] #[], Value.int .i64 4, Value.int .i64 (-1048576), Value.int .i64 1048572, Value.func (.func 37) #[] #[], Value.int .i64 4, Value.int .i64 (-1048576), Value.int .i64 1048572, Value.func (.func 37) #[] #[], Value.int .i64 1, Value.int .i64 (-1048576), Value.int .i64 1048575, Value.func (.func 38) #[] #[], Value.int .i64 1, Value.int .i64 (-1048576), Value.int .i64 1048575, Value.func (.func 39) #[] #[], Value.int .i64 1, Value.int .i64 0, Value.int .i64 4095, Value.func (.func 39) #[] #[], Value.int .i64 8, Value.int .i64 0, Value.int .i64 4095, Value.func (.func 39) #[] #[], Value.int .i64 1, Value.int .i64 0, Value.int .i64 4095]
def RuleMade (w w2 : World) : Prop := w2 = (w.alloc (.cells #[Value.nilFunc, Value.int .i64 0, Value.int .i64 0, Value.int .i64 0] 45)).alloc (.cells ruleCells 62)
def ruleRow (k : Int) : Array Value := if k = 1 then #[Value.func (.func 36) #[] #[], Value.int .i64 1, Value.int .i64 (-9223372036854775808), Value.int .i64 9223372036854775807] else if k = 2 then #[Value.func (.func 37) #[] #[], Value.int .i64 4, Value.int .i64 (-134217728), Value.int .i64 134217724] else if k = 3 then #[Value.func (.func 37) #[] #[], Value.int .i64 4, Value.int .i64 (-1048576), Value.int .i64 1048572] else if k = 4 then #[Value.func (.func 37) #[] #[], Value.int .i64 4, Value.int .i64 (-1048576), Value.int .i64 1048572] else if k = 5 then #[Value.func (.func 37) #[] #[], Value.int .i64 1, Value.int .i64 (-1048576), Value.int .i64 1048575] else if k = 6 then #[Value.func (.func 38) #[] #[], Value.int .i64 1, Value.int .i64 (-1048576), Value.int .i64 1048575] else if k = 7 then #[Value.func (.func 39) #[] #[], Value.int .i64 1, Value.int .i64 0, Value.int .i64 4095] else if k = 8 then #[Value.func (.func 39) #[] #[], Value.int .i64 8, Value.int .i64 0, Value.int .i64 4095] else if k = 9 then #[Value.func (.func 39) #[] #[], Value.int .i64 1, Value.int .i64 0, Value.int .i64 4095] else #[]
set_option maxHeartbeats 3200000 in
set_option maxRecDepth 100000 in
theorem fix_ruleOf.yes (a0 : Int) (h0 : 1 ≤ a0) (h1 : a0 ≤ 9) (w : World) : Calls Tryd.prog 19 #[.int .i64 a0] w fun e w' => e = .returned (.tuple #[.agg (ruleRow a0), .bool true]) ∧ Below w.heap.size w w' := by
  have b1 : decide (a0 < 1) = false := decide_eq_false (by omega)
  have b2 : decide (9 < a0) = false := decide_eq_false (by omega)
  go_enter Tryd.func19, Tryd.ntmps19
  go_upto_region 3 with fail
  go_cut [4] (fun s4 wx => s4 = .pointer (some ⟨w.heap.size + 1, 0, none⟩) ∧ RuleMade w wx)
  case first =>
    go_wp2_with (first | ((with_reducible refine gate_store (t := 62) (p := 4) rfl ?_); refine store_event (t := 62) (p := 4) (v := .tmp 21) (w1 := (w.alloc (.cells #[Value.nilFunc, Value.int .i64 0, Value.int .i64 0, Value.int .i64 0] 45)).alloc (.cells ruleCells 62)) ?hg ?ho ?hn ?hr ?_; (case ho => rfl); (case hg => rfl); (case hn => rfl); (case hr => exact exec_store_new (c := ruleZero) rfl (by simp [Act.eval]) rfl (by kernel_rfl) rfl (by kernel_rfl)); intro w2 hw2))
    go_meet
    exact ⟨rfl, hw2⟩
  case rest =>
    obtain ⟨rfl, hw2⟩ := hcut
    obtain ⟨w2, rfl⟩ : ∃ w2 : World, w2 = wc := ⟨_, rfl⟩
    unfold RuleMade at hw2
    have hd0 : w2.cell? ⟨w.heap.size, 0, none⟩ = some (Value.nilFunc) := by rw [hw2]; exact (blk_cell (blk_alloc (blk_here rfl) _) 0).trans rfl
    have hf0 : w2.frozen? ⟨w.heap.size, 0, none⟩ = false := by rw [hw2]; exact blk_frozen (blk_alloc (blk_here rfl) _) 0
    have hd1 : w2.cell? ⟨w.heap.size, 1, none⟩ = some (Value.int .i64 0) := by rw [hw2]; exact (blk_cell (blk_alloc (blk_here rfl) _) 1).trans rfl
    have hf1 : w2.frozen? ⟨w.heap.size, 1, none⟩ = false := by rw [hw2]; exact blk_frozen (blk_alloc (blk_here rfl) _) 1
    have hd2 : w2.cell? ⟨w.heap.size, 2, none⟩ = some (Value.int .i64 0) := by rw [hw2]; exact (blk_cell (blk_alloc (blk_here rfl) _) 2).trans rfl
    have hf2 : w2.frozen? ⟨w.heap.size, 2, none⟩ = false := by rw [hw2]; exact blk_frozen (blk_alloc (blk_here rfl) _) 2
    have hd3 : w2.cell? ⟨w.heap.size, 3, none⟩ = some (Value.int .i64 0) := by rw [hw2]; exact (blk_cell (blk_alloc (blk_here rfl) _) 3).trans rfl
    have hf3 : w2.frozen? ⟨w.heap.size, 3, none⟩ = false := by rw [hw2]; exact blk_frozen (blk_alloc (blk_here rfl) _) 3
    have hcs : ∀ j, w2.cell? ⟨w.heap.size + 1, j, none⟩ = ruleCells[j]? := fun j => by rw [hw2]; exact blk_cell (blk_here (by simp)) j
    have HB : Aside0 (Below w.heap.size w w2) := ⟨by rw [hw2]; exact below_alloc (below_alloc (Below.refl _ _) _) _⟩
    have HBi : Aside0 (w2.heap[w.heap.size]? = some (.cells #[Value.nilFunc, Value.int .i64 0, Value.int .i64 0, Value.int .i64 0] 45 (0, 0))) := ⟨by rw [hw2]; exact blk_alloc (blk_here rfl) _⟩
    have HC := Aside0.mk hcs
    clear hw2 hcs b1 b2
    rcases (show a0 = 1 ∨ a0 = 2 ∨ a0 = 3 ∨ a0 = 4 ∨ a0 = 5 ∨ a0 = 6 ∨ a0 = 7 ∨ a0 = 8 ∨ a0 = 9 by omega) with rfl | rfl | rfl | rfl | rfl | rfl | rfl | rfl | rfl
    · have hc0 : w2.cell? ⟨w.heap.size + 1, 0, none⟩ = some (Value.func (.func 36) #[] #[]) := HC.out 0
      have hc1 : w2.cell? ⟨w.heap.size + 1, 1, none⟩ = some (Value.int .i64 1) := HC.out 1
      have hc2 : w2.cell? ⟨w.heap.size + 1, 2, none⟩ = some (Value.int .i64 (-9223372036854775808)) := HC.out 2
      have hc3 : w2.cell? ⟨w.heap.size + 1, 3, none⟩ = some (Value.int .i64 9223372036854775807) := HC.out 3
      go_wp2
      refine bodyPost_ret (results_ct rfl _ _ w.heap.size 45 #[Value.func (.func 36) #[] #[], Value.int .i64 1, Value.int .i64 (-9223372036854775808), Value.int .i64 9223372036854775807] (0, 0) _ rfl ?blk Tryd.underlying45 rfl (by kernel_rfl)) rfl ⟨rfl, ?bel⟩
      case bel => repeat (first | (with_reducible exact HB.out) | (with_reducible refine below_set ?_ (Nat.le_refl _)))
      case blk =>
        refine blk_put (cs := #[Value.func (.func 36) #[] #[], Value.int .i64 1, Value.int .i64 (-9223372036854775808), Value.int .i64 0]) ?_ 3 _ rfl
        refine blk_put (cs := #[Value.func (.func 36) #[] #[], Value.int .i64 1, Value.int .i64 0, Value.int .i64 0]) ?_ 2 _ rfl
        refine blk_put (cs := #[Value.func (.func 36) #[] #[], Value.int .i64 0, Value.int .i64 0, Value.int .i64 0]) ?_ 1 _ rfl
        refine blk_put (cs := #[Value.nilFunc, Value.int .i64 0, Value.int .i64 0, Value.int .i64 0]) ?_ 0 _ rfl
        exact HBi.out
    · have hc0 : w2.cell? ⟨w.heap.size + 1, 4, none⟩ = some (Value.func (.func 37) #[] #[]) := HC.out 4
      have hc1 : w2.cell? ⟨w.heap.size + 1, 5, none⟩ = some (Value.int .i64 4) := HC.out 5
      have hc2 : w2.cell? ⟨w.heap.size + 1, 6, none⟩ = some (Value.int .i64 (-134217728)) := HC.out 6
      have hc3 : w2.cell? ⟨w.heap.size + 1, 7, none⟩ = some (Value.int .i64 134217724) := HC.out 7
      go_wp2
      refine bodyPost_ret (results_ct rfl _ _ w.heap.size 45 #[Value.func (.func 37) #[] #[], Value.int .i64 4, Value.int .i64 (-134217728), Value.int .i64 134217724] (0, 0) _ rfl ?blk Tryd.underlying45 rfl (by kernel_rfl)) rfl ⟨rfl, ?bel⟩
      case bel => repeat (first | (with_reducible exact HB.out) | (with_reducible refine below_set ?_ (Nat.le_refl _)))
      case blk =>
        refine blk_put (cs := #[Value.func (.func 37) #[] #[], Value.int .i64 4, Value.int .i64 (-134217728), Value.int .i64 0]) ?_ 3 _ rfl
        refine blk_put (cs := #[Value.func (.func 37) #[] #[], Value.int .i64 4, Value.int .i64 0, Value.int .i64 0]) ?_ 2 _ rfl
        refine blk_put (cs := #[Value.func (.func 37) #[] #[], Value.int .i64 0, Value.int .i64 0, Value.int .i64 0]) ?_ 1 _ rfl
        refine blk_put (cs := #[Value.nilFunc, Value.int .i64 0, Value.int .i64 0, Value.int .i64 0]) ?_ 0 _ rfl
        exact HBi.out
    · have hc0 : w2.cell? ⟨w.heap.size + 1, 8, none⟩ = some (Value.func (.func 37) #[] #[]) := HC.out 8
      have hc1 : w2.cell? ⟨w.heap.size + 1, 9, none⟩ = some (Value.int .i64 4) := HC.out 9
      have hc2 : w2.cell? ⟨w.heap.size + 1, 10, none⟩ = some (Value.int .i64 (-1048576)) := HC.out 10
      have hc3 : w2.cell? ⟨w.heap.size + 1, 11, none⟩ = some (Value.int .i64 1048572) := HC.out 11
      go_wp2
      refine bodyPost_ret (results_ct rfl _ _ w.heap.size 45 #[Value.func (.func 37) #[] #[], Value.int .i64 4, Value.int .i64 (-1048576), Value.int .i64 1048572] (0, 0) _ rfl ?blk Tryd.underlying45 rfl (by kernel_rfl)) rfl ⟨rfl, ?bel⟩
      case bel => repeat (first | (with_reducible exact HB.out) | (with_reducible refine below_set ?_ (Nat.le_refl _)))
      case blk =>
        refine blk_put (cs := #[Value.func (.func 37) #[] #[], Value.int .i64 4, Value.int .i64 (-1048576), Value.int .i64 0]) ?_ 3 _ rfl
        refine blk_put (cs := #[Value.func (.func 37) #[] #[], Value.int .i64 4, Value.int .i64 0, Value.int .i64 0]) ?_ 2 _ rfl
        refine blk_put (cs := #[Value.func (.func 37) #[] #[], Value.int .i64 0, Value.int .i64 0, Value.int .i64 0]) ?_ 1 _ rfl
        refine blk_put (cs := #[Value.nilFunc, Value.int .i64 0, Value.int .i64 0, Value.int .i64 0]) ?_ 0 _ rfl
        exact HBi.out
    · have hc0 : w2.cell? ⟨w.heap.size + 1, 12, none⟩ = some (Value.func (.func 37) #[] #[]) := HC.out 12
      have hc1 : w2.cell? ⟨w.heap.size + 1, 13, none⟩ = some (Value.int .i64 4) := HC.out 13
      have hc2 : w2.cell? ⟨w.heap.size + 1, 14, none⟩ = some (Value.int .i64 (-1048576)) := HC.out 14
      have hc3 : w2.cell? ⟨w.heap.size + 1, 15, none⟩ = some (Value.int .i64 1048572) := HC.out 15
      go_wp2
      refine bodyPost_ret (results_ct rfl _ _ w.heap.size 45 #[Value.func (.func 37) #[] #[], Value.int .i64 4, Value.int .i64 (-1048576), Value.int .i64 1048572] (0, 0) _ rfl ?blk Tryd.underlying45 rfl (by kernel_rfl)) rfl ⟨rfl, ?bel⟩
      case bel => repeat (first | (with_reducible exact HB.out) | (with_reducible refine below_set ?_ (Nat.le_refl _)))
      case blk =>
        refine blk_put (cs := #[Value.func (.func 37) #[] #[], Value.int .i64 4, Value.int .i64 (-1048576), Value.int .i64 0]) ?_ 3 _ rfl
        refine blk_put (cs := #[Value.func (.func 37) #[] #[], Value.int .i64 4, Value.int .i64 0, Value.int .i64 0]) ?_ 2 _ rfl
        refine blk_put (cs := #[Value.func (.func 37) #[] #[], Value.int .i64 0, Value.int .i64 0, Value.int .i64 0]) ?_ 1 _ rfl
        refine blk_put (cs := #[Value.nilFunc, Value.int .i64 0, Value.int .i64 0, Value.int .i64 0]) ?_ 0 _ rfl
        exact HBi.out
    · have hc0 : w2.cell? ⟨w.heap.size + 1, 16, none⟩ = some (Value.func (.func 37) #[] #[]) := HC.out 16
      have hc1 : w2.cell? ⟨w.heap.size + 1, 17, none⟩ = some (Value.int .i64 1) := HC.out 17
      have hc2 : w2.cell? ⟨w.heap.size + 1, 18, none⟩ = some (Value.int .i64 (-1048576)) := HC.out 18
      have hc3 : w2.cell? ⟨w.heap.size + 1, 19, none⟩ = some (Value.int .i64 1048575) := HC.out 19
      go_wp2
      refine bodyPost_ret (results_ct rfl _ _ w.heap.size 45 #[Value.func (.func 37) #[] #[], Value.int .i64 1, Value.int .i64 (-1048576), Value.int .i64 1048575] (0, 0) _ rfl ?blk Tryd.underlying45 rfl (by kernel_rfl)) rfl ⟨rfl, ?bel⟩
      case bel => repeat (first | (with_reducible exact HB.out) | (with_reducible refine below_set ?_ (Nat.le_refl _)))
      case blk =>
        refine blk_put (cs := #[Value.func (.func 37) #[] #[], Value.int .i64 1, Value.int .i64 (-1048576), Value.int .i64 0]) ?_ 3 _ rfl
        refine blk_put (cs := #[Value.func (.func 37) #[] #[], Value.int .i64 1, Value.int .i64 0, Value.int .i64 0]) ?_ 2 _ rfl
        refine blk_put (cs := #[Value.func (.func 37) #[] #[], Value.int .i64 0, Value.int .i64 0, Value.int .i64 0]) ?_ 1 _ rfl
        refine blk_put (cs := #[Value.nilFunc, Value.int .i64 0, Value.int .i64 0, Value.int .i64 0]) ?_ 0 _ rfl
        exact HBi.out
    · have hc0 : w2.cell? ⟨w.heap.size + 1, 20, none⟩ = some (Value.func (.func 38) #[] #[]) := HC.out 20
      have hc1 : w2.cell? ⟨w.heap.size + 1, 21, none⟩ = some (Value.int .i64 1) := HC.out 21
      have hc2 : w2.cell? ⟨w.heap.size + 1, 22, none⟩ = some (Value.int .i64 (-1048576)) := HC.out 22
      have hc3 : w2.cell? ⟨w.heap.size + 1, 23, none⟩ = some (Value.int .i64 1048575) := HC.out 23
      go_wp2
      refine bodyPost_ret (results_ct rfl _ _ w.heap.size 45 #[Value.func (.func 38) #[] #[], Value.int .i64 1, Value.int .i64 (-1048576), Value.int .i64 1048575] (0, 0) _ rfl ?blk Tryd.underlying45 rfl (by kernel_rfl)) rfl ⟨rfl, ?bel⟩
      case bel => repeat (first | (with_reducible exact HB.out) | (with_reducible refine below_set ?_ (Nat.le_refl _)))
      case blk =>
        refine blk_put (cs := #[Value.func (.func 38) #[] #[], Value.int .i64 1, Value.int .i64 (-1048576), Value.int .i64 0]) ?_ 3 _ rfl
        refine blk_put (cs := #[Value.func (.func 38) #[] #[], Value.int .i64 1, Value.int .i64 0, Value.int .i64 0]) ?_ 2 _ rfl
        refine blk_put (cs := #[Value.func (.func 38) #[] #[], Value.int .i64 0, Value.int .i64 0, Value.int .i64 0]) ?_ 1 _ rfl
        refine blk_put (cs := #[Value.nilFunc, Value.int .i64 0, Value.int .i64 0, Value.int .i64 0]) ?_ 0 _ rfl
        exact HBi.out
    · have hc0 : w2.cell? ⟨w.heap.size + 1, 24, none⟩ = some (Value.func (.func 39) #[] #[]) := HC.out 24
      have hc1 : w2.cell? ⟨w.heap.size + 1, 25, none⟩ = some (Value.int .i64 1) := HC.out 25
      have hc2 : w2.cell? ⟨w.heap.size + 1, 26, none⟩ = some (Value.int .i64 0) := HC.out 26
      have hc3 : w2.cell? ⟨w.heap.size + 1, 27, none⟩ = some (Value.int .i64 4095) := HC.out 27
      go_wp2
      refine bodyPost_ret (results_ct rfl _ _ w.heap.size 45 #[Value.func (.func 39) #[] #[], Value.int .i64 1, Value.int .i64 0, Value.int .i64 4095] (0, 0) _ rfl ?blk Tryd.underlying45 rfl (by kernel_rfl)) rfl ⟨rfl, ?bel⟩
      case bel => repeat (first | (with_reducible exact HB.out) | (with_reducible refine below_set ?_ (Nat.le_refl _)))
      case blk =>
        refine blk_put (cs := #[Value.func (.func 39) #[] #[], Value.int .i64 1, Value.int .i64 0, Value.int .i64 0]) ?_ 3 _ rfl
        refine blk_put (cs := #[Value.func (.func 39) #[] #[], Value.int .i64 1, Value.int .i64 0, Value.int .i64 0]) ?_ 2 _ rfl
        refine blk_put (cs := #[Value.func (.func 39) #[] #[], Value.int .i64 0, Value.int .i64 0, Value.int .i64 0]) ?_ 1 _ rfl
        refine blk_put (cs := #[Value.nilFunc, Value.int .i64 0, Value.int .i64 0, Value.int .i64 0]) ?_ 0 _ rfl
        exact HBi.out
    · have hc0 : w2.cell? ⟨w.heap.size + 1, 28, none⟩ = some (Value.func (.func 39) #[] #[]) := HC.out 28
      have hc1 : w2.cell? ⟨w.heap.size + 1, 29, none⟩ = some (Value.int .i64 8) := HC.out 29
      have hc2 : w2.cell? ⟨w.heap.size + 1, 30, none⟩ = some (Value.int .i64 0) := HC.out 30
      have hc3 : w2.cell? ⟨w.heap.size + 1, 31, none⟩ = some (Value.int .i64 4095) := HC.out 31
      go_wp2
      refine bodyPost_ret (results_ct rfl _ _ w.heap.size 45 #[Value.func (.func 39) #[] #[], Value.int .i64 8, Value.int .i64 0, Value.int .i64 4095] (0, 0) _ rfl ?blk Tryd.underlying45 rfl (by kernel_rfl)) rfl ⟨rfl, ?bel⟩
      case bel => repeat (first | (with_reducible exact HB.out) | (with_reducible refine below_set ?_ (Nat.le_refl _)))
      case blk =>
        refine blk_put (cs := #[Value.func (.func 39) #[] #[], Value.int .i64 8, Value.int .i64 0, Value.int .i64 0]) ?_ 3 _ rfl
        refine blk_put (cs := #[Value.func (.func 39) #[] #[], Value.int .i64 8, Value.int .i64 0, Value.int .i64 0]) ?_ 2 _ rfl
        refine blk_put (cs := #[Value.func (.func 39) #[] #[], Value.int .i64 0, Value.int .i64 0, Value.int .i64 0]) ?_ 1 _ rfl
        refine blk_put (cs := #[Value.nilFunc, Value.int .i64 0, Value.int .i64 0, Value.int .i64 0]) ?_ 0 _ rfl
        exact HBi.out
    · have hc0 : w2.cell? ⟨w.heap.size + 1, 32, none⟩ = some (Value.func (.func 39) #[] #[]) := HC.out 32
      have hc1 : w2.cell? ⟨w.heap.size + 1, 33, none⟩ = some (Value.int .i64 1) := HC.out 33
      have hc2 : w2.cell? ⟨w.heap.size + 1, 34, none⟩ = some (Value.int .i64 0) := HC.out 34
      have hc3 : w2.cell? ⟨w.heap.size + 1, 35, none⟩ = some (Value.int .i64 4095) := HC.out 35
      go_wp2
      refine bodyPost_ret (results_ct rfl _ _ w.heap.size 45 #[Value.func (.func 39) #[] #[], Value.int .i64 1, Value.int .i64 0, Value.int .i64 4095] (0, 0) _ rfl ?blk Tryd.underlying45 rfl (by kernel_rfl)) rfl ⟨rfl, ?bel⟩
      case bel => repeat (first | (with_reducible exact HB.out) | (with_reducible refine below_set ?_ (Nat.le_refl _)))
      case blk =>
        refine blk_put (cs := #[Value.func (.func 39) #[] #[], Value.int .i64 1, Value.int .i64 0, Value.int .i64 0]) ?_ 3 _ rfl
        refine blk_put (cs := #[Value.func (.func 39) #[] #[], Value.int .i64 1, Value.int .i64 0, Value.int .i64 0]) ?_ 2 _ rfl
        refine blk_put (cs := #[Value.func (.func 39) #[] #[], Value.int .i64 0, Value.int .i64 0, Value.int .i64 0]) ?_ 1 _ rfl
        refine blk_put (cs := #[Value.nilFunc, Value.int .i64 0, Value.int .i64 0, Value.int .i64 0]) ?_ 0 _ rfl
        exact HBi.out
theorem fix_ruleOf.no (a0 : Int) (h0 : a0 < 1 ∨ 9 < a0) (w : World) : Calls Tryd.prog 19 #[.int .i64 a0] w fun e w' => e = .returned (.tuple #[.agg #[Value.nilFunc, Value.int .i64 0, Value.int .i64 0, Value.int .i64 0], .bool false]) ∧ Below w.heap.size w w' := by
  by_cases h1 : a0 < 1
  · have b1 : decide (a0 < 1) = true := decide_eq_true h1
    clear h0 h1
    go_enter Tryd.func19, Tryd.ntmps19
    go_wp2
    refine bodyPost_ret (results_ct rfl _ _ w.heap.size 45 #[Value.nilFunc, Value.int .i64 0, Value.int .i64 0, Value.int .i64 0] (0, 0) _ rfl ?blk Tryd.underlying45 rfl (by kernel_rfl)) rfl ⟨rfl, ?bel⟩
    case blk => exact blk_here rfl
    case bel => exact below_alloc (Below.refl _ _) _
  · have b1 : decide (a0 < 1) = false := decide_eq_false h1
    have b2 : decide (9 < a0) = true := decide_eq_true (by omega)
    clear h0 h1
    go_enter Tryd.func19, Tryd.ntmps19
    go_wp2
    refine bodyPost_ret (results_ct rfl _ _ w.heap.size 45 #[Value.nilFunc, Value.int .i64 0, Value.int .i64 0, Value.int .i64 0] (0, 0) _ rfl ?blk Tryd.underlying45 rfl (by kernel_rfl)) rfl ⟨rfl, ?bel⟩
    case blk => exact blk_here rfl
    case bel => exact below_alloc (Below.refl _ _) _
def ruleNum (a0 a1 a2 : Int) : Option Int := if a0 = 1 then fix_whole.f a1 a2 else if a0 = 2 then place_Far.f a1 a2 else if a0 = 3 then place_Far.f a1 a2 else if a0 = 4 then place_Far.f a1 a2 else if a0 = 5 then place_Far.f a1 a2 else if a0 = 6 then fix_pages.f a1 a2 else if a0 = 7 then fix_low.f a1 a2 else if a0 = 8 then fix_low.f a1 a2 else fix_low.f a1 a2
def ruleFn (a0 : Int) : Nat := if a0 = 1 then 36 else if a0 = 2 then 37 else if a0 = 3 then 37 else if a0 = 4 then 37 else if a0 = 5 then 37 else if a0 = 6 then 38 else if a0 = 7 then 39 else if a0 = 8 then 39 else 39
def ruleStep (a0 : Int) : Int := if a0 = 1 then 1 else if a0 = 2 then 4 else if a0 = 3 then 4 else if a0 = 4 then 4 else if a0 = 5 then 1 else if a0 = 6 then 1 else if a0 = 7 then 1 else if a0 = 8 then 8 else 1
def ruleLeast (a0 : Int) : Int := if a0 = 1 then (-9223372036854775808) else if a0 = 2 then (-134217728) else if a0 = 3 then (-1048576) else if a0 = 4 then (-1048576) else if a0 = 5 then (-1048576) else if a0 = 6 then (-1048576) else if a0 = 7 then 0 else if a0 = 8 then 0 else 0
def ruleMost (a0 : Int) : Int := if a0 = 1 then 9223372036854775807 else if a0 = 2 then 134217724 else if a0 = 3 then 1048572 else if a0 = 4 then 1048572 else if a0 = 5 then 1048575 else if a0 = 6 then 1048575 else if a0 = 7 then 4095 else if a0 = 8 then 4095 else 4095
theorem ruleRow_eq (a0 : Int) (h0 : 1 ≤ a0) (h1 : a0 ≤ 9) : ruleRow a0 = #[.func (.func (ruleFn a0)) #[] #[], .int .i64 (ruleStep a0), .int .i64 (ruleLeast a0), .int .i64 (ruleMost a0)] := by
  rcases (show a0 = 1 ∨ a0 = 2 ∨ a0 = 3 ∨ a0 = 4 ∨ a0 = 5 ∨ a0 = 6 ∨ a0 = 7 ∨ a0 = 8 ∨ a0 = 9 by omega) with rfl | rfl | rfl | rfl | rfl | rfl | rfl | rfl | rfl <;> rfl
def fixEnd (v s l m : Int) : Int × Int := if Int.tmod v s = 0 then (if v < l then (0, 4) else if v > m then (0, 4) else (IntKind.u64.wrap v, 0)) else (0, 5)
def fix_Value.f (a0 a1 a2 : Int) : Option (Int × Int) := if a0 < 1 then some (0, 1) else if a0 > 9 then some (0, 1) else (ruleNum a0 a1 a2).bind fun v => some (fixEnd v (ruleStep a0) (ruleLeast a0) (ruleMost a0))
def RuleHas (W wx : World) (g : Nat) (s l m : Int) : Prop := wx.cell? ⟨g, 1, none⟩ = some (.int .i64 s) ∧ wx.cell? ⟨g, 2, none⟩ = some (.int .i64 l) ∧ wx.cell? ⟨g, 3, none⟩ = some (.int .i64 m) ∧ Below W.heap.size W wx
set_option maxHeartbeats 3200000 in
set_option maxRecDepth 100000 in
theorem fix_Value.calls (a0 a1 a2 r1 r2 : Int) (w : World) (h : fix_Value.f a0 a1 a2 = some (r1, r2)) :
    Calls Tryd.prog 7 #[.int .i64 a0, .int .u64 a1, .int .u64 a2] w fun e w' => e = .returned (.tuple #[.int .u64 r1, .int .i64 r2]) ∧ Below w.heap.size w w' := by
  unfold fix_Value.f at h
  by_cases hk : 1 ≤ a0 ∧ a0 ≤ 9
  · obtain ⟨h0, h1⟩ := hk
    rw [if_neg (by omega), if_neg (by omega)] at h
    obtain ⟨v, hv, h⟩ := Option.bind_eq_some_iff.mp h
    have hr := Option.some.inj h
    clear h
    have hs : ruleStep a0 = 1 ∨ ruleStep a0 = 4 ∨ ruleStep a0 = 8 := by unfold ruleStep; (repeat' split) <;> simp
    obtain ⟨s, es⟩ : ∃ s, ruleStep a0 = s := ⟨_, rfl⟩
    obtain ⟨l, el⟩ : ∃ l, ruleLeast a0 = l := ⟨_, rfl⟩
    obtain ⟨m, em⟩ : ∃ m, ruleMost a0 = m := ⟨_, rfl⟩
    rw [es, el, em] at hr
    rw [es] at hs
    have HS := Aside0.mk es
    have HL := Aside0.mk el
    have HM := Aside0.mk em
    have HV := Aside0.mk hv
    have HR := Aside0.mk hr
    clear es el em hv hr
    go_enter Tryd.func7, Tryd.ntmps7
    go_wp2_with fail
    have HY := fix_ruleOf.yes a0 h0 h1
    rw [ruleRow_eq a0 h0 h1] at HY
    obtain ⟨f, ef⟩ : ∃ f, ruleFn a0 = f := ⟨_, rfl⟩
    rw [ef, HS.out, HL.out, HM.out] at HY
    have HF := Aside0.mk ef
    clear ef
    refine (HY _).mono ?_
    clear HY
    rintro e w1 ⟨rfl, hb⟩
    have HB := Aside0.mk hb
    clear hb
    go_upto_region 4 with fail
    go_cut [10] (fun s10 wx => s10 = .int .i64 v ∧ RuleHas w wx w1.heap.size s l m)
    case first =>
      rcases (show a0 = 1 ∨ a0 = 2 ∨ a0 = 3 ∨ a0 = 4 ∨ a0 = 5 ∨ a0 = 6 ∨ a0 = 7 ∨ a0 = 8 ∨ a0 = 9 by omega) with rfl | rfl | rfl | rfl | rfl | rfl | rfl | rfl | rfl
      · obtain rfl : 36 = f := HF.out
        have hv : fix_whole.f a1 a2 = some v := HV.out
        have HA := Aside0.mk (fun W => fix_whole.calls a1 a2 v W hv)
        clear hv
        go_wp2_with (first | (go_at_call 36; (with_reducible refine (HA.out _).mono ?_); rintro e w' ⟨rfl, ⟨nd, rfl⟩⟩))
        go_meet
        exact ⟨rfl, (blk_cell (blk_drewN (blk_here rfl) _) 1).trans rfl, (blk_cell (blk_drewN (blk_here rfl) _) 2).trans rfl, (blk_cell (blk_drewN (blk_here rfl) _) 3).trans rfl, pw_below_drewN (below_alloc HB.out _) _⟩
      · obtain rfl : 37 = f := HF.out
        have hv : place_Far.f a1 a2 = some v := HV.out
        have HA := Aside0.mk (fun W => place_Far.calls a1 a2 v W hv)
        clear hv
        go_wp2_with (first | (go_at_call 37; (with_reducible refine (HA.out _).mono ?_); rintro e w' ⟨rfl, ⟨nd, rfl⟩⟩))
        go_meet
        exact ⟨rfl, (blk_cell (blk_drewN (blk_here rfl) _) 1).trans rfl, (blk_cell (blk_drewN (blk_here rfl) _) 2).trans rfl, (blk_cell (blk_drewN (blk_here rfl) _) 3).trans rfl, pw_below_drewN (below_alloc HB.out _) _⟩
      · obtain rfl : 37 = f := HF.out
        have hv : place_Far.f a1 a2 = some v := HV.out
        have HA := Aside0.mk (fun W => place_Far.calls a1 a2 v W hv)
        clear hv
        go_wp2_with (first | (go_at_call 37; (with_reducible refine (HA.out _).mono ?_); rintro e w' ⟨rfl, ⟨nd, rfl⟩⟩))
        go_meet
        exact ⟨rfl, (blk_cell (blk_drewN (blk_here rfl) _) 1).trans rfl, (blk_cell (blk_drewN (blk_here rfl) _) 2).trans rfl, (blk_cell (blk_drewN (blk_here rfl) _) 3).trans rfl, pw_below_drewN (below_alloc HB.out _) _⟩
      · obtain rfl : 37 = f := HF.out
        have hv : place_Far.f a1 a2 = some v := HV.out
        have HA := Aside0.mk (fun W => place_Far.calls a1 a2 v W hv)
        clear hv
        go_wp2_with (first | (go_at_call 37; (with_reducible refine (HA.out _).mono ?_); rintro e w' ⟨rfl, ⟨nd, rfl⟩⟩))
        go_meet
        exact ⟨rfl, (blk_cell (blk_drewN (blk_here rfl) _) 1).trans rfl, (blk_cell (blk_drewN (blk_here rfl) _) 2).trans rfl, (blk_cell (blk_drewN (blk_here rfl) _) 3).trans rfl, pw_below_drewN (below_alloc HB.out _) _⟩
      · obtain rfl : 37 = f := HF.out
        have hv : place_Far.f a1 a2 = some v := HV.out
        have HA := Aside0.mk (fun W => place_Far.calls a1 a2 v W hv)
        clear hv
        go_wp2_with (first | (go_at_call 37; (with_reducible refine (HA.out _).mono ?_); rintro e w' ⟨rfl, ⟨nd, rfl⟩⟩))
        go_meet
        exact ⟨rfl, (blk_cell (blk_drewN (blk_here rfl) _) 1).trans rfl, (blk_cell (blk_drewN (blk_here rfl) _) 2).trans rfl, (blk_cell (blk_drewN (blk_here rfl) _) 3).trans rfl, pw_below_drewN (below_alloc HB.out _) _⟩
      · obtain rfl : 38 = f := HF.out
        have hv : fix_pages.f a1 a2 = some v := HV.out
        have HA := Aside0.mk (fun W => fix_pages.calls a1 a2 v W hv)
        clear hv
        go_wp2_with (first | (go_at_call 38; (with_reducible refine (HA.out _).mono ?_); rintro e w' ⟨rfl, ⟨nd, rfl⟩⟩))
        go_meet
        exact ⟨rfl, (blk_cell (blk_drewN (blk_here rfl) _) 1).trans rfl, (blk_cell (blk_drewN (blk_here rfl) _) 2).trans rfl, (blk_cell (blk_drewN (blk_here rfl) _) 3).trans rfl, pw_below_drewN (below_alloc HB.out _) _⟩
      · obtain rfl : 39 = f := HF.out
        have hv : fix_low.f a1 a2 = some v := HV.out
        have HA := Aside0.mk (fun W => fix_low.calls a1 a2 v W hv)
        clear hv
        go_wp2_with (first | (go_at_call 39; (with_reducible refine (HA.out _).mono ?_); rintro e w' ⟨rfl, ⟨nd, rfl⟩⟩))
        go_meet
        exact ⟨rfl, (blk_cell (blk_drewN (blk_here rfl) _) 1).trans rfl, (blk_cell (blk_drewN (blk_here rfl) _) 2).trans rfl, (blk_cell (blk_drewN (blk_here rfl) _) 3).trans rfl, pw_below_drewN (below_alloc HB.out _) _⟩
      · obtain rfl : 39 = f := HF.out
        have hv : fix_low.f a1 a2 = some v := HV.out
        have HA := Aside0.mk (fun W => fix_low.calls a1 a2 v W hv)
        clear hv
        go_wp2_with (first | (go_at_call 39; (with_reducible refine (HA.out _).mono ?_); rintro e w' ⟨rfl, ⟨nd, rfl⟩⟩))
        go_meet
        exact ⟨rfl, (blk_cell (blk_drewN (blk_here rfl) _) 1).trans rfl, (blk_cell (blk_drewN (blk_here rfl) _) 2).trans rfl, (blk_cell (blk_drewN (blk_here rfl) _) 3).trans rfl, pw_below_drewN (below_alloc HB.out _) _⟩
      · obtain rfl : 39 = f := HF.out
        have hv : fix_low.f a1 a2 = some v := HV.out
        have HA := Aside0.mk (fun W => fix_low.calls a1 a2 v W hv)
        clear hv
        go_wp2_with (first | (go_at_call 39; (with_reducible refine (HA.out _).mono ?_); rintro e w' ⟨rfl, ⟨nd, rfl⟩⟩))
        go_meet
        exact ⟨rfl, (blk_cell (blk_drewN (blk_here rfl) _) 1).trans rfl, (blk_cell (blk_drewN (blk_here rfl) _) 2).trans rfl, (blk_cell (blk_drewN (blk_here rfl) _) 3).trans rfl, pw_below_drewN (below_alloc HB.out _) _⟩
    case rest =>
      obtain ⟨rfl, hs1, hs2, hs3, hB⟩ := hcut
      have HB2 := Aside0.mk hB
      have hr := HR.out
      clear hB HR HB HF HV HS HL HM h
      unfold fixEnd at hr
      have z1 : (s == 0) = false := beq_eq_false_iff_ne.mpr (by omega)
      have z2 : ¬ s = 0 := by omega
      clear hs
      by_cases d1 : Int.tmod v s = 0
      · rw [if_pos d1] at hr
        have e1 : (Int.tmod v s != 0) = false := bne_eq_false_iff_eq.mpr d1
        clear d1
        by_cases d2 : v < l
        · rw [if_pos d2] at hr
          have e2 : decide (v < l) = true := decide_eq_true d2
          clear d2
          obtain ⟨rfl, rfl⟩ := Prod.mk.inj hr
          clear hr
          go_wp2
          go_ret2
          exact ⟨rfl, HB2.out⟩
        · rw [if_neg d2] at hr
          have e2 : decide (v < l) = false := decide_eq_false d2
          clear d2
          by_cases d3 : v > m
          · rw [if_pos d3] at hr
            have e3 : decide (m < v) = true := decide_eq_true d3
            clear d3
            obtain ⟨rfl, rfl⟩ := Prod.mk.inj hr
            clear hr
            go_wp2
            go_ret2
            exact ⟨rfl, HB2.out⟩
          · rw [if_neg d3] at hr
            have e3 : decide (m < v) = false := decide_eq_false d3
            clear d3
            obtain ⟨rfl, rfl⟩ := Prod.mk.inj hr
            clear hr
            go_wp2
            go_ret2
            exact ⟨rfl, HB2.out⟩
      · rw [if_neg d1] at hr
        have e1 : (Int.tmod v s != 0) = true := bne_iff_ne.mpr d1
        clear d1
        obtain ⟨rfl, rfl⟩ := Prod.mk.inj hr
        clear hr
        go_wp2
        go_ret2
        exact ⟨rfl, HB2.out⟩
  · have hr : (0, 1) = (r1, r2) := by
      by_cases h1 : a0 < 1
      · rw [if_pos h1] at h; exact Option.some.inj h
      · rw [if_neg h1, if_pos (by omega)] at h; exact Option.some.inj h
    obtain ⟨rfl, rfl⟩ := Prod.mk.inj hr
    clear hr h
    go_enter Tryd.func7, Tryd.ntmps7
    go_wp2_with fail
    refine (fix_ruleOf.no a0 (by omega) _).mono ?_
    rintro e w1 ⟨rfl, hb⟩
    have HB := Aside0.mk hb
    clear hb
    go_wp2
    go_ret2
    exact ⟨rfl, below_alloc HB.out _⟩
def inst_Shape.f (a0 : Int) : Option Int := if a0 < 1 then some 0 else (if a0 > 39 then some 0 else some (rd shapesL a0))
theorem inst_Shape.calls (a0 : Int) (r : Int) (w : World) (hG : Glob w) (h : inst_Shape.f a0 = some r) :
    Calls Tryd.prog 52 #[.int .i64 a0] w fun e w' => e = .returned (.int .i64 r) ∧ Drawn0 w w' := by
  unfold inst_Shape.f at h
  by_cases h1 : a0 < 1
  · rw [if_pos h1] at h
    obtain rfl := Option.some.inj h
    have b1 : decide (a0 < 1) = true := decide_eq_true h1
    clear h
    go_enter Tryd.func52, Tryd.ntmps52
    go_wp2
    go_ret
    exact ⟨rfl, Drawn0.refl _⟩
  · rw [if_neg h1] at h
    have b1 : decide (a0 < 1) = false := decide_eq_false h1
    by_cases h2 : a0 > 39
    · rw [if_pos h2] at h
      obtain rfl := Option.some.inj h
      have b2 : decide (39 < a0) = true := decide_eq_true h2
      clear h
      go_enter Tryd.func52, Tryd.ntmps52
      go_wp2
      go_ret
      exact ⟨rfl, Drawn0.refl _⟩
    · rw [if_neg h2] at h
      obtain rfl := Option.some.inj h
      have b2 : decide (39 < a0) = false := decide_eq_false h2
      have hc : w.cell? ⟨3, a0.toNat, none⟩ = some (.int .i64 (rd shapesL a0)) := hG.shapes a0.toNat (by omega)
      have i0 : 0 ≤ a0 := by omega
      have i1 : a0 < 40 := by omega
      clear h h1 h2
      go_enter Tryd.func52, Tryd.ntmps52
      go_wp2
      go_ret
      exact ⟨rfl, Drawn0.refl _⟩
def code_Opcode.l0 : Nat → Int → Int → Option Int
  | 0, _, _ => none
  | k + 1, x0, x3 => if x3 ≤ 39 then (if Go.bits .andNot .u32 x0 (rd fieldsL (rd shapesL x3)) = rd basesL x3 then some x3 else code_Opcode.l0 k x0 (x3 + 1)) else some 0
def code_Opcode.f (a0 : Int) : Option Int := code_Opcode.l0 40 a0 1
theorem shapesL_in (i : Nat) : 0 ≤ shapesL.getD i 0 ∧ shapesL.getD i 0 < 17 := by
  rcases Nat.lt_or_ge i 40 with h | h
  · exact (by decide : ∀ i : Nat, i < 40 → 0 ≤ shapesL.getD i 0 ∧ shapesL.getD i 0 < 17) i h
  · rw [List.getD_eq_getElem?_getD, List.getElem?_eq_none (by simpa [shapesL] using h)]; decide
set_option maxHeartbeats 1600000 in
set_option maxRecDepth 100000 in
theorem code_Opcode.calls (a0 : Int) (r : Int) (w : World) (hG : Glob w) (h : code_Opcode.f a0 = some r) :
    Calls Tryd.prog 50 #[.int .u32 a0] w fun e w' => e = .returned (.int .i64 r) ∧ Drawn0 w w' := by
  have H : code_Opcode.l0 40 a0 1 = some r := h
  clear h
  have H' := Aside0.mk H
  clear H
  go_enter Tryd.func50, Tryd.ntmps50
  go_wp2
  go_loopg [3] 40 (fun kq v3 w' => ∃ (x3 : Int), v3 = .int .i64 x3 ∧ (1 ≤ x3 ∧ x3 ≤ 40) ∧ Aside0 (code_Opcode.l0 kq a0 x3 = some r) ∧ Aside0 (kq ≤ 40) ∧ Drawn0 w w')
  case atStart => exact ⟨1, rfl, by omega, H', ⟨Nat.le_refl _⟩, Drawn0.refl _⟩
  case round =>
    clear H'
    obtain ⟨x3, rfl, ⟨hx0, hx1⟩, HA, HK, ⟨m1, rfl⟩⟩ := hrel
    cases gk with
    | zero => exact absurd HA.out (by simp [code_Opcode.l0])
    | succ k1 =>
      have H := HA.out
      clear HA
      simp only [code_Opcode.l0] at H
      by_cases c1 : x3 ≤ 39
      · rw [if_pos c1] at H
        have b1 : decide (x3 ≤ 39) = true := decide_eq_true c1
        have hS : inst_Shape.f x3 = some (rd shapesL x3) := by unfold inst_Shape.f; rw [if_neg (by omega), if_neg (by omega)]
        have hc1 : ∀ n, (w.drewN n).cell? ⟨1, x3.toNat, none⟩ = some (.int .u32 (rd basesL x3)) := fun n => hG.bases x3.toNat (by omega)
        have hs := shapesL_in x3.toNat
        obtain ⟨s, hs'⟩ : ∃ s, rd shapesL x3 = s := ⟨_, rfl⟩
        rw [show shapesL.getD x3.toNat 0 = rd shapesL x3 from rfl, hs'] at hs
        rw [hs'] at hS H
        clear hs'
        have HS := Aside0.mk hS
        clear hS
        obtain ⟨hs0, hs1⟩ := hs
        have hc2 : ∀ n, (w.drewN n).cell? ⟨2, s.toNat, none⟩ = some (.int .u32 (rd fieldsL s)) := fun n => hG.fields s.toNat (by omega)
        obtain ⟨bb, hbb⟩ : ∃ b, rd basesL x3 = b := ⟨_, rfl⟩
        obtain ⟨ff, hff⟩ : ∃ f, rd fieldsL s = f := ⟨_, rfl⟩
        rw [hbb] at H hc1
        rw [hff] at H hc2
        clear hbb hff
        have hc1' := hc1 0
        have hc2' := hc2 0
        simp only [World.cell?_drewN] at hc1' hc2'
        clear hc1 hc2
        by_cases c2 : Go.bits .andNot .u32 a0 ff = bb
        · rw [if_pos c2] at H
          have b2 : (Go.bits .andNot .u32 a0 ff == bb) = true := beq_iff_eq.mpr c2
          clear c2
          obtain rfl := Option.some.inj H
          clear H
          go_wp2
          repeat (go_quiet ((go_at_call 52; (with_reducible refine (inst_Shape.calls x3 s _ (hG.drewN) HS.out).mono ?_); rintro e w' ⟨rfl, ⟨nd, rfl⟩⟩; (try first | exact ⟨rfl, _, World.drewN_drewN _ _ _⟩ | exact ⟨rfl, _, Eq.trans (World.drewN_drewN _ _ _) (congrArg (World.drewN _) (Nat.add_assoc _ _ _))⟩))); try go_wp2)
          go_ret
          exact ⟨rfl, by repeat (first | exact Drawn0.refl _ | apply Drawn0.step)⟩
        · rw [if_neg c2] at H
          have b2 : (Go.bits .andNot .u32 a0 ff == bb) = false := beq_eq_false_iff_ne.mpr c2
          clear c2
          have H' := Aside0.mk H
          clear H
          go_wp2
          repeat (go_quiet ((go_at_call 52; (with_reducible refine (inst_Shape.calls x3 s _ (hG.drewN) HS.out).mono ?_); rintro e w' ⟨rfl, ⟨nd, rfl⟩⟩; (try first | exact ⟨rfl, _, World.drewN_drewN _ _ _⟩ | exact ⟨rfl, _, Eq.trans (World.drewN_drewN _ _ _) (congrArg (World.drewN _) (Nat.add_assoc _ _ _))⟩))); try go_wp2)
          go_roundg k1
          case measure => have := HK.out; omega
          case rel => exact ⟨x3 + 1, rfl, by omega, H', ⟨by have := HK.out; omega⟩, by repeat (first | exact Drawn0.refl _ | apply Drawn0.step)⟩
      · rw [if_neg c1] at H
        have b1 : decide (x3 ≤ 39) = false := decide_eq_false c1
        obtain rfl := Option.some.inj H
        clear H
        go_wp2
        go_ret
        exact ⟨rfl, by repeat (first | exact Drawn0.refl _ | apply Drawn0.step)⟩
def bits_right.f (a0 : Int) (a1 : Int) : Option (Bool) := if a0 ≥ 0 then (if a1 ≥ 1 then (if a1 ≤ 32 then (some (decide (a0 ≤ (wrap64 (32 - a1))))) else (some false)) else (some false)) else (some false)
set_option maxHeartbeats 8000000 in
set_option maxRecDepth 100000 in
theorem bits_right.calls (a0 : Int) (a1 : Int) (r : Bool) (w : World) (h : bits_right.f a0 a1 = some r) :
    Calls Tryd.prog 84 #[.int .i64 a0, .int .i64 a1] w fun e w' => e = .returned (.bool r) ∧ Drawn0 w w' := by
  have H : (if a0 ≥ 0 then (if a1 ≥ 1 then (if a1 ≤ 32 then (some (decide (a0 ≤ (wrap64 (32 - a1))))) else (some false)) else (some false)) else (some false)) = some r := h
  clear h
  by_cases c3 : a0 ≥ 0
  · rw [if_pos c3] at H
    have c3b0 : decide (0 ≤ a0) = true := decide_eq_true c3
    clear c3
    by_cases c4 : a1 ≥ 1
    · rw [if_pos c4] at H
      have c4b0 : decide (1 ≤ a1) = true := decide_eq_true c4
      clear c4
      by_cases c5 : a1 ≤ 32
      · rw [if_pos c5] at H
        have c5b0 : decide (a1 ≤ 32) = true := decide_eq_true c5
        clear c5
        obtain rfl := Option.some.inj H
        go_enter Tryd.func84, Tryd.ntmps84
        go_wp2
        go_ret
        exact ⟨by first | rfl | (simp; done) | (simp [*]; done), by repeat (first | exact Drawn0.refl _ | apply Drawn0.step)⟩
      · rw [if_neg c5] at H
        have c5b0 : decide (a1 ≤ 32) = false := decide_eq_false c5
        clear c5
        obtain rfl := Option.some.inj H
        go_enter Tryd.func84, Tryd.ntmps84
        go_wp2
        go_ret
        exact ⟨by first | rfl | (simp; done) | (simp [*]; done), by repeat (first | exact Drawn0.refl _ | apply Drawn0.step)⟩
    · rw [if_neg c4] at H
      have c4b0 : decide (1 ≤ a1) = false := decide_eq_false c4
      clear c4
      obtain rfl := Option.some.inj H
      go_enter Tryd.func84, Tryd.ntmps84
      go_wp2
      go_ret
      exact ⟨by first | rfl | (simp; done) | (simp [*]; done), by repeat (first | exact Drawn0.refl _ | apply Drawn0.step)⟩
  · rw [if_neg c3] at H
    have c3b0 : decide (0 ≤ a0) = false := decide_eq_false c3
    clear c3
    obtain rfl := Option.some.inj H
    go_enter Tryd.func84, Tryd.ntmps84
    go_wp2
    go_ret
    exact ⟨by first | rfl | (simp; done) | (simp [*]; done), by repeat (first | exact Drawn0.refl _ | apply Drawn0.step)⟩
def bits_Field.f (a0 : Int) (a1 : Int) (a2 : Int) : Option (Int × Int) := (bits_right.f a1 a2).bind fun t102 => (if t102 = true then (if 0 ≤ a1 then (if 0 ≤ a2 then (some (Go.bits .and .u32 (shr .u32 a0 a1) (((shl .u32 1 a2) - 1) % 4294967296), 0)) else (none)) else (none)) else (some (0, 1)))
set_option maxHeartbeats 8000000 in
set_option maxRecDepth 100000 in
theorem bits_Field.calls (a0 : Int) (a1 : Int) (a2 : Int) (r1 : Int) (r2 : Int) (w : World) (h : bits_Field.f a0 a1 a2 = some (r1, r2)) :
    Calls Tryd.prog 67 #[.int .u32 a0, .int .i64 a1, .int .i64 a2] w fun e w' => e = .returned (.tuple #[.int .u32 r1, .int .i64 r2]) ∧ Drawn0 w w' := by
  have H : ((bits_right.f a1 a2).bind fun t102 => (if t102 = true then (if 0 ≤ a1 then (if 0 ≤ a2 then (some (Go.bits .and .u32 (shr .u32 a0 a1) (((shl .u32 1 a2) - 1) % 4294967296), 0)) else (none)) else (none)) else (some (0, 1)))) = some (r1, r2) := h
  clear h
  replace H := Option.bind_eq_some_iff.mp H
  obtain ⟨t102, A40, H⟩ := H
  replace H : (if t102 = true then (if 0 ≤ a1 then (if 0 ≤ a2 then (some (Go.bits .and .u32 (shr .u32 a0 a1) (((shl .u32 1 a2) - 1) % 4294967296), 0)) else (none)) else (none)) else (some (0, 1))) = some (r1, r2) := H
  have A4 := Aside0.mk A40
  clear A40
  by_cases c5 : t102 = true
  · subst c5
    have H1 : (if 0 ≤ a1 then (if 0 ≤ a2 then (some (Go.bits .and .u32 (shr .u32 a0 a1) (((shl .u32 1 a2) - 1) % 4294967296), 0)) else (none)) else (none)) = some (r1, r2) := by rw [if_pos rfl] at H; exact H
    clear H
    have H := H1
    clear H1
    by_cases c6 : 0 ≤ a1
    · rw [if_pos c6] at H
      have c6b0 := eq_true c6
      have c6b1 : decide (0 ≤ a1) = true := decide_eq_true c6
      clear c6
      obtain ⟨ji7, hji7⟩ : ∃ j_ : Int, (shr .u32 a0 a1) = j_ := ⟨_, rfl⟩
      replace H : (if 0 ≤ a2 then (some (Go.bits .and .u32 (ji7) (((shl .u32 1 a2) - 1) % 4294967296), 0)) else (none)) = some (r1, r2) := by first | (rw [hji7] at H; exact H) | (simp only [hji7] at H ⊢; exact H)
      (try rw [hji7] at A4)
      have hji7_ : (a0 / 2 ^ min a1.toNat 32) = ji7 := hji7
      have hji7z : a1 ≤ 32 → (a0 / 2 ^ a1.toNat) = ji7 := shr_small hji7
      by_cases c8 : 0 ≤ a2
      · rw [if_pos c8] at H
        have c8b0 := eq_true c8
        have c8b1 : decide (0 ≤ a2) = true := decide_eq_true c8
        clear c8
        obtain ⟨ji9, hji9⟩ : ∃ j_ : Int, (shl .u32 1 a2) = j_ := ⟨_, rfl⟩
        replace H : (some (Go.bits .and .u32 (ji7) (((ji9) - 1) % 4294967296), 0)) = some (r1, r2) := by first | (rw [hji9] at H; exact H) | (simp only [hji9] at H ⊢; exact H)
        (try rw [hji9] at A4)
        have hji9_ : (IntKind.u32.wrap (1 * 2 ^ min a2.toNat 32)) = ji9 := hji9
        have hji9z : a2 ≤ 32 → (IntKind.u32.wrap (1 * 2 ^ a2.toNat)) = ji9 := shl_small hji9
        have hji9u : (IntKind.u32.wrap (2 ^ min a2.toNat 32)) = ji9 := by have h_ := hji9_; rw [Int.one_mul] at h_; exact h_
        have hji9v : a2 ≤ 32 → (IntKind.u32.wrap (2 ^ a2.toNat)) = ji9 := fun hle_ => by have h_ := hji9z hle_; rw [Int.one_mul] at h_; exact h_
        simp only [Option.some.injEq, Prod.mk.injEq] at H
        obtain ⟨rfl, rfl⟩ := H
        go_enter Tryd.func67, Tryd.ntmps67
        go_wp2_with (first | (go_at_call 84; (with_reducible refine (bits_right.calls a1 a2 true _ A4.out).mono ?_); rintro e w' ⟨rfl, ⟨nd, rfl⟩⟩; (try first | exact ⟨rfl, _, World.drewN_drewN _ _ _⟩ | exact ⟨rfl, _, Eq.trans (World.drewN_drewN _ _ _) (congrArg (World.drewN _) (Nat.add_assoc _ _ _))⟩)))
        repeat (go_quiet (first | (go_at_call 84; (with_reducible refine (bits_right.calls a1 a2 true _ A4.out).mono ?_); rintro e w' ⟨rfl, ⟨nd, rfl⟩⟩; (try first | exact ⟨rfl, _, World.drewN_drewN _ _ _⟩ | exact ⟨rfl, _, Eq.trans (World.drewN_drewN _ _ _) (congrArg (World.drewN _) (Nat.add_assoc _ _ _))⟩))); try go_wp2_with (first | (go_at_call 84; (with_reducible refine (bits_right.calls a1 a2 true _ A4.out).mono ?_); rintro e w' ⟨rfl, ⟨nd, rfl⟩⟩; (try first | exact ⟨rfl, _, World.drewN_drewN _ _ _⟩ | exact ⟨rfl, _, Eq.trans (World.drewN_drewN _ _ _) (congrArg (World.drewN _) (Nat.add_assoc _ _ _))⟩))))
        go_ret2
        exact ⟨by first | rfl | (simp; done) | (simp only [← hji7, ← hji9] <;> (first | rfl | simp)) | (simp [*]; done), by repeat (first | exact Drawn0.refl _ | apply Drawn0.step)⟩
      · rw [if_neg c8] at H
        exact absurd H (by simp)
    · rw [if_neg c6] at H
      exact absurd H (by simp)
  · replace c5 := Bool.eq_false_iff.mpr c5
    subst c5
    have H1 : (some (0, 1)) = some (r1, r2) := by rw [if_neg (show ¬ (false = true) by decide)] at H; exact H
    clear H
    have H := H1
    clear H1
    simp only [Option.some.injEq, Prod.mk.injEq] at H
    obtain ⟨rfl, rfl⟩ := H
    go_enter Tryd.func67, Tryd.ntmps67
    go_wp2_with (first | (go_at_call 84; (with_reducible refine (bits_right.calls a1 a2 false _ A4.out).mono ?_); rintro e w' ⟨rfl, ⟨nd, rfl⟩⟩; (try first | exact ⟨rfl, _, World.drewN_drewN _ _ _⟩ | exact ⟨rfl, _, Eq.trans (World.drewN_drewN _ _ _) (congrArg (World.drewN _) (Nat.add_assoc _ _ _))⟩)))
    repeat (go_quiet (first | (go_at_call 84; (with_reducible refine (bits_right.calls a1 a2 false _ A4.out).mono ?_); rintro e w' ⟨rfl, ⟨nd, rfl⟩⟩; (try first | exact ⟨rfl, _, World.drewN_drewN _ _ _⟩ | exact ⟨rfl, _, Eq.trans (World.drewN_drewN _ _ _) (congrArg (World.drewN _) (Nat.add_assoc _ _ _))⟩))); try go_wp2_with (first | (go_at_call 84; (with_reducible refine (bits_right.calls a1 a2 false _ A4.out).mono ?_); rintro e w' ⟨rfl, ⟨nd, rfl⟩⟩; (try first | exact ⟨rfl, _, World.drewN_drewN _ _ _⟩ | exact ⟨rfl, _, Eq.trans (World.drewN_drewN _ _ _) (congrArg (World.drewN _) (Nat.add_assoc _ _ _))⟩))))
    go_ret2
    exact ⟨by first | rfl | (simp; done) | (simp [*]; done), by repeat (first | exact Drawn0.refl _ | apply Drawn0.step)⟩
def code_part.f (a0 : Int) (a1 : Int) (a2 : Int) : Option (Int) := (bits_Field.f a0 a1 a2).bind fun bt103 => (some (wrap64 (bt103.1)))
set_option maxHeartbeats 8000000 in
set_option maxRecDepth 100000 in
theorem code_part.calls (a0 : Int) (a1 : Int) (a2 : Int) (r : Int) (w : World) (h : code_part.f a0 a1 a2 = some r) :
    Calls Tryd.prog 51 #[.int .u32 a0, .int .i64 a1, .int .i64 a2] w fun e w' => e = .returned (.int .i64 r) ∧ Drawn0 w w' := by
  have H : ((bits_Field.f a0 a1 a2).bind fun bt103 => (some (wrap64 (bt103.1)))) = some r := h
  clear h
  replace H := Option.bind_eq_some_iff.mp H
  obtain ⟨⟨t103, t104⟩, A40, H⟩ := H
  replace H : (some (wrap64 (t103))) = some r := H
  have A4 := Aside0.mk A40
  clear A40
  obtain rfl := Option.some.inj H
  go_enter Tryd.func51, Tryd.ntmps51
  go_wp2_with (first | ((with_reducible refine gate_callee (f := 67) rfl ?_); refine goesL_ (some 13) rfl rfl Tryd.func67 (by kernel_rfl) rfl #[.int .u32 a0, .int .i64 a1, .int .i64 a2] rfl (by (try simp only [List.map_toArray, List.map_cons, List.map_nil]); first | done | rfl | (simp only [List.length_drop, List.length_take]; rfl)) ?_; (with_reducible refine (bits_Field.calls a0 a1 a2 t103 t104 _ A4.out).mono ?_); rintro e w' ⟨rfl, ⟨nd, rfl⟩⟩; refine ⟨_, rfl, ?_⟩))
  go_ret
  exact ⟨by first | rfl | (simp; done) | (simp [*]; done), by repeat (first | exact Drawn0.refl _ | apply Drawn0.step)⟩
def mask_extra.f (a0 : Int) : Option (Int) := if a0 = 64 then (some 0) else (some (wrap64 (64 - (wrap64 (2 * a0)))))
set_option maxHeartbeats 8000000 in
set_option maxRecDepth 100000 in
theorem mask_extra.calls (a0 : Int) (r : Int) (w : World) (h : mask_extra.f a0 = some r) :
    Calls Tryd.prog 83 #[.int .i64 a0] w fun e w' => e = .returned (.int .i64 r) ∧ Drawn0 w w' := by
  have H : (if a0 = 64 then (some 0) else (some (wrap64 (64 - (wrap64 (2 * a0)))))) = some r := h
  clear h
  by_cases c2 : a0 = 64
  · rw [if_pos c2] at H
    have c2b0 : (a0 == 64) = true := beq_iff_eq.mpr c2
    have c2b1 : (a0 != 64) = false := bne_eq_false_iff_eq.mpr c2
    clear c2
    obtain rfl := Option.some.inj H
    go_enter Tryd.func83, Tryd.ntmps83
    go_wp2
    go_ret
    exact ⟨by first | rfl | (simp; done) | (simp [*]; done), by repeat (first | exact Drawn0.refl _ | apply Drawn0.step)⟩
  · rw [if_neg c2] at H
    have c2b0 : (a0 == 64) = false := beq_eq_false_iff_ne.mpr c2
    have c2b1 : (a0 != 64) = true := bne_iff_ne.mpr c2
    obtain rfl := Option.some.inj H
    go_enter Tryd.func83, Tryd.ntmps83
    go_wp2
    go_ret
    exact ⟨by first | rfl | (simp; done) | (simp [*]; done), by repeat (first | exact Drawn0.refl _ | apply Drawn0.step)⟩
end Go.Proofs.YtjllhcfcdimbfaaDoor.P
