/- Walks and plain laws of this claim, a part. -/
import Derived.Test.YtpcdebakiccecaaGreatDoorPs34
import Derived.Test.YtpcdebakiccecaaGreatDoorPs36
namespace Go.Proofs.YtpcdebakiccecaaGreatDoor.P
open Go.RowKit Go.Proofs.YtpcdebakiccecaaGreatDoorW.PrintWords Go.Proofs.YtpcdebakiccecaaGreatDoorW.PrintLast Go.Proofs.YtpcdebakiccecaaGreatDoorW.PrintMore
attribute [local go_sem] max2_int min2_int max_two min_two max_three min_three max_four min_four   -- for this text's walks alone
set_option linter.unusedVariables false
set_option linter.unusedSimpArgs false
set_option maxHeartbeats 1600000 in
set_option maxRecDepth 100000 in
theorem code_masked.panics (k : Nat) (a0 t1 t2 t3 v e : Int) (w : World) (h1 : code_part.f a0 22 1 = some t1) (h2 : code_part.f a0 16 6 = some t2) (h3 : code_part.f a0 10 6 = some t3) (h4 : mask_Decode.f k t1 t2 t3 = some (v, e)) (he : ¬ e = 0) :
 Calls Tryz.prog 79 #[.int .u32 a0] w fun en w' => en = .panicked [{ v := .iface 102 (.agg #[]), recovered := false }] ∧ Below w.heap.size w w' := by
 have b1 : (e != 0) = true := bne_iff_ne.mpr he
 have A1 := Azz.mk (fun W => code_part.calls a0 22 1 t1 W h1)
 have A2 := Azz.mk (fun W => code_part.calls a0 16 6 t2 W h2)
 have A3 := Azz.mk (fun W => code_part.calls a0 10 6 t3 W h3)
 have A4 := Azz.mk (fun W => mask_Decode.calls k t1 t2 t3 v e W h4)
 clear h1 h2 h3 h4 he
 go_enter Tryz.func79, Tryz.ntmps79
 go_wp2_with (first | (go_at_call 78; (first | (with_reducible refine (A1.out _).mono ?_) | (with_reducible refine (A2.out _).mono ?_) | (with_reducible refine (A3.out _).mono ?_)); rintro e w' ⟨rfl, ⟨nd, rfl⟩⟩) | (go_at_call 93; (with_reducible refine (A4.out _).mono ?_); rintro e w1 ⟨rfl, hb⟩))
 exact ⟨rfl, rfl, by repeat (first | exact Below.refl _ _ | apply bNN | (refine Below.trans ?_ (by simpa using hb)))⟩
theorem code_part_some (w at_ n : Int) (h0 : 0 ≤ at_) (h1 : 1 ≤ n) (h2 : n ≤ 32) (h3 : at_ ≤ 32 - n) : ∃ t, code_part.f w at_ n = some t := by
 have hr : bits_right.f at_ n = some true := by
  unfold bits_right.f
  rw [if_pos (by omega), if_pos (by omega), if_pos (by omega)]
  congr 1
  unfold wrap64
  simp only [decide_eq_true_eq]
  omega
 unfold code_part.f bits_Field.f
 rw [hr]
 simp only [Option.bind_some, if_true]
 rw [if_pos h0, if_pos (by omega)]
 exact ⟨_, rfl⟩
set_option maxHeartbeats 3200000 in
set_option maxRecDepth 100000 in
theorem code_read.panics (k : Nat) (a0 op s : Int) (w : World) (hG : Glob w) (h1 : code_Opcode.f a0 = some op) (h2 : inst_Shape.f op = some s)
 (hs : s = 0 ∨ s = 3 ∧ ∃ t1 t2 t3 v e, code_part.f a0 22 1 = some t1 ∧ code_part.f a0 16 6 = some t2 ∧ code_part.f a0 10 6 = some t3 ∧ mask_Decode.f k t1 t2 t3 = some (v, e) ∧ ¬ e = 0) :
 Calls Tryz.prog 55 #[.int .u32 a0] w fun en w' => en = .panicked [{ v := .iface 102 (.agg #[]), recovered := false }] ∧ Below w.heap.size w w' := by
 obtain ⟨d, hd⟩ := code_part_some a0 0 5 (by decide) (by decide) (by decide) (by decide)
 obtain ⟨n, hn⟩ := code_part_some a0 5 5 (by decide) (by decide) (by decide) (by decide)
 obtain ⟨m, hm⟩ := code_part_some a0 16 5 (by decide) (by decide) (by decide) (by decide)
 have A1 := Azz.mk (fun W => code_part.calls a0 0 5 d W hd)
 have A2 := Azz.mk (fun W => code_part.calls a0 5 5 n W hn)
 have A3 := Azz.mk (fun W => code_part.calls a0 16 5 m W hm)
 have A4 := Azz.mk (fun W hG => code_Opcode.calls a0 op W hG h1)
 have A5 := Azz.mk (fun W hG => inst_Shape.calls op s W hG h2)
 clear hd hn hm h1 h2
 rcases hs with rfl | ⟨rfl, t1, t2, t3, v, e, g1, g2, g3, g4, ge⟩
 ·go_enter Tryz.func55, Tryz.ntmps55
  go_wp2_with (first | (go_at_call 78; (first | (with_reducible refine (A1.out _).mono ?_) | (with_reducible refine (A2.out _).mono ?_) | (with_reducible refine (A3.out _).mono ?_)); rintro e w' ⟨rfl, ⟨nd, rfl⟩⟩) | (go_at_call 77; (with_reducible refine (A4.out _ ?gl).mono ?_); (case gl => exact Glob.below hG (by repeat (first | exact Below.refl _ _ | apply bAA | apply bNN | apply bDD | (refine bSS ?_ (by first | omega | (simp; done) | (simp; omega)))))); rintro e w' ⟨rfl, ⟨nd, rfl⟩⟩) | (go_at_call 40; (with_reducible refine (A5.out _ ?gl2).mono ?_); (case gl2 => exact Glob.below hG (by repeat (first | exact Below.refl _ _ | apply bAA | apply bNN | apply bDD | (refine bSS ?_ (by first | omega | (simp; done) | (simp; omega)))))); rintro e w' ⟨rfl, ⟨nd, rfl⟩⟩))
  refine ⟨rfl, rfl, ?_⟩
  repeat (first | exact Below.refl _ _ | apply bAA | apply bNN | apply bDD | (refine bSS ?_ (by first | omega | (simp; done) | (simp; omega))))
 ·have A6 := Azz.mk (fun W => code_masked.panics k a0 t1 t2 t3 v e W g1 g2 g3 g4 ge)
  clear g1 g2 g3 g4 ge
  go_enter Tryz.func55, Tryz.ntmps55
  go_wp2_with (first | (go_at_call 78; (first | (with_reducible refine (A1.out _).mono ?_) | (with_reducible refine (A2.out _).mono ?_) | (with_reducible refine (A3.out _).mono ?_)); rintro e w' ⟨rfl, ⟨nd, rfl⟩⟩) | (go_at_call 77; (with_reducible refine (A4.out _ ?gl3).mono ?_); (case gl3 => exact Glob.below hG (by repeat (first | exact Below.refl _ _ | apply bAA | apply bNN | apply bDD | (refine bSS ?_ (by first | omega | (simp; done) | (simp; omega)))))); rintro e w' ⟨rfl, ⟨nd, rfl⟩⟩) | (go_at_call 40; (with_reducible refine (A5.out _ ?gl4).mono ?_); (case gl4 => exact Glob.below hG (by repeat (first | exact Below.refl _ _ | apply bAA | apply bNN | apply bDD | (refine bSS ?_ (by first | omega | (simp; done) | (simp; omega)))))); rintro e w' ⟨rfl, ⟨nd, rfl⟩⟩) | (go_at_call 79; (with_reducible refine (A6.out _).mono ?_); rintro e w1 ⟨rfl, hb⟩))
  refine ⟨rfl, rfl, ?_⟩
  exact bTT (by repeat (first | exact Below.refl _ _ | apply bAA | apply bNN | apply bDD | (refine bSS ?_ (by first | omega | (simp; done) | (simp; omega))))) hb
/-- What the deferred closure leaves where it has recovered: a zero instruction, and ErrWord; elsewhere nothing is turned. -/
def DecodeAfter (bi be : Nat) (w w' : World) : Prop := w'.heap[bi]? = some (.cells #[Value.int .i64 0, Value.int .i64 0, Value.int .i64 0, Value.int .i64 0, Value.int .i64 0, Value.int .i64 0, Value.int .u64 0, Value.int .i64 0, Value.int .i64 0, Value.int .i64 0] 40 (0, 0)) ∧ w'.heap[be]? = some (.cells #[Value.int .i64 11] 25 (0, 0)) ∧ (∀ B, B ≤ bi → B ≤ be → Below B w w')
set_option maxHeartbeats 1600000 in
set_option maxRecDepth 100000 in
theorem decode_catch (bi be : Nat) (x0 x1 x2 x3 x4 x5 x6 x7 x8 x9 ve : Value) (u : TypeId) (pv : Value) (older : List PanicEntry) (w : World)
 (hi : w.heap[bi]? = some (.cells #[x0, x1, x2, x3, x4, x5, x6, x7, x8, x9] 40 (0, 0))) (he : w.heap[be]? = some (.cells #[ve] 25 (0, 0))) (hne : bi ≠ be) :
 CallsD Tryz.prog 54 #[.pointer (some ⟨bi, 0, none⟩), .pointer (some ⟨be, 0, none⟩)] (.panicking ({ v := .iface u pv, recovered := false } :: older)) w fun e u' w' =>
  e = .returned (.tuple #[]) ∧ u' = .panicking ({ v := .iface u pv, recovered := true } :: older) ∧ DecodeAfter bi be w w' := by
 have hc0 : w.cell? ⟨bi, 0, none⟩ = some (x0) := (kCC hi 0).trans rfl
 have hf0 : w.frozen? ⟨bi, 0, none⟩ = false := kFF hi 0
 have hc1 : w.cell? ⟨bi, 1, none⟩ = some (x1) := (kCC hi 1).trans rfl
 have hf1 : w.frozen? ⟨bi, 1, none⟩ = false := kFF hi 1
 have hc2 : w.cell? ⟨bi, 2, none⟩ = some (x2) := (kCC hi 2).trans rfl
 have hf2 : w.frozen? ⟨bi, 2, none⟩ = false := kFF hi 2
 have hc3 : w.cell? ⟨bi, 3, none⟩ = some (x3) := (kCC hi 3).trans rfl
 have hf3 : w.frozen? ⟨bi, 3, none⟩ = false := kFF hi 3
 have hc4 : w.cell? ⟨bi, 4, none⟩ = some (x4) := (kCC hi 4).trans rfl
 have hf4 : w.frozen? ⟨bi, 4, none⟩ = false := kFF hi 4
 have hc5 : w.cell? ⟨bi, 5, none⟩ = some (x5) := (kCC hi 5).trans rfl
 have hf5 : w.frozen? ⟨bi, 5, none⟩ = false := kFF hi 5
 have hc6 : w.cell? ⟨bi, 6, none⟩ = some (x6) := (kCC hi 6).trans rfl
 have hf6 : w.frozen? ⟨bi, 6, none⟩ = false := kFF hi 6
 have hc7 : w.cell? ⟨bi, 7, none⟩ = some (x7) := (kCC hi 7).trans rfl
 have hf7 : w.frozen? ⟨bi, 7, none⟩ = false := kFF hi 7
 have hc8 : w.cell? ⟨bi, 8, none⟩ = some (x8) := (kCC hi 8).trans rfl
 have hf8 : w.frozen? ⟨bi, 8, none⟩ = false := kFF hi 8
 have hc9 : w.cell? ⟨bi, 9, none⟩ = some (x9) := (kCC hi 9).trans rfl
 have hf9 : w.frozen? ⟨bi, 9, none⟩ = false := kFF hi 9
 have hce : w.cell? ⟨be, 0, none⟩ = some (ve) := (kCC he 0).trans rfl
 have hfe : w.frozen? ⟨be, 0, none⟩ = false := kFF he 0
 have hA : DecodeAfter bi be w (((((((((((w.setCell ⟨bi, 0, none⟩ (Value.int .i64 0)).setCell ⟨bi, 1, none⟩ (Value.int .i64 0)).setCell ⟨bi, 2, none⟩ (Value.int .i64 0)).setCell ⟨bi, 3, none⟩ (Value.int .i64 0)).setCell ⟨bi, 4, none⟩ (Value.int .i64 0)).setCell ⟨bi, 5, none⟩ (Value.int .i64 0)).setCell ⟨bi, 6, none⟩ (Value.int .u64 0)).setCell ⟨bi, 7, none⟩ (Value.int .i64 0)).setCell ⟨bi, 8, none⟩ (Value.int .i64 0)).setCell ⟨bi, 9, none⟩ (Value.int .i64 0)).setCell ⟨be, 0, none⟩ (Value.int .i64 11)) := by
  refine ⟨?_, ?_, fun B h1 h2 => ?_⟩
  ·refine (Below.heap_setCell _ _ _ _ hne).trans ?_
   refine blk_put (cs := #[Value.int .i64 0, Value.int .i64 0, Value.int .i64 0, Value.int .i64 0, Value.int .i64 0, Value.int .i64 0, Value.int .u64 0, Value.int .i64 0, Value.int .i64 0, x9]) ?_ 9 _ rfl
   refine blk_put (cs := #[Value.int .i64 0, Value.int .i64 0, Value.int .i64 0, Value.int .i64 0, Value.int .i64 0, Value.int .i64 0, Value.int .u64 0, Value.int .i64 0, x8, x9]) ?_ 8 _ rfl
   refine blk_put (cs := #[Value.int .i64 0, Value.int .i64 0, Value.int .i64 0, Value.int .i64 0, Value.int .i64 0, Value.int .i64 0, Value.int .u64 0, x7, x8, x9]) ?_ 7 _ rfl
   refine blk_put (cs := #[Value.int .i64 0, Value.int .i64 0, Value.int .i64 0, Value.int .i64 0, Value.int .i64 0, Value.int .i64 0, x6, x7, x8, x9]) ?_ 6 _ rfl
   refine blk_put (cs := #[Value.int .i64 0, Value.int .i64 0, Value.int .i64 0, Value.int .i64 0, Value.int .i64 0, x5, x6, x7, x8, x9]) ?_ 5 _ rfl
   refine blk_put (cs := #[Value.int .i64 0, Value.int .i64 0, Value.int .i64 0, Value.int .i64 0, x4, x5, x6, x7, x8, x9]) ?_ 4 _ rfl
   refine blk_put (cs := #[Value.int .i64 0, Value.int .i64 0, Value.int .i64 0, x3, x4, x5, x6, x7, x8, x9]) ?_ 3 _ rfl
   refine blk_put (cs := #[Value.int .i64 0, Value.int .i64 0, x2, x3, x4, x5, x6, x7, x8, x9]) ?_ 2 _ rfl
   refine blk_put (cs := #[Value.int .i64 0, x1, x2, x3, x4, x5, x6, x7, x8, x9]) ?_ 1 _ rfl
   refine blk_put (cs := #[x0, x1, x2, x3, x4, x5, x6, x7, x8, x9]) ?_ 0 _ rfl
   exact hi
  ·refine blk_put (cs := #[ve]) ?_ 0 _ rfl
   refine (Below.heap_setCell _ _ _ _ (Ne.symm hne)).trans ?_
   refine (Below.heap_setCell _ _ _ _ (Ne.symm hne)).trans ?_
   refine (Below.heap_setCell _ _ _ _ (Ne.symm hne)).trans ?_
   refine (Below.heap_setCell _ _ _ _ (Ne.symm hne)).trans ?_
   refine (Below.heap_setCell _ _ _ _ (Ne.symm hne)).trans ?_
   refine (Below.heap_setCell _ _ _ _ (Ne.symm hne)).trans ?_
   refine (Below.heap_setCell _ _ _ _ (Ne.symm hne)).trans ?_
   refine (Below.heap_setCell _ _ _ _ (Ne.symm hne)).trans ?_
   refine (Below.heap_setCell _ _ _ _ (Ne.symm hne)).trans ?_
   refine (Below.heap_setCell _ _ _ _ (Ne.symm hne)).trans ?_
   exact he
  ·refine Below.setCell ?_ (p := ⟨be, 0, none⟩) h2 _
   refine Below.setCell ?_ (p := ⟨bi, 9, none⟩) h1 _
   refine Below.setCell ?_ (p := ⟨bi, 8, none⟩) h1 _
   refine Below.setCell ?_ (p := ⟨bi, 7, none⟩) h1 _
   refine Below.setCell ?_ (p := ⟨bi, 6, none⟩) h1 _
   refine Below.setCell ?_ (p := ⟨bi, 5, none⟩) h1 _
   refine Below.setCell ?_ (p := ⟨bi, 4, none⟩) h1 _
   refine Below.setCell ?_ (p := ⟨bi, 3, none⟩) h1 _
   refine Below.setCell ?_ (p := ⟨bi, 2, none⟩) h1 _
   refine Below.setCell ?_ (p := ⟨bi, 1, none⟩) h1 _
   refine Below.setCell ?_ (p := ⟨bi, 0, none⟩) h1 _
   exact Below.refl _ _
 have HA := Azz.mk hA
 clear hA hi he
 refine callsD_of_wpS Tryz.func54 rfl fun c₀ cs hu => ?_
 apply wpS_seq
 apply wpS_region
 simp [wpOpsS, go_sem, recoverD, hu, Tryz.ntmps54, Exit.thenS]
 refine wpS_cond (t := true) (by simp [Act.eval, Array.replicate]) ?_
 simp only [if_true]
 apply wpS_region
 simp [wpOpsS, go_sem, hc0, hc1, hc2, hc3, hc4, hc5, hc6, hc7, hc8, hc9, hf0, hf1, hf2, hf3, hf4, hf5, hf6, hf7, hf8, hf9, hce, hfe, hne, Ne.symm hne, bodyPostS, results, Tryz.results54]
 exact HA.out
theorem decode_idle (bi be : Nat) (w : World) :
 CallsD Tryz.prog 54 #[.pointer (some ⟨bi, 0, none⟩), .pointer (some ⟨be, 0, none⟩)] .returning w fun e u' w' => e = .returned (.tuple #[]) ∧ u' = .returning ∧ w' = w := by
 refine callsD_of_wpS Tryz.func54 rfl fun c₀ cs hu => ?_
 apply wpS_seq
 apply wpS_region
 simp [wpOpsS, go_sem, recoverD, hu, Tryz.ntmps54, Exit.thenS]
 refine wpS_cond (t := false) (by simp [Act.eval, Array.replicate]) ?_
 simp only [Bool.false_eq_true, if_false]
 refine wpS_of_wp (wp_skip ?_)
 cases c₀
 simp_all [bodyPostS, results, Tryz.results54]
set_option maxHeartbeats 3200000 in
set_option maxRecDepth 100000 in
theorem code_Decode.caught (a0 : Int) (w : World) (h : ∀ W, Below w.heap.size w W → Calls Tryz.prog 55 #[.int .u32 a0] W fun en w' => en = .panicked [{ v := .iface 102 (.agg #[]), recovered := false }] ∧ Below W.heap.size W w') :
 Calls Tryz.prog 26 #[.int .u32 a0] w fun e w' => e = .returned (.tuple #[.agg #[Value.int .i64 0, Value.int .i64 0, Value.int .i64 0, Value.int .i64 0, Value.int .i64 0, Value.int .i64 0, Value.int .u64 0, Value.int .i64 0, Value.int .i64 0, Value.int .i64 0], .int .i64 11]) ∧ Below w.heap.size w w' := by
 have hmf : ∀ (fn : Fn) (first cap : Array Value) (w : World), (Instr.makeFunc fn first cap).run Tryz.prog w = .ok (.func fn first cap) w := fun _ _ _ _ => rfl
 have HR := Azz.mk h
 clear h
 go_enter_defers Tryz.func26, Tryz.ntmps26
 go_wp2_with (first | (go_at_call 55; (refine (HR.out _ ?gl).mono ?_); (case gl => repeat (first | exact Below.refl _ _ | apply bAA | apply bNN | apply bDD | (refine bSS ?_ (by first | omega | (simp; done) | (simp; omega))))); rintro e w1 ⟨rfl, hb⟩))
 have hi : w1.heap[w.heap.size]? = some (.cells #[Value.int .i64 0, Value.int .i64 0, Value.int .i64 0, Value.int .i64 0, Value.int .i64 0, Value.int .i64 0, Value.int .u64 0, Value.int .i64 0, Value.int .i64 0, Value.int .i64 0] 40 (0, 0)) := kBB (kAA (blk_new w _) _) hb
 have he : w1.heap[w.heap.size + 1]? = some (.cells #[Value.int .i64 0] 25 (0, 0)) := kBB (by simpa using blk_new (w.alloc (Obj.cells #[Value.int .i64 0, Value.int .i64 0, Value.int .i64 0, Value.int .i64 0, Value.int .i64 0, Value.int .i64 0, Value.int .u64 0, Value.int .i64 0, Value.int .i64 0, Value.int .i64 0] 40)) (Obj.cells #[Value.int .i64 0] 25)) hb
 have hB : Below w.heap.size w w1 := bTT (by repeat (first | exact Below.refl _ _ | apply bAA | apply bNN | apply bDD | (refine bSS ?_ (by first | omega | (simp; done) | (simp; omega))))) hb
 clear hb
 refine leaves_cons (f := 54) (args := #[.pointer (some ⟨w.heap.size, 0, none⟩), .pointer (some ⟨w.heap.size + 1, 0, none⟩)]) (by simp) (by simp [go_sem]) ?_
 refine (decode_catch _ _ _ _ _ _ _ _ _ _ _ _ _ _ _ _ _ hi he (by omega)).mono ?_
 rintro e u' w2 ⟨rfl, rfl, hd⟩
 obtain ⟨hdi, hde, hdB⟩ := hd
 have hB2 : Below w.heap.size w w2 := hB.trans (hdB _ (Nat.le_refl _) (by omega))
 clear hB hdB hi he
 have hc0 : w2.cell? ⟨w.heap.size, 0, none⟩ = some (Value.int .i64 0) := (kCC hdi 0).trans rfl
 have hc1 : w2.cell? ⟨w.heap.size, 1, none⟩ = some (Value.int .i64 0) := (kCC hdi 1).trans rfl
 have hc2 : w2.cell? ⟨w.heap.size, 2, none⟩ = some (Value.int .i64 0) := (kCC hdi 2).trans rfl
 have hc3 : w2.cell? ⟨w.heap.size, 3, none⟩ = some (Value.int .i64 0) := (kCC hdi 3).trans rfl
 have hc4 : w2.cell? ⟨w.heap.size, 4, none⟩ = some (Value.int .i64 0) := (kCC hdi 4).trans rfl
 have hc5 : w2.cell? ⟨w.heap.size, 5, none⟩ = some (Value.int .i64 0) := (kCC hdi 5).trans rfl
 have hc6 : w2.cell? ⟨w.heap.size, 6, none⟩ = some (Value.int .u64 0) := (kCC hdi 6).trans rfl
 have hc7 : w2.cell? ⟨w.heap.size, 7, none⟩ = some (Value.int .i64 0) := (kCC hdi 7).trans rfl
 have hc8 : w2.cell? ⟨w.heap.size, 8, none⟩ = some (Value.int .i64 0) := (kCC hdi 8).trans rfl
 have hc9 : w2.cell? ⟨w.heap.size, 9, none⟩ = some (Value.int .i64 0) := (kCC hdi 9).trans rfl
 have hce : w2.cell? ⟨w.heap.size + 1, 0, none⟩ = some (Value.int .i64 11) := (kCC hde 0).trans rfl
 simp [Leaves, settle, results, Tryz.results26, go_sem, hc0, hc1, hc2, hc3, hc4, hc5, hc6, hc7, hc8, hc9, hce]
 exact hB2
set_option maxHeartbeats 6400000 in
set_option maxRecDepth 100000 in
theorem code_Decode.good (a0 r1 r2 r3 r4 r5 r6 r7 r8 r9 r10 : Int) (w : World)
 (h : ∀ W, Below w.heap.size w W → Calls Tryz.prog 55 #[.int .u32 a0] W fun en w' => en = .returned (.agg #[Value.int .i64 r1, Value.int .i64 r2, Value.int .i64 r3, Value.int .i64 r4, Value.int .i64 r5, Value.int .i64 r6, Value.int .u64 r7, Value.int .i64 r8, Value.int .i64 r9, Value.int .i64 r10]) ∧ Below W.heap.size W w')
 (h2 : ∀ W, Below w.heap.size w W → Calls Tryz.prog 23 #[.agg #[Value.int .i64 r1, Value.int .i64 r2, Value.int .i64 r3, Value.int .i64 r4, Value.int .i64 r5, Value.int .i64 r6, Value.int .u64 r7, Value.int .i64 r8, Value.int .i64 r9, Value.int .i64 r10]] W fun en w' => en = .returned (.bool true) ∧ Below W.heap.size W w') :
 Calls Tryz.prog 26 #[.int .u32 a0] w fun e w' => e = .returned (.tuple #[.agg #[Value.int .i64 r1, Value.int .i64 r2, Value.int .i64 r3, Value.int .i64 r4, Value.int .i64 r5, Value.int .i64 r6, Value.int .u64 r7, Value.int .i64 r8, Value.int .i64 r9, Value.int .i64 r10], .int .i64 0]) ∧ Below w.heap.size w w' := by
 have hmf : ∀ (fn : Fn) (first cap : Array Value) (w : World), (Instr.makeFunc fn first cap).run Tryz.prog w = .ok (.func fn first cap) w := fun _ _ _ _ => rfl
 have HR := Azz.mk h
 have HI := Azz.mk h2
 clear h h2
 go_enter_defers Tryz.func26, Tryz.ntmps26
 go_wp2_with fail
 refine (HR.out _ (by repeat (first | exact Below.refl _ _ | apply bAA | apply bNN | apply bDD | (refine bSS ?_ (by first | omega | (simp; done) | (simp; omega)))))).mono ?_
 rintro e w1 ⟨rfl, hb⟩
 have hi : w1.heap[w.heap.size]? = some (.cells #[Value.int .i64 0, Value.int .i64 0, Value.int .i64 0, Value.int .i64 0, Value.int .i64 0, Value.int .i64 0, Value.int .u64 0, Value.int .i64 0, Value.int .i64 0, Value.int .i64 0] 40 (0, 0)) := kBB (kAA (blk_new w _) _) hb
 have he : w1.heap[w.heap.size + 1]? = some (.cells #[Value.int .i64 0] 25 (0, 0)) := kBB (by simpa using blk_new (w.alloc (Obj.cells #[Value.int .i64 0, Value.int .i64 0, Value.int .i64 0, Value.int .i64 0, Value.int .i64 0, Value.int .i64 0, Value.int .u64 0, Value.int .i64 0, Value.int .i64 0, Value.int .i64 0] 40)) (Obj.cells #[Value.int .i64 0] 25)) hb
 have hB : Below w.heap.size w w1 := bTT (by repeat (first | exact Below.refl _ _ | apply bAA | apply bNN | apply bDD | (refine bSS ?_ (by first | omega | (simp; done) | (simp; omega))))) hb
 clear hb
 have hc0 : w1.cell? ⟨w.heap.size, 0, none⟩ = some (Value.int .i64 0) := (kCC hi 0).trans rfl
 have hf0 : w1.frozen? ⟨w.heap.size, 0, none⟩ = false := kFF hi 0
 have hc1 : w1.cell? ⟨w.heap.size, 1, none⟩ = some (Value.int .i64 0) := (kCC hi 1).trans rfl
 have hf1 : w1.frozen? ⟨w.heap.size, 1, none⟩ = false := kFF hi 1
 have hc2 : w1.cell? ⟨w.heap.size, 2, none⟩ = some (Value.int .i64 0) := (kCC hi 2).trans rfl
 have hf2 : w1.frozen? ⟨w.heap.size, 2, none⟩ = false := kFF hi 2
 have hc3 : w1.cell? ⟨w.heap.size, 3, none⟩ = some (Value.int .i64 0) := (kCC hi 3).trans rfl
 have hf3 : w1.frozen? ⟨w.heap.size, 3, none⟩ = false := kFF hi 3
 have hc4 : w1.cell? ⟨w.heap.size, 4, none⟩ = some (Value.int .i64 0) := (kCC hi 4).trans rfl
 have hf4 : w1.frozen? ⟨w.heap.size, 4, none⟩ = false := kFF hi 4
 have hc5 : w1.cell? ⟨w.heap.size, 5, none⟩ = some (Value.int .i64 0) := (kCC hi 5).trans rfl
 have hf5 : w1.frozen? ⟨w.heap.size, 5, none⟩ = false := kFF hi 5
 have hc6 : w1.cell? ⟨w.heap.size, 6, none⟩ = some (Value.int .u64 0) := (kCC hi 6).trans rfl
 have hf6 : w1.frozen? ⟨w.heap.size, 6, none⟩ = false := kFF hi 6
 have hc7 : w1.cell? ⟨w.heap.size, 7, none⟩ = some (Value.int .i64 0) := (kCC hi 7).trans rfl
 have hf7 : w1.frozen? ⟨w.heap.size, 7, none⟩ = false := kFF hi 7
 have hc8 : w1.cell? ⟨w.heap.size, 8, none⟩ = some (Value.int .i64 0) := (kCC hi 8).trans rfl
 have hf8 : w1.frozen? ⟨w.heap.size, 8, none⟩ = false := kFF hi 8
 have hc9 : w1.cell? ⟨w.heap.size, 9, none⟩ = some (Value.int .i64 0) := (kCC hi 9).trans rfl
 have hf9 : w1.frozen? ⟨w.heap.size, 9, none⟩ = false := kFF hi 9
 have hce : w1.cell? ⟨w.heap.size + 1, 0, none⟩ = some (Value.int .i64 0) := (kCC he 0).trans rfl
 have hfe : w1.frozen? ⟨w.heap.size + 1, 0, none⟩ = false := kFF he 0
 have HBi := Azz.mk hi
 have HBe := Azz.mk he
 have HB := Azz.mk hB
 clear hi he hB
 go_wp2_with fail
 refine (HI.out _ ?gl).mono ?_
 case gl =>
  refine Below.setCell ?_ (p := ⟨w.heap.size, 9, none⟩) (Nat.le_refl _) _
  refine Below.setCell ?_ (p := ⟨w.heap.size, 8, none⟩) (Nat.le_refl _) _
  refine Below.setCell ?_ (p := ⟨w.heap.size, 7, none⟩) (Nat.le_refl _) _
  refine Below.setCell ?_ (p := ⟨w.heap.size, 6, none⟩) (Nat.le_refl _) _
  refine Below.setCell ?_ (p := ⟨w.heap.size, 5, none⟩) (Nat.le_refl _) _
  refine Below.setCell ?_ (p := ⟨w.heap.size, 4, none⟩) (Nat.le_refl _) _
  refine Below.setCell ?_ (p := ⟨w.heap.size, 3, none⟩) (Nat.le_refl _) _
  refine Below.setCell ?_ (p := ⟨w.heap.size, 2, none⟩) (Nat.le_refl _) _
  refine Below.setCell ?_ (p := ⟨w.heap.size, 1, none⟩) (Nat.le_refl _) _
  refine Below.setCell ?_ (p := ⟨w.heap.size, 0, none⟩) (Nat.le_refl _) _
  exact HB.out
 rintro e w3 ⟨rfl, hb⟩
 have hi : w3.heap[w.heap.size]? = some (.cells #[Value.int .i64 r1, Value.int .i64 r2, Value.int .i64 r3, Value.int .i64 r4, Value.int .i64 r5, Value.int .i64 r6, Value.int .u64 r7, Value.int .i64 r8, Value.int .i64 r9, Value.int .i64 r10] 40 (0, 0)) := by
  refine kBB ?_ hb
  refine blk_put (cs := #[Value.int .i64 r1, Value.int .i64 r2, Value.int .i64 r3, Value.int .i64 r4, Value.int .i64 r5, Value.int .i64 r6, Value.int .u64 r7, Value.int .i64 r8, Value.int .i64 r9, Value.int .i64 0]) ?_ 9 _ rfl
  refine blk_put (cs := #[Value.int .i64 r1, Value.int .i64 r2, Value.int .i64 r3, Value.int .i64 r4, Value.int .i64 r5, Value.int .i64 r6, Value.int .u64 r7, Value.int .i64 r8, Value.int .i64 0, Value.int .i64 0]) ?_ 8 _ rfl
  refine blk_put (cs := #[Value.int .i64 r1, Value.int .i64 r2, Value.int .i64 r3, Value.int .i64 r4, Value.int .i64 r5, Value.int .i64 r6, Value.int .u64 r7, Value.int .i64 0, Value.int .i64 0, Value.int .i64 0]) ?_ 7 _ rfl
  refine blk_put (cs := #[Value.int .i64 r1, Value.int .i64 r2, Value.int .i64 r3, Value.int .i64 r4, Value.int .i64 r5, Value.int .i64 r6, Value.int .u64 0, Value.int .i64 0, Value.int .i64 0, Value.int .i64 0]) ?_ 6 _ rfl
  refine blk_put (cs := #[Value.int .i64 r1, Value.int .i64 r2, Value.int .i64 r3, Value.int .i64 r4, Value.int .i64 r5, Value.int .i64 0, Value.int .u64 0, Value.int .i64 0, Value.int .i64 0, Value.int .i64 0]) ?_ 5 _ rfl
  refine blk_put (cs := #[Value.int .i64 r1, Value.int .i64 r2, Value.int .i64 r3, Value.int .i64 r4, Value.int .i64 0, Value.int .i64 0, Value.int .u64 0, Value.int .i64 0, Value.int .i64 0, Value.int .i64 0]) ?_ 4 _ rfl
  refine blk_put (cs := #[Value.int .i64 r1, Value.int .i64 r2, Value.int .i64 r3, Value.int .i64 0, Value.int .i64 0, Value.int .i64 0, Value.int .u64 0, Value.int .i64 0, Value.int .i64 0, Value.int .i64 0]) ?_ 3 _ rfl
  refine blk_put (cs := #[Value.int .i64 r1, Value.int .i64 r2, Value.int .i64 0, Value.int .i64 0, Value.int .i64 0, Value.int .i64 0, Value.int .u64 0, Value.int .i64 0, Value.int .i64 0, Value.int .i64 0]) ?_ 2 _ rfl
  refine blk_put (cs := #[Value.int .i64 r1, Value.int .i64 0, Value.int .i64 0, Value.int .i64 0, Value.int .i64 0, Value.int .i64 0, Value.int .u64 0, Value.int .i64 0, Value.int .i64 0, Value.int .i64 0]) ?_ 1 _ rfl
  refine blk_put (cs := #[Value.int .i64 0, Value.int .i64 0, Value.int .i64 0, Value.int .i64 0, Value.int .i64 0, Value.int .i64 0, Value.int .u64 0, Value.int .i64 0, Value.int .i64 0, Value.int .i64 0]) ?_ 0 _ rfl
  exact HBi.out
 have he : w3.heap[w.heap.size + 1]? = some (.cells #[Value.int .i64 0] 25 (0, 0)) := by
  refine kBB ?_ hb
  refine (Below.heap_setCell _ _ _ _ (by simp)).trans ?_
  refine (Below.heap_setCell _ _ _ _ (by simp)).trans ?_
  refine (Below.heap_setCell _ _ _ _ (by simp)).trans ?_
  refine (Below.heap_setCell _ _ _ _ (by simp)).trans ?_
  refine (Below.heap_setCell _ _ _ _ (by simp)).trans ?_
  refine (Below.heap_setCell _ _ _ _ (by simp)).trans ?_
  refine (Below.heap_setCell _ _ _ _ (by simp)).trans ?_
  refine (Below.heap_setCell _ _ _ _ (by simp)).trans ?_
  refine (Below.heap_setCell _ _ _ _ (by simp)).trans ?_
  refine (Below.heap_setCell _ _ _ _ (by simp)).trans ?_
  exact HBe.out
 have hB : Below w.heap.size w w3 := by
  refine bTT ?_ hb
  refine Below.setCell ?_ (p := ⟨w.heap.size, 9, none⟩) (Nat.le_refl _) _
  refine Below.setCell ?_ (p := ⟨w.heap.size, 8, none⟩) (Nat.le_refl _) _
  refine Below.setCell ?_ (p := ⟨w.heap.size, 7, none⟩) (Nat.le_refl _) _
  refine Below.setCell ?_ (p := ⟨w.heap.size, 6, none⟩) (Nat.le_refl _) _
  refine Below.setCell ?_ (p := ⟨w.heap.size, 5, none⟩) (Nat.le_refl _) _
  refine Below.setCell ?_ (p := ⟨w.heap.size, 4, none⟩) (Nat.le_refl _) _
  refine Below.setCell ?_ (p := ⟨w.heap.size, 3, none⟩) (Nat.le_refl _) _
  refine Below.setCell ?_ (p := ⟨w.heap.size, 2, none⟩) (Nat.le_refl _) _
  refine Below.setCell ?_ (p := ⟨w.heap.size, 1, none⟩) (Nat.le_refl _) _
  refine Below.setCell ?_ (p := ⟨w.heap.size, 0, none⟩) (Nat.le_refl _) _
  exact HB.out
 clear hb HB HBi HBe
 clear hc0 hf0 hc1 hf1 hc2 hf2 hc3 hf3 hc4 hf4 hc5 hf5 hc6 hf6 hc7 hf7 hc8 hf8 hc9 hf9 hce hfe
 have hc0 : w3.cell? ⟨w.heap.size, 0, none⟩ = some (Value.int .i64 r1) := (kCC hi 0).trans rfl
 have hf0 : w3.frozen? ⟨w.heap.size, 0, none⟩ = false := kFF hi 0
 have hc1 : w3.cell? ⟨w.heap.size, 1, none⟩ = some (Value.int .i64 r2) := (kCC hi 1).trans rfl
 have hf1 : w3.frozen? ⟨w.heap.size, 1, none⟩ = false := kFF hi 1
 have hc2 : w3.cell? ⟨w.heap.size, 2, none⟩ = some (Value.int .i64 r3) := (kCC hi 2).trans rfl
 have hf2 : w3.frozen? ⟨w.heap.size, 2, none⟩ = false := kFF hi 2
 have hc3 : w3.cell? ⟨w.heap.size, 3, none⟩ = some (Value.int .i64 r4) := (kCC hi 3).trans rfl
 have hf3 : w3.frozen? ⟨w.heap.size, 3, none⟩ = false := kFF hi 3
 have hc4 : w3.cell? ⟨w.heap.size, 4, none⟩ = some (Value.int .i64 r5) := (kCC hi 4).trans rfl
 have hf4 : w3.frozen? ⟨w.heap.size, 4, none⟩ = false := kFF hi 4
 have hc5 : w3.cell? ⟨w.heap.size, 5, none⟩ = some (Value.int .i64 r6) := (kCC hi 5).trans rfl
 have hf5 : w3.frozen? ⟨w.heap.size, 5, none⟩ = false := kFF hi 5
 have hc6 : w3.cell? ⟨w.heap.size, 6, none⟩ = some (Value.int .u64 r7) := (kCC hi 6).trans rfl
 have hf6 : w3.frozen? ⟨w.heap.size, 6, none⟩ = false := kFF hi 6
 have hc7 : w3.cell? ⟨w.heap.size, 7, none⟩ = some (Value.int .i64 r8) := (kCC hi 7).trans rfl
 have hf7 : w3.frozen? ⟨w.heap.size, 7, none⟩ = false := kFF hi 7
 have hc8 : w3.cell? ⟨w.heap.size, 8, none⟩ = some (Value.int .i64 r9) := (kCC hi 8).trans rfl
 have hf8 : w3.frozen? ⟨w.heap.size, 8, none⟩ = false := kFF hi 8
 have hc9 : w3.cell? ⟨w.heap.size, 9, none⟩ = some (Value.int .i64 r10) := (kCC hi 9).trans rfl
 have hf9 : w3.frozen? ⟨w.heap.size, 9, none⟩ = false := kFF hi 9
 have hce : w3.cell? ⟨w.heap.size + 1, 0, none⟩ = some (Value.int .i64 0) := (kCC he 0).trans rfl
 have hfe : w3.frozen? ⟨w.heap.size + 1, 0, none⟩ = false := kFF he 0
 have HBi := Azz.mk hi
 have HBe := Azz.mk he
 have HB := Azz.mk hB
 clear hi he hB
 go_wp2
 refine leaves_cons (f := 54) (args := #[.pointer (some ⟨w.heap.size, 0, none⟩), .pointer (some ⟨w.heap.size + 1, 0, none⟩)]) (by simp) (by simp [go_sem]) ?_
 refine (decode_idle _ _ _).mono ?_
 rintro e u' w4 ⟨rfl, rfl, rfl⟩
 simp [Leaves, settle, results, Tryz.results26, go_sem, hc0, hc1, hc2, hc3, hc4, hc5, hc6, hc7, hc8, hc9, hce]
 refine Below.setCell ?_ (p := ⟨w.heap.size + 1, 0, none⟩) (Nat.le_succ _) _
 refine Below.setCell ?_ (p := ⟨w.heap.size, 9, none⟩) (Nat.le_refl _) _
 refine Below.setCell ?_ (p := ⟨w.heap.size, 8, none⟩) (Nat.le_refl _) _
 refine Below.setCell ?_ (p := ⟨w.heap.size, 7, none⟩) (Nat.le_refl _) _
 refine Below.setCell ?_ (p := ⟨w.heap.size, 6, none⟩) (Nat.le_refl _) _
 refine Below.setCell ?_ (p := ⟨w.heap.size, 5, none⟩) (Nat.le_refl _) _
 refine Below.setCell ?_ (p := ⟨w.heap.size, 4, none⟩) (Nat.le_refl _) _
 refine Below.setCell ?_ (p := ⟨w.heap.size, 3, none⟩) (Nat.le_refl _) _
 refine Below.setCell ?_ (p := ⟨w.heap.size, 2, none⟩) (Nat.le_refl _) _
 refine Below.setCell ?_ (p := ⟨w.heap.size, 1, none⟩) (Nat.le_refl _) _
 refine Below.setCell ?_ (p := ⟨w.heap.size, 0, none⟩) (Nat.le_refl _) _
 exact HB.out
set_option maxHeartbeats 6400000 in
set_option maxRecDepth 100000 in
theorem code_Decode.bad (a0 r1 r2 r3 r4 r5 r6 r7 r8 r9 r10 : Int) (w : World)
 (h : ∀ W, Below w.heap.size w W → Calls Tryz.prog 55 #[.int .u32 a0] W fun en w' => en = .returned (.agg #[Value.int .i64 r1, Value.int .i64 r2, Value.int .i64 r3, Value.int .i64 r4, Value.int .i64 r5, Value.int .i64 r6, Value.int .u64 r7, Value.int .i64 r8, Value.int .i64 r9, Value.int .i64 r10]) ∧ Below W.heap.size W w')
 (h2 : ∀ W, Below w.heap.size w W → Calls Tryz.prog 23 #[.agg #[Value.int .i64 r1, Value.int .i64 r2, Value.int .i64 r3, Value.int .i64 r4, Value.int .i64 r5, Value.int .i64 r6, Value.int .u64 r7, Value.int .i64 r8, Value.int .i64 r9, Value.int .i64 r10]] W fun en w' => en = .returned (.bool false) ∧ Below W.heap.size W w') :
 Calls Tryz.prog 26 #[.int .u32 a0] w fun e w' => e = .returned (.tuple #[.agg #[Value.int .i64 0, Value.int .i64 0, Value.int .i64 0, Value.int .i64 0, Value.int .i64 0, Value.int .i64 0, Value.int .u64 0, Value.int .i64 0, Value.int .i64 0, Value.int .i64 0], .int .i64 11]) ∧ Below w.heap.size w w' := by
 have hmf : ∀ (fn : Fn) (first cap : Array Value) (w : World), (Instr.makeFunc fn first cap).run Tryz.prog w = .ok (.func fn first cap) w := fun _ _ _ _ => rfl
 have HR := Azz.mk h
 have HI := Azz.mk h2
 clear h h2
 go_enter_defers Tryz.func26, Tryz.ntmps26
 go_wp2_with fail
 refine (HR.out _ (by repeat (first | exact Below.refl _ _ | apply bAA | apply bNN | apply bDD | (refine bSS ?_ (by first | omega | (simp; done) | (simp; omega)))))).mono ?_
 rintro e w1 ⟨rfl, hb⟩
 have hi : w1.heap[w.heap.size]? = some (.cells #[Value.int .i64 0, Value.int .i64 0, Value.int .i64 0, Value.int .i64 0, Value.int .i64 0, Value.int .i64 0, Value.int .u64 0, Value.int .i64 0, Value.int .i64 0, Value.int .i64 0] 40 (0, 0)) := kBB (kAA (blk_new w _) _) hb
 have he : w1.heap[w.heap.size + 1]? = some (.cells #[Value.int .i64 0] 25 (0, 0)) := kBB (by simpa using blk_new (w.alloc (Obj.cells #[Value.int .i64 0, Value.int .i64 0, Value.int .i64 0, Value.int .i64 0, Value.int .i64 0, Value.int .i64 0, Value.int .u64 0, Value.int .i64 0, Value.int .i64 0, Value.int .i64 0] 40)) (Obj.cells #[Value.int .i64 0] 25)) hb
 have hB : Below w.heap.size w w1 := bTT (by repeat (first | exact Below.refl _ _ | apply bAA | apply bNN | apply bDD | (refine bSS ?_ (by first | omega | (simp; done) | (simp; omega))))) hb
 clear hb
 have hc0 : w1.cell? ⟨w.heap.size, 0, none⟩ = some (Value.int .i64 0) := (kCC hi 0).trans rfl
 have hf0 : w1.frozen? ⟨w.heap.size, 0, none⟩ = false := kFF hi 0
 have hc1 : w1.cell? ⟨w.heap.size, 1, none⟩ = some (Value.int .i64 0) := (kCC hi 1).trans rfl
 have hf1 : w1.frozen? ⟨w.heap.size, 1, none⟩ = false := kFF hi 1
 have hc2 : w1.cell? ⟨w.heap.size, 2, none⟩ = some (Value.int .i64 0) := (kCC hi 2).trans rfl
 have hf2 : w1.frozen? ⟨w.heap.size, 2, none⟩ = false := kFF hi 2
 have hc3 : w1.cell? ⟨w.heap.size, 3, none⟩ = some (Value.int .i64 0) := (kCC hi 3).trans rfl
 have hf3 : w1.frozen? ⟨w.heap.size, 3, none⟩ = false := kFF hi 3
 have hc4 : w1.cell? ⟨w.heap.size, 4, none⟩ = some (Value.int .i64 0) := (kCC hi 4).trans rfl
 have hf4 : w1.frozen? ⟨w.heap.size, 4, none⟩ = false := kFF hi 4
 have hc5 : w1.cell? ⟨w.heap.size, 5, none⟩ = some (Value.int .i64 0) := (kCC hi 5).trans rfl
 have hf5 : w1.frozen? ⟨w.heap.size, 5, none⟩ = false := kFF hi 5
 have hc6 : w1.cell? ⟨w.heap.size, 6, none⟩ = some (Value.int .u64 0) := (kCC hi 6).trans rfl
 have hf6 : w1.frozen? ⟨w.heap.size, 6, none⟩ = false := kFF hi 6
 have hc7 : w1.cell? ⟨w.heap.size, 7, none⟩ = some (Value.int .i64 0) := (kCC hi 7).trans rfl
 have hf7 : w1.frozen? ⟨w.heap.size, 7, none⟩ = false := kFF hi 7
 have hc8 : w1.cell? ⟨w.heap.size, 8, none⟩ = some (Value.int .i64 0) := (kCC hi 8).trans rfl
 have hf8 : w1.frozen? ⟨w.heap.size, 8, none⟩ = false := kFF hi 8
 have hc9 : w1.cell? ⟨w.heap.size, 9, none⟩ = some (Value.int .i64 0) := (kCC hi 9).trans rfl
 have hf9 : w1.frozen? ⟨w.heap.size, 9, none⟩ = false := kFF hi 9
 have hce : w1.cell? ⟨w.heap.size + 1, 0, none⟩ = some (Value.int .i64 0) := (kCC he 0).trans rfl
 have hfe : w1.frozen? ⟨w.heap.size + 1, 0, none⟩ = false := kFF he 0
 have HBi := Azz.mk hi
 have HBe := Azz.mk he
 have HB := Azz.mk hB
 clear hi he hB
 go_wp2_with fail
 refine (HI.out _ ?gl).mono ?_
 case gl =>
  refine Below.setCell ?_ (p := ⟨w.heap.size, 9, none⟩) (Nat.le_refl _) _
  refine Below.setCell ?_ (p := ⟨w.heap.size, 8, none⟩) (Nat.le_refl _) _
  refine Below.setCell ?_ (p := ⟨w.heap.size, 7, none⟩) (Nat.le_refl _) _
  refine Below.setCell ?_ (p := ⟨w.heap.size, 6, none⟩) (Nat.le_refl _) _
  refine Below.setCell ?_ (p := ⟨w.heap.size, 5, none⟩) (Nat.le_refl _) _
  refine Below.setCell ?_ (p := ⟨w.heap.size, 4, none⟩) (Nat.le_refl _) _
  refine Below.setCell ?_ (p := ⟨w.heap.size, 3, none⟩) (Nat.le_refl _) _
  refine Below.setCell ?_ (p := ⟨w.heap.size, 2, none⟩) (Nat.le_refl _) _
  refine Below.setCell ?_ (p := ⟨w.heap.size, 1, none⟩) (Nat.le_refl _) _
  refine Below.setCell ?_ (p := ⟨w.heap.size, 0, none⟩) (Nat.le_refl _) _
  exact HB.out
 rintro e w3 ⟨rfl, hb⟩
 have hi : w3.heap[w.heap.size]? = some (.cells #[Value.int .i64 r1, Value.int .i64 r2, Value.int .i64 r3, Value.int .i64 r4, Value.int .i64 r5, Value.int .i64 r6, Value.int .u64 r7, Value.int .i64 r8, Value.int .i64 r9, Value.int .i64 r10] 40 (0, 0)) := by
  refine kBB ?_ hb
  refine blk_put (cs := #[Value.int .i64 r1, Value.int .i64 r2, Value.int .i64 r3, Value.int .i64 r4, Value.int .i64 r5, Value.int .i64 r6, Value.int .u64 r7, Value.int .i64 r8, Value.int .i64 r9, Value.int .i64 0]) ?_ 9 _ rfl
  refine blk_put (cs := #[Value.int .i64 r1, Value.int .i64 r2, Value.int .i64 r3, Value.int .i64 r4, Value.int .i64 r5, Value.int .i64 r6, Value.int .u64 r7, Value.int .i64 r8, Value.int .i64 0, Value.int .i64 0]) ?_ 8 _ rfl
  refine blk_put (cs := #[Value.int .i64 r1, Value.int .i64 r2, Value.int .i64 r3, Value.int .i64 r4, Value.int .i64 r5, Value.int .i64 r6, Value.int .u64 r7, Value.int .i64 0, Value.int .i64 0, Value.int .i64 0]) ?_ 7 _ rfl
  refine blk_put (cs := #[Value.int .i64 r1, Value.int .i64 r2, Value.int .i64 r3, Value.int .i64 r4, Value.int .i64 r5, Value.int .i64 r6, Value.int .u64 0, Value.int .i64 0, Value.int .i64 0, Value.int .i64 0]) ?_ 6 _ rfl
  refine blk_put (cs := #[Value.int .i64 r1, Value.int .i64 r2, Value.int .i64 r3, Value.int .i64 r4, Value.int .i64 r5, Value.int .i64 0, Value.int .u64 0, Value.int .i64 0, Value.int .i64 0, Value.int .i64 0]) ?_ 5 _ rfl
  refine blk_put (cs := #[Value.int .i64 r1, Value.int .i64 r2, Value.int .i64 r3, Value.int .i64 r4, Value.int .i64 0, Value.int .i64 0, Value.int .u64 0, Value.int .i64 0, Value.int .i64 0, Value.int .i64 0]) ?_ 4 _ rfl
  refine blk_put (cs := #[Value.int .i64 r1, Value.int .i64 r2, Value.int .i64 r3, Value.int .i64 0, Value.int .i64 0, Value.int .i64 0, Value.int .u64 0, Value.int .i64 0, Value.int .i64 0, Value.int .i64 0]) ?_ 3 _ rfl
  refine blk_put (cs := #[Value.int .i64 r1, Value.int .i64 r2, Value.int .i64 0, Value.int .i64 0, Value.int .i64 0, Value.int .i64 0, Value.int .u64 0, Value.int .i64 0, Value.int .i64 0, Value.int .i64 0]) ?_ 2 _ rfl
  refine blk_put (cs := #[Value.int .i64 r1, Value.int .i64 0, Value.int .i64 0, Value.int .i64 0, Value.int .i64 0, Value.int .i64 0, Value.int .u64 0, Value.int .i64 0, Value.int .i64 0, Value.int .i64 0]) ?_ 1 _ rfl
  refine blk_put (cs := #[Value.int .i64 0, Value.int .i64 0, Value.int .i64 0, Value.int .i64 0, Value.int .i64 0, Value.int .i64 0, Value.int .u64 0, Value.int .i64 0, Value.int .i64 0, Value.int .i64 0]) ?_ 0 _ rfl
  exact HBi.out
 have he : w3.heap[w.heap.size + 1]? = some (.cells #[Value.int .i64 0] 25 (0, 0)) := by
  refine kBB ?_ hb
  refine (Below.heap_setCell _ _ _ _ (by simp)).trans ?_
  refine (Below.heap_setCell _ _ _ _ (by simp)).trans ?_
  refine (Below.heap_setCell _ _ _ _ (by simp)).trans ?_
  refine (Below.heap_setCell _ _ _ _ (by simp)).trans ?_
  refine (Below.heap_setCell _ _ _ _ (by simp)).trans ?_
  refine (Below.heap_setCell _ _ _ _ (by simp)).trans ?_
  refine (Below.heap_setCell _ _ _ _ (by simp)).trans ?_
  refine (Below.heap_setCell _ _ _ _ (by simp)).trans ?_
  refine (Below.heap_setCell _ _ _ _ (by simp)).trans ?_
  refine (Below.heap_setCell _ _ _ _ (by simp)).trans ?_
  exact HBe.out
 have hB : Below w.heap.size w w3 := by
  refine bTT ?_ hb
  refine Below.setCell ?_ (p := ⟨w.heap.size, 9, none⟩) (Nat.le_refl _) _
  refine Below.setCell ?_ (p := ⟨w.heap.size, 8, none⟩) (Nat.le_refl _) _
  refine Below.setCell ?_ (p := ⟨w.heap.size, 7, none⟩) (Nat.le_refl _) _
  refine Below.setCell ?_ (p := ⟨w.heap.size, 6, none⟩) (Nat.le_refl _) _
  refine Below.setCell ?_ (p := ⟨w.heap.size, 5, none⟩) (Nat.le_refl _) _
  refine Below.setCell ?_ (p := ⟨w.heap.size, 4, none⟩) (Nat.le_refl _) _
  refine Below.setCell ?_ (p := ⟨w.heap.size, 3, none⟩) (Nat.le_refl _) _
  refine Below.setCell ?_ (p := ⟨w.heap.size, 2, none⟩) (Nat.le_refl _) _
  refine Below.setCell ?_ (p := ⟨w.heap.size, 1, none⟩) (Nat.le_refl _) _
  refine Below.setCell ?_ (p := ⟨w.heap.size, 0, none⟩) (Nat.le_refl _) _
  exact HB.out
 clear hb HB HBi HBe
 clear hc0 hf0 hc1 hf1 hc2 hf2 hc3 hf3 hc4 hf4 hc5 hf5 hc6 hf6 hc7 hf7 hc8 hf8 hc9 hf9 hce hfe
 go_wp2
 refine leaves_cons (f := 54) (args := #[.pointer (some ⟨w.heap.size, 0, none⟩), .pointer (some ⟨w.heap.size + 1, 0, none⟩)]) (by simp) (by simp [go_sem]) ?_
 refine (decode_catch _ _ _ _ _ _ _ _ _ _ _ _ _ _ _ _ _ hi he (by omega)).mono ?_
 rintro e u' w2 ⟨rfl, rfl, hd⟩
 obtain ⟨hdi, hde, hdB⟩ := hd
 have hB2 : Below w.heap.size w w2 := hB.trans (hdB _ (Nat.le_refl _) (by omega))
 clear hB hdB hi he
 have hc0 : w2.cell? ⟨w.heap.size, 0, none⟩ = some (Value.int .i64 0) := (kCC hdi 0).trans rfl
 have hc1 : w2.cell? ⟨w.heap.size, 1, none⟩ = some (Value.int .i64 0) := (kCC hdi 1).trans rfl
 have hc2 : w2.cell? ⟨w.heap.size, 2, none⟩ = some (Value.int .i64 0) := (kCC hdi 2).trans rfl
 have hc3 : w2.cell? ⟨w.heap.size, 3, none⟩ = some (Value.int .i64 0) := (kCC hdi 3).trans rfl
 have hc4 : w2.cell? ⟨w.heap.size, 4, none⟩ = some (Value.int .i64 0) := (kCC hdi 4).trans rfl
 have hc5 : w2.cell? ⟨w.heap.size, 5, none⟩ = some (Value.int .i64 0) := (kCC hdi 5).trans rfl
 have hc6 : w2.cell? ⟨w.heap.size, 6, none⟩ = some (Value.int .u64 0) := (kCC hdi 6).trans rfl
 have hc7 : w2.cell? ⟨w.heap.size, 7, none⟩ = some (Value.int .i64 0) := (kCC hdi 7).trans rfl
 have hc8 : w2.cell? ⟨w.heap.size, 8, none⟩ = some (Value.int .i64 0) := (kCC hdi 8).trans rfl
 have hc9 : w2.cell? ⟨w.heap.size, 9, none⟩ = some (Value.int .i64 0) := (kCC hdi 9).trans rfl
 have hce : w2.cell? ⟨w.heap.size + 1, 0, none⟩ = some (Value.int .i64 11) := (kCC hde 0).trans rfl
 simp [Leaves, settle, results, Tryz.results26, go_sem, hc0, hc1, hc2, hc3, hc4, hc5, hc6, hc7, hc8, hc9, hce]
 exact hB2
/-- Does reading a word panic? (It has no operation, or no mask.) -/
def code_Decode.pan (k : Nat) (a0 s : Int) : Option Bool := if s = 0 then some true else if s = 3 then (mask_Decode.f k (fld a0 22 1) (fld a0 16 6) (fld a0 10 6)).bind fun m => some (!(m.2 == 0)) else some false
def code_Decode.f (k : Nat) (a0 : Int) : Option (Int × Int × Int × Int × Int × Int × Int × Int × Int × Int × Int) := (code_Opcode.f a0).bind fun op => (inst_Shape.f op).bind fun s => (code_Decode.pan k a0 s).bind fun p => if p = true then some (0, 0, 0, 0, 0, 0, 0, 0, 0, 0, 11) else (code_read.of k a0 op s).bind fun i => (inst_Is.f k i.1 i.2.1 i.2.2.1 i.2.2.2.1 i.2.2.2.2.1 i.2.2.2.2.2.1 i.2.2.2.2.2.2.1 i.2.2.2.2.2.2.2.1 i.2.2.2.2.2.2.2.2.1 i.2.2.2.2.2.2.2.2.2).bind fun b => if b = true then some (i.1, i.2.1, i.2.2.1, i.2.2.2.1, i.2.2.2.2.1, i.2.2.2.2.2.1, i.2.2.2.2.2.2.1, i.2.2.2.2.2.2.2.1, i.2.2.2.2.2.2.2.2.1, i.2.2.2.2.2.2.2.2.2, 0) else some (0, 0, 0, 0, 0, 0, 0, 0, 0, 0, 11)
theorem code_Decode.mono : ∀ a0 k, LeO (code_Decode.f k a0) (code_Decode.f (k + 1) a0) := by
 intro a0 k
 unfold code_Decode.f code_Decode.pan code_read.of
 repeat' first
  | (with_reducible exact code_masked.mono _ _)
  | (with_reducible exact mask_Decode.mono _ _ _ _)
  | (with_reducible exact inst_Is.mono _ _ _ _ _ _ _ _ _ _ _)
  | (with_reducible exact LeO.refl _)
  | (with_reducible refine LeO.ite ?_ ?_)
  | (with_reducible refine LeO.bind ?_ (fun _ => ?_))
set_option maxRecDepth 100000 in
theorem code_Decode.calls (k : Nat) (a0 : Int) (r1 : Int) (r2 : Int) (r3 : Int) (r4 : Int) (r5 : Int) (r6 : Int) (r7 : Int) (r8 : Int) (r9 : Int) (r10 : Int) (r11 : Int) (w : World) (hG : Glob w) (h : code_Decode.f k a0 = some (r1, r2, r3, r4, r5, r6, r7, r8, r9, r10, r11)) :
 Calls Tryz.prog 26 #[.int .u32 a0] w fun e w' => e = .returned (.tuple #[.agg #[Value.int .i64 r1, Value.int .i64 r2, Value.int .i64 r3, Value.int .i64 r4, Value.int .i64 r5, Value.int .i64 r6, Value.int .u64 r7, Value.int .i64 r8, Value.int .i64 r9, Value.int .i64 r10], .int .i64 r11]) ∧ Below w.heap.size w w' := by
 unfold code_Decode.f at h
 obtain ⟨op, h1, h⟩ := Option.bind_eq_some_iff.mp h
 obtain ⟨s, h2, h⟩ := Option.bind_eq_some_iff.mp h
 obtain ⟨p, h3, h⟩ := Option.bind_eq_some_iff.mp h
 cases p with
 | true =>
  rw [if_pos rfl] at h
  simp only [Option.some.injEq, Prod.mk.injEq] at h
  obtain ⟨rfl, rfl, rfl, rfl, rfl, rfl, rfl, rfl, rfl, rfl, rfl⟩ := h
  refine code_Decode.caught a0 w (fun W hb => code_read.panics k a0 op s W (hG.below hb) h1 h2 ?_)
  unfold code_Decode.pan at h3
  by_cases s0 : s = 0
  ·exact .inl s0
  ·rw [if_neg s0] at h3
   by_cases s3 : s = 3
   ·rw [if_pos s3] at h3
    obtain ⟨⟨v, e⟩, h4, h5⟩ := Option.bind_eq_some_iff.mp h3
    refine .inr ⟨s3, _, _, _, v, e, fld_eq a0 22 1 (by decide) (by decide) (by decide) (by decide), fld_eq a0 16 6 (by decide) (by decide) (by decide) (by decide), fld_eq a0 10 6 (by decide) (by decide) (by decide) (by decide), h4, ?_⟩
    intro he
    have h6 := Option.some.inj h5
    rw [show (((v, e) : Int × Int).2 == 0) = true from beq_iff_eq.mpr he] at h6
    exact absurd h6 (by decide)
   ·rw [if_neg s3] at h3
    exact absurd (Option.some.inj h3) (by decide)
 | false =>
  rw [if_neg (by decide)] at h
  obtain ⟨⟨s1, s2, s3, s4, s5, s6, s7, s8, s9, s10⟩, h4, h⟩ := Option.bind_eq_some_iff.mp h
  obtain ⟨b, h5, h⟩ := Option.bind_eq_some_iff.mp h
  have h6 : code_read.f k a0 = some (s1, s2, s3, s4, s5, s6, s7, s8, s9, s10) := by
   unfold code_read.f
   rw [h1]
   simp only [Option.bind_some]
   rw [h2]
   exact h4
  have hR := fun W (hb : Below w.heap.size w W) => code_read.calls k a0 _ _ _ _ _ _ _ _ _ _ W (hG.below hb) h6
  have hI := fun W (hb : Below w.heap.size w W) => inst_Is.calls k _ _ _ _ _ _ _ _ _ _ b W (hG.below hb) h5
  cases b with
  | true =>
   rw [if_pos rfl] at h
   simp only [Option.some.injEq, Prod.mk.injEq] at h
   obtain ⟨rfl, rfl, rfl, rfl, rfl, rfl, rfl, rfl, rfl, rfl, rfl⟩ := h
   exact code_Decode.good a0 _ _ _ _ _ _ _ _ _ _ w hR hI
  | false =>
   rw [if_neg (by decide)] at h
   simp only [Option.some.injEq, Prod.mk.injEq] at h
   obtain ⟨rfl, rfl, rfl, rfl, rfl, rfl, rfl, rfl, rfl, rfl, rfl⟩ := h
   exact code_Decode.bad a0 _ _ _ _ _ _ _ _ _ _ w hR hI
/-- What a word's instruction has: does it fit a kind? -/
def part_Fits.of (kind : Int) (i : Int × Int × Int × Int × Int × Int × Int × Int × Int × Int × Int) : Bool :=
 if i.2.2.2.2.2.2.2.2.2.2 = 0 then (if i.2.2.2.2.2.1 = 0 then (if i.2.2.2.2.2.2.2.2.1 = 0 then (if i.1 ≥ rd fittingL (2 * kind) then decide (i.1 ≤ rd fittingL (2 * kind + 1)) else false) else false) else false) else false
def part_Fits.f (k : Nat) (a0 a1 : Int) : Option Bool := if a0 < 0 then some false else (if a0 > 9 then some false else (code_Decode.f k a1).bind fun i => some (part_Fits.of a0 i))
theorem part_Fits.mono : ∀ a0 a1 k, LeO (part_Fits.f k a0 a1) (part_Fits.f (k + 1) a0 a1) := by
 intro a0 a1 k
 unfold part_Fits.f
 repeat' first
  | (with_reducible exact code_Decode.mono _ _)
  | (with_reducible exact LeO.refl _)
  | (with_reducible refine LeO.ite ?_ ?_)
  | (with_reducible refine LeO.bind ?_ (fun _ => ?_))
set_option maxHeartbeats 3200000 in
set_option maxRecDepth 100000 in
theorem part_Fits.calls (k : Nat) (a0 a1 : Int) (r : Bool) (w : World) (hG : Glob w) (h : part_Fits.f k a0 a1 = some r) :
 Calls Tryz.prog 16 #[.int .i64 a0, .int .u32 a1] w fun e w' => e = .returned (.bool r) ∧ Below w.heap.size w w' := by
 unfold part_Fits.f at h
 by_cases c1 : a0 < 0
 ·rw [if_pos c1] at h
  obtain rfl := Option.some.inj h
  have b1 : decide (a0 < 0) = true := decide_eq_true c1
  clear h
  go_enter Tryz.func16, Tryz.ntmps16
  go_wp2
  go_ret
  exact ⟨rfl, Below.refl _ _⟩
 rw [if_neg c1] at h
 have b1 : decide (a0 < 0) = false := decide_eq_false c1
 by_cases c2 : a0 > 9
 ·rw [if_pos c2] at h
  obtain rfl := Option.some.inj h
  have b2 : decide (9 < a0) = true := decide_eq_true c2
  clear h
  go_enter Tryz.func16, Tryz.ntmps16
  go_wp2
  go_ret
  exact ⟨rfl, Below.refl _ _⟩
 rw [if_neg c2] at h
 have b2 : decide (9 < a0) = false := decide_eq_false c2
 obtain ⟨⟨r1, r2, r3, r4, r5, r6, r7, r8, r9, r10, r11⟩, h1, h⟩ := Option.bind_eq_some_iff.mp h
 have hr := Option.some.inj h
 clear h
 simp only [part_Fits.of] at hr
 have HD := Azz.mk (fun W hG => code_Decode.calls k a1 r1 r2 r3 r4 r5 r6 r7 r8 r9 r10 r11 W hG h1)
 clear h1
 have HR := Azz.mk hr
 clear hr
 go_enter Tryz.func16, Tryz.ntmps16
 go_wp2_with fail
 refine (HD.out _ (hG.below (Below.refl _ _))).mono ?_
 rintro e w1 ⟨rfl, hb⟩
 have hG1 := hG.below hb
 have HB := Azz.mk hb
 clear hb
 have i0 : 0 ≤ a0 := by omega
 have i1 : a0 < 10 := by omega
 have hg0 : w1.cell? ⟨1, a0.toNat * 2, none⟩ = some (.int .i64 (rd fittingL (2 * a0))) := by
  have := hG1.fitting (a0.toNat * 2) (by omega)
  rw [this]; unfold rd; rw [show (2 * a0).toNat = a0.toNat * 2 by omega]
 have hg1 : w1.cell? ⟨1, a0.toNat * 2 + 1, none⟩ = some (.int .i64 (rd fittingL (2 * a0 + 1))) := by
  have := hG1.fitting (a0.toNat * 2 + 1) (by omega)
  rw [this]; unfold rd; rw [show (2 * a0 + 1).toNat = a0.toNat * 2 + 1 by omega]
 have hz : 1 < w1.heap.size := hG1.size.2.2.2
 obtain ⟨f0, hf0⟩ : ∃ f0, rd fittingL (2 * a0) = f0 := ⟨_, rfl⟩
 obtain ⟨f1, hf1⟩ : ∃ f1, rd fittingL (2 * a0 + 1) = f1 := ⟨_, rfl⟩
 rw [hf0] at hg0 HR
 rw [hf1] at hg1 HR
 clear hf0 hf1 c1 c2 hG hG1
 have hr := HR.out
 clear HR
 by_cases d1 : r11 = 0
 ·rw [if_pos d1] at hr
  have e1 : (r11 != 0) = false := bne_eq_false_iff_eq.mpr d1
  clear d1
  by_cases d2 : r6 = 0
  ·rw [if_pos d2] at hr
   have e2 : (r6 != 0) = false := bne_eq_false_iff_eq.mpr d2
   clear d2
   by_cases d3 : r9 = 0
   ·rw [if_pos d3] at hr
    have e3 : (r9 != 0) = false := bne_eq_false_iff_eq.mpr d3
    clear d3
    by_cases d4 : r1 ≥ f0
    ·rw [if_pos d4] at hr
     have e4 : decide (f0 ≤ r1) = true := decide_eq_true d4
     have HR := Azz.mk hr
     clear hr
     go_wp2
     repeat (go_quiet (fail); try go_wp2)
     go_ret
     have hv := HR.out
     subst hv
     exact ⟨rfl, by repeat (first | exact HB.out | apply bAA | apply bNN | apply bDD)⟩
    ·rw [if_neg d4] at hr
     have e4 : decide (f0 ≤ r1) = false := decide_eq_false d4
     have HR := Azz.mk hr
     clear hr
     go_wp2
     repeat (go_quiet (fail); try go_wp2)
     go_ret
     have hv := HR.out
     subst hv
     exact ⟨rfl, by repeat (first | exact HB.out | apply bAA | apply bNN | apply bDD)⟩
   ·rw [if_neg d3] at hr
    have e3 : (r9 != 0) = true := bne_iff_ne.mpr d3
    have HR := Azz.mk hr
    clear hr
    go_wp2
    go_ret
    have hv := HR.out
    subst hv
    exact ⟨rfl, by repeat (first | exact HB.out | apply bAA | apply bNN | apply bDD)⟩
  ·rw [if_neg d2] at hr
   have e2 : (r6 != 0) = true := bne_iff_ne.mpr d2
   have HR := Azz.mk hr
   clear hr
   go_wp2
   go_ret
   have hv := HR.out
   subst hv
   exact ⟨rfl, by repeat (first | exact HB.out | apply bAA | apply bNN | apply bDD)⟩
 ·rw [if_neg d1] at hr
  have e1 : (r11 != 0) = true := bne_iff_ne.mpr d1
  have HR := Azz.mk hr
  clear hr
  go_wp2
  go_ret
  have hv := HR.out
  subst hv
  exact ⟨rfl, by repeat (first | exact HB.out | apply bAA | apply bNN | apply bDD)⟩
/-- How often a byte is there (no more is told: substr is one byte). -/
def strings_Count.f (a0 : ByteArray) (a1 : ByteArray) : Option Int := match a1.data.toList with
 | [c] => some ((Go.Lib.countByte a0.data.toList c : Nat) : Int)
 | _ => none
theorem strings_Count.calls (a0 : ByteArray) (a1 : ByteArray) (r : Int) (w : World) (h : strings_Count.f a0 a1 = some r) :
 Calls Tryz.prog 27 #[.string a0, .string a1] w fun e w' => e = .returned (.int .i64 r) ∧ Drawn0 w w' := by
 unfold strings_Count.f at h
 split at h
 ·rename_i c hc
  obtain rfl := Option.some.inj h
  obtain rfl : a1 = ⟨#[c]⟩ := by
   cases a1
   rename_i d
   have : d = #[c] := by rw [← Array.toArray_toList (xs := d)]; exact congrArg List.toArray hc
   rw [this]
  refine (Tryz.strings_Count_one a0 c w).mono ?_
  rintro e w' ⟨rfl, rfl⟩
  exact ⟨rfl, Drawn0.refl _⟩
 ·exact absurd h (by simp)
end Go.Proofs.YtpcdebakiccecaaGreatDoor.P
