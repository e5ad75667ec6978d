/- Walks and plain laws of this claim, a part. -/
import Derived.Test.YtpcdebakiccecaaGreatDoorPs36
import Derived.Test.YtpcdebakiccecaaGreatDoorPs51
import Derived.Test.YtpcdebakiccecaaGreatDoorPs52
namespace Go.Proofs.YtpcdebakiccecaaGreatDoor.P
open Go.RowKit Go.Proofs.YtpcdebakiccecaaGreatDoorW.PrintWords Go.Proofs.YtpcdebakiccecaaGreatDoorW.PrintLast Go.Proofs.YtpcdebakiccecaaGreatDoorW.PrintMore
attribute [local go_sem] max2_int min2_int max_two min_two max_three min_three max_four min_four   -- for this text's walks alone
set_option linter.unusedVariables false
set_option linter.unusedSimpArgs false
def code_filled.T1 : Bool × List (List Nat × List Nat) := (true, [([], []), ([0], [0]), ([1], [1]), ([], []), ([3], [3]), ([4, 2], [4]), ([], []), ([6], [6]), ([7, 5], [7]), ([], []), ([], []), ([], []), ([9, 2, 8, 0, 1, 2, 9, 10, 11], [2, 9]), ([10, 5, 12, 0, 1, 2, 3, 4, 5, 9, 10, 11, 12], [5, 10]), ([11, 8, 13, 0, 1, 2, 3, 4, 5, 6, 7, 8, 9, 10, 11, 12, 13], [8, 11])])
def code_filled.B1 : List Nat := [0, 1, 3, 0, 8, 31, 0, 64, 255, 0, 0, 0, 4095, 8191, 16383]
theorem code_filled.tab1 : rtab .any (opsOf Tryz.f24 1) = code_filled.T1 := by kernel_rfl
theorem code_filled.bits1 : waitsOk code_filled.T1.2 code_filled.B1 = true := by kernel_rfl
def FilledAt (W wx : World) (a0_0 a0_1 a0_2 a0_3 a0_4 a0_5 a0_6 a0_7 a0_8 a0_9 : Int) (v3 v4 v5 : Value) (gb194 gb204 gb205 gb206 : Nat) : Prop :=
 v3 = .pointer (some ⟨gb204, 0, none⟩) ∧ v4 = .pointer (some ⟨gb205, 0, none⟩) ∧ v5 = .pointer (some ⟨gb206, 0, none⟩) ∧
 wx.heap[gb194]? = some (.cells #[.int .i64 a0_0, .int .i64 a0_1, .int .i64 a0_2, .int .i64 a0_3, .int .i64 a0_4, .int .i64 a0_5, .int .u64 a0_6, .int .i64 a0_7, .int .i64 a0_8, .int .i64 a0_9] 40 (0, 0)) ∧
 wx.heap[gb204]? = some (.cells #[.int .i64 0, .int .i64 5, .int .u32 (a0_1 % 4294967296)] 92 (0, 0)) ∧
 wx.heap[gb205]? = some (.cells #[.int .i64 5, .int .i64 5, .int .u32 (a0_2 % 4294967296)] 92 (0, 0)) ∧
 wx.heap[gb206]? = some (.cells #[.int .i64 16, .int .i64 5, .int .u32 (a0_3 % 4294967296)] 92 (0, 0)) ∧
 Below W.heap.size W wx
def fd (a n v : Int) : S92 := ⟨a, n, v % 4294967296⟩
def pk (v n : Int) : Int := ((bits_Pack.f 1 v n).getD (0, 0)).1
def pkd (a n v : Int) : S92 := ⟨a, n, pk v n⟩
def bfld (v a n : Int) : Int := ((bits_Field.f v a n).getD (0, 0)).1
def code_filled.of (k : Nat) (s : Int) (a0_0 : Int) (a0_1 : Int) (a0_2 : Int) (a0_3 : Int) (a0_4 : Int) (a0_5 : Int) (a0_6 : Int) (a0_7 : Int) (a0_8 : Int) (a0_9 : Int) : Option Int := if s = 1 then code_word.f k ([fd 0 5 a0_1, fd 5 16 a0_5, fd 21 2 (IntKind.i64.wrap (Int.tdiv a0_8 16))]) else (if s = 2 then code_word.f k ([fd 0 5 a0_1, fd 5 5 a0_2, fd 10 12 a0_5, fd 22 1 (IntKind.i64.wrap (Int.tdiv a0_8 12))]) else (if s = 3 then (mask_Encode.f k a0_6).bind fun e => code_word.f k ([fd 0 5 a0_1, fd 5 5 a0_2, fd 10 6 e.2.2.1, fd 16 6 e.2.1, fd 22 1 e.1]) else (if s = 4 then code_word.f k ([fd 0 5 a0_1, fd 5 5 a0_2, fd 10 6 a0_8, fd 16 5 a0_3, fd 22 2 a0_7]) else (if s = 5 then code_word.f k ([fd 0 5 a0_1, fd 5 5 a0_2, fd 10 6 a0_8, fd 16 5 a0_3, fd 22 2 a0_7]) else (if s = 6 then code_word.f k ([fd 0 5 a0_1, fd 5 5 a0_2, fd 10 5 a0_4, fd 16 5 a0_3]) else (if s = 7 then code_word.f k ([fd 0 5 a0_1, fd 5 5 a0_2, fd 10 12 (IntKind.i64.wrap (Int.tdiv a0_5 8))]) else (if s = 8 then code_word.f k ([fd 0 5 a0_1, fd 5 5 a0_2, fd 10 12 a0_5]) else (if s = 9 then code_word.f k ([fd 0 5 a0_1, pkd 5 19 (IntKind.i64.wrap (Int.tdiv a0_5 4))]) else (if s = 10 then code_word.f k ([fd 0 5 a0_1, fd 5 19 (IntKind.i64.wrap (bfld (pk a0_5 21) 2 19)), fd 29 2 (IntKind.i64.wrap (bfld (pk a0_5 21) 0 2))]) else (if s = 11 then code_word.f k ([pkd 0 26 (wrap64 (Int.tdiv a0_5 4))]) else (if s = 12 then code_word.f k ([fd 0 4 a0_9, pkd 5 19 (IntKind.i64.wrap (Int.tdiv a0_5 4))]) else (if s = 13 then code_word.f k ([fd 5 5 a0_2]) else (if s = 14 then code_word.f k ([fd 5 16 a0_5]) else (if s = 16 then code_word.f k ([fd 0 5 a0_1, fd 5 5 a0_2, fd 12 4 a0_9, fd 16 5 a0_3]) else (some 0)))))))))))))))
def code_filled.f (k : Nat) (a0_0 : Int) (a0_1 : Int) (a0_2 : Int) (a0_3 : Int) (a0_4 : Int) (a0_5 : Int) (a0_6 : Int) (a0_7 : Int) (a0_8 : Int) (a0_9 : Int) : Option Int := (inst_Shape.f a0_0).bind fun s => code_filled.of k s a0_0 a0_1 a0_2 a0_3 a0_4 a0_5 a0_6 a0_7 a0_8 a0_9
theorem code_filled.mono : ∀ a0 a1 a2 a3 a4 a5 a6 a7 a8 a9 k, LeO (code_filled.f k a0 a1 a2 a3 a4 a5 a6 a7 a8 a9) (code_filled.f (k + 1) a0 a1 a2 a3 a4 a5 a6 a7 a8 a9) := by
 intro a0 a1 a2 a3 a4 a5 a6 a7 a8 a9 k
 unfold code_filled.f code_filled.of
 repeat' first
  | (with_reducible exact code_word.mono _ _)
  | (with_reducible exact mask_Encode.mono _ _)
  | (with_reducible exact LeO.refl _)
  | (with_reducible refine LeO.ite ?_ ?_)
  | (with_reducible refine LeO.bind ?_ (fun _ => ?_))
theorem pack_eq (v n : Int) (h1 : 1 ≤ n) (h2 : n ≤ 32) : ∃ e, bits_Pack.f 1 v n = some (pk v n, e) := by
 have h : ∃ t e, bits_Pack.f 1 v n = some (t, e) := by
  unfold bits_Pack.f
  rw [if_neg (by omega), show decide (n > 32) = false from decide_eq_false (by omega)]
  simp only [bits_Pack.j0, Bool.false_eq_true, if_false]
  have hw : 0 ≤ wrap64 (n - 1) := by unfold wrap64; omega
  repeat' split
  all_goals first | exact ⟨_, _, rfl⟩ | omega
 obtain ⟨t, e, h⟩ := h
 exact ⟨e, by unfold pk; rw [h]; rfl⟩
theorem packed_eq (a v n : Int) (h1 : 1 ≤ n) (h2 : n ≤ 32) : code_packed.f 1 a n v = some (a, n, pk v n) := by
 obtain ⟨e, h⟩ := pack_eq v n h1 h2
 unfold code_packed.f
 rw [h]
 rfl
theorem bfld_eq (v a n : Int) (h0 : 0 ≤ a) (h1 : 1 ≤ n) (h2 : n ≤ 32) (h3 : a ≤ 32 - n) : ∃ e, bits_Field.f v a n = some (bfld v a n, e) := by
 obtain ⟨t, h⟩ := field_some v a n h0 h1 h2 h3
 exact ⟨0, by unfold bfld; rw [h]; rfl⟩
set_option maxRecDepth 100000 in
theorem word1 (k : Nat) (a0 b0 c0 : Int) (r : Int) (W : World) (h : code_word.f k ([⟨a0, b0, c0⟩] : List S92) = some r) :
 Calls Tryz.prog 48 #[.slice (some ⟨W.heap.size, 0, none⟩) 1 1] (W.alloc (.cells #[Value.int .i64 a0, Value.int .i64 b0, Value.int .u32 c0] 92)) fun e w' => e = .returned (.int .u32 r) ∧ Below (W.alloc (.cells #[Value.int .i64 a0, Value.int .i64 b0, Value.int .u32 c0] 92)).heap.size (W.alloc (.cells #[Value.int .i64 a0, Value.int .i64 b0, Value.int .u32 c0] 92)) w' := by
 have hr0 : Kd.C k92 (W.alloc (.cells #[Value.int .i64 a0, Value.int .i64 b0, Value.int .u32 c0] 92)) (some ⟨W.heap.size, 0, none⟩) 1 ([⟨a0, b0, c0⟩] : List S92) := by
  refine ⟨rfl, by decide, fun _ => ⟨_, rfl, fun j p hp => ?_⟩⟩
  have hb : (W.alloc (.cells #[Value.int .i64 a0, Value.int .i64 b0, Value.int .u32 c0] 92)).heap[W.heap.size]? = some (.cells #[Value.int .i64 a0, Value.int .i64 b0, Value.int .u32 c0] 92 (0, 0)) := blk_new W _
  have ea : ∀ m, (⟨W.heap.size, 0, none⟩ : Addr).add m = ⟨W.heap.size, m, none⟩ := fun m => by unfold Addr.add; split <;> simp_all
  match j, hp with
  | 0, hp => obtain rfl := Option.some.inj hp; exact ⟨_, rfl, k92_mk _ _, fun i u hu => by rw [ea]; refine (kCC hb _).trans ?_; match i, hu with | 0, hu => exact hu | 1, hu => exact hu | 2, hu => exact hu | i + 3, hu => exact absurd hu (by simp)⟩
  | j + 1, hp => exact absurd hp (by simp)
 exact code_word.calls k (some ⟨W.heap.size, 0, none⟩) 1 ([⟨a0, b0, c0⟩] : List S92) r (W.alloc (.cells #[Value.int .i64 a0, Value.int .i64 b0, Value.int .u32 c0] 92)) hr0 (Nat.le_refl _) h
set_option maxRecDepth 100000 in
theorem word2 (k : Nat) (a0 b0 c0 a1 b1 c1 : Int) (r : Int) (W : World) (h : code_word.f k ([⟨a0, b0, c0⟩, ⟨a1, b1, c1⟩] : List S92) = some r) :
 Calls Tryz.prog 48 #[.slice (some ⟨W.heap.size, 0, none⟩) 2 2] (W.alloc (.cells #[Value.int .i64 a0, Value.int .i64 b0, Value.int .u32 c0, Value.int .i64 a1, Value.int .i64 b1, Value.int .u32 c1] 92)) fun e w' => e = .returned (.int .u32 r) ∧ Below (W.alloc (.cells #[Value.int .i64 a0, Value.int .i64 b0, Value.int .u32 c0, Value.int .i64 a1, Value.int .i64 b1, Value.int .u32 c1] 92)).heap.size (W.alloc (.cells #[Value.int .i64 a0, Value.int .i64 b0, Value.int .u32 c0, Value.int .i64 a1, Value.int .i64 b1, Value.int .u32 c1] 92)) w' := by
 have hr0 : Kd.C k92 (W.alloc (.cells #[Value.int .i64 a0, Value.int .i64 b0, Value.int .u32 c0, Value.int .i64 a1, Value.int .i64 b1, Value.int .u32 c1] 92)) (some ⟨W.heap.size, 0, none⟩) 2 ([⟨a0, b0, c0⟩, ⟨a1, b1, c1⟩] : List S92) := by
  refine ⟨rfl, by decide, fun _ => ⟨_, rfl, fun j p hp => ?_⟩⟩
  have hb : (W.alloc (.cells #[Value.int .i64 a0, Value.int .i64 b0, Value.int .u32 c0, Value.int .i64 a1, Value.int .i64 b1, Value.int .u32 c1] 92)).heap[W.heap.size]? = some (.cells #[Value.int .i64 a0, Value.int .i64 b0, Value.int .u32 c0, Value.int .i64 a1, Value.int .i64 b1, Value.int .u32 c1] 92 (0, 0)) := blk_new W _
  have ea : ∀ m, (⟨W.heap.size, 0, none⟩ : Addr).add m = ⟨W.heap.size, m, none⟩ := fun m => by unfold Addr.add; split <;> simp_all
  match j, hp with
  | 0, hp => obtain rfl := Option.some.inj hp; exact ⟨_, rfl, k92_mk _ _, fun i u hu => by rw [ea]; refine (kCC hb _).trans ?_; match i, hu with | 0, hu => exact hu | 1, hu => exact hu | 2, hu => exact hu | i + 3, hu => exact absurd hu (by simp)⟩
  | 1, hp => obtain rfl := Option.some.inj hp; exact ⟨_, rfl, k92_mk _ _, fun i u hu => by rw [ea]; refine (kCC hb _).trans ?_; match i, hu with | 0, hu => exact hu | 1, hu => exact hu | 2, hu => exact hu | i + 3, hu => exact absurd hu (by simp)⟩
  | j + 2, hp => exact absurd hp (by simp)
 exact code_word.calls k (some ⟨W.heap.size, 0, none⟩) 2 ([⟨a0, b0, c0⟩, ⟨a1, b1, c1⟩] : List S92) r (W.alloc (.cells #[Value.int .i64 a0, Value.int .i64 b0, Value.int .u32 c0, Value.int .i64 a1, Value.int .i64 b1, Value.int .u32 c1] 92)) hr0 (Nat.le_refl _) h
set_option maxRecDepth 100000 in
theorem word3 (k : Nat) (a0 b0 c0 a1 b1 c1 a2 b2 c2 : Int) (r : Int) (W : World) (h : code_word.f k ([⟨a0, b0, c0⟩, ⟨a1, b1, c1⟩, ⟨a2, b2, c2⟩] : List S92) = some r) :
 Calls Tryz.prog 48 #[.slice (some ⟨W.heap.size, 0, none⟩) 3 3] (W.alloc (.cells #[Value.int .i64 a0, Value.int .i64 b0, Value.int .u32 c0, Value.int .i64 a1, Value.int .i64 b1, Value.int .u32 c1, Value.int .i64 a2, Value.int .i64 b2, Value.int .u32 c2] 92)) fun e w' => e = .returned (.int .u32 r) ∧ Below (W.alloc (.cells #[Value.int .i64 a0, Value.int .i64 b0, Value.int .u32 c0, Value.int .i64 a1, Value.int .i64 b1, Value.int .u32 c1, Value.int .i64 a2, Value.int .i64 b2, Value.int .u32 c2] 92)).heap.size (W.alloc (.cells #[Value.int .i64 a0, Value.int .i64 b0, Value.int .u32 c0, Value.int .i64 a1, Value.int .i64 b1, Value.int .u32 c1, Value.int .i64 a2, Value.int .i64 b2, Value.int .u32 c2] 92)) w' := by
 have hr0 : Kd.C k92 (W.alloc (.cells #[Value.int .i64 a0, Value.int .i64 b0, Value.int .u32 c0, Value.int .i64 a1, Value.int .i64 b1, Value.int .u32 c1, Value.int .i64 a2, Value.int .i64 b2, Value.int .u32 c2] 92)) (some ⟨W.heap.size, 0, none⟩) 3 ([⟨a0, b0, c0⟩, ⟨a1, b1, c1⟩, ⟨a2, b2, c2⟩] : List S92) := by
  refine ⟨rfl, by decide, fun _ => ⟨_, rfl, fun j p hp => ?_⟩⟩
  have hb : (W.alloc (.cells #[Value.int .i64 a0, Value.int .i64 b0, Value.int .u32 c0, Value.int .i64 a1, Value.int .i64 b1, Value.int .u32 c1, Value.int .i64 a2, Value.int .i64 b2, Value.int .u32 c2] 92)).heap[W.heap.size]? = some (.cells #[Value.int .i64 a0, Value.int .i64 b0, Value.int .u32 c0, Value.int .i64 a1, Value.int .i64 b1, Value.int .u32 c1, Value.int .i64 a2, Value.int .i64 b2, Value.int .u32 c2] 92 (0, 0)) := blk_new W _
  have ea : ∀ m, (⟨W.heap.size, 0, none⟩ : Addr).add m = ⟨W.heap.size, m, none⟩ := fun m => by unfold Addr.add; split <;> simp_all
  match j, hp with
  | 0, hp => obtain rfl := Option.some.inj hp; exact ⟨_, rfl, k92_mk _ _, fun i u hu => by rw [ea]; refine (kCC hb _).trans ?_; match i, hu with | 0, hu => exact hu | 1, hu => exact hu | 2, hu => exact hu | i + 3, hu => exact absurd hu (by simp)⟩
  | 1, hp => obtain rfl := Option.some.inj hp; exact ⟨_, rfl, k92_mk _ _, fun i u hu => by rw [ea]; refine (kCC hb _).trans ?_; match i, hu with | 0, hu => exact hu | 1, hu => exact hu | 2, hu => exact hu | i + 3, hu => exact absurd hu (by simp)⟩
  | 2, hp => obtain rfl := Option.some.inj hp; exact ⟨_, rfl, k92_mk _ _, fun i u hu => by rw [ea]; refine (kCC hb _).trans ?_; match i, hu with | 0, hu => exact hu | 1, hu => exact hu | 2, hu => exact hu | i + 3, hu => exact absurd hu (by simp)⟩
  | j + 3, hp => exact absurd hp (by simp)
 exact code_word.calls k (some ⟨W.heap.size, 0, none⟩) 3 ([⟨a0, b0, c0⟩, ⟨a1, b1, c1⟩, ⟨a2, b2, c2⟩] : List S92) r (W.alloc (.cells #[Value.int .i64 a0, Value.int .i64 b0, Value.int .u32 c0, Value.int .i64 a1, Value.int .i64 b1, Value.int .u32 c1, Value.int .i64 a2, Value.int .i64 b2, Value.int .u32 c2] 92)) hr0 (Nat.le_refl _) h
set_option maxRecDepth 100000 in
theorem word4 (k : Nat) (a0 b0 c0 a1 b1 c1 a2 b2 c2 a3 b3 c3 : Int) (r : Int) (W : World) (h : code_word.f k ([⟨a0, b0, c0⟩, ⟨a1, b1, c1⟩, ⟨a2, b2, c2⟩, ⟨a3, b3, c3⟩] : List S92) = some r) :
 Calls Tryz.prog 48 #[.slice (some ⟨W.heap.size, 0, none⟩) 4 4] (W.alloc (.cells #[Value.int .i64 a0, Value.int .i64 b0, Value.int .u32 c0, Value.int .i64 a1, Value.int .i64 b1, Value.int .u32 c1, Value.int .i64 a2, Value.int .i64 b2, Value.int .u32 c2, Value.int .i64 a3, Value.int .i64 b3, Value.int .u32 c3] 92)) fun e w' => e = .returned (.int .u32 r) ∧ Below (W.alloc (.cells #[Value.int .i64 a0, Value.int .i64 b0, Value.int .u32 c0, Value.int .i64 a1, Value.int .i64 b1, Value.int .u32 c1, Value.int .i64 a2, Value.int .i64 b2, Value.int .u32 c2, Value.int .i64 a3, Value.int .i64 b3, Value.int .u32 c3] 92)).heap.size (W.alloc (.cells #[Value.int .i64 a0, Value.int .i64 b0, Value.int .u32 c0, Value.int .i64 a1, Value.int .i64 b1, Value.int .u32 c1, Value.int .i64 a2, Value.int .i64 b2, Value.int .u32 c2, Value.int .i64 a3, Value.int .i64 b3, Value.int .u32 c3] 92)) w' := by
 have hr0 : Kd.C k92 (W.alloc (.cells #[Value.int .i64 a0, Value.int .i64 b0, Value.int .u32 c0, Value.int .i64 a1, Value.int .i64 b1, Value.int .u32 c1, Value.int .i64 a2, Value.int .i64 b2, Value.int .u32 c2, Value.int .i64 a3, Value.int .i64 b3, Value.int .u32 c3] 92)) (some ⟨W.heap.size, 0, none⟩) 4 ([⟨a0, b0, c0⟩, ⟨a1, b1, c1⟩, ⟨a2, b2, c2⟩, ⟨a3, b3, c3⟩] : List S92) := by
  refine ⟨rfl, by decide, fun _ => ⟨_, rfl, fun j p hp => ?_⟩⟩
  have hb : (W.alloc (.cells #[Value.int .i64 a0, Value.int .i64 b0, Value.int .u32 c0, Value.int .i64 a1, Value.int .i64 b1, Value.int .u32 c1, Value.int .i64 a2, Value.int .i64 b2, Value.int .u32 c2, Value.int .i64 a3, Value.int .i64 b3, Value.int .u32 c3] 92)).heap[W.heap.size]? = some (.cells #[Value.int .i64 a0, Value.int .i64 b0, Value.int .u32 c0, Value.int .i64 a1, Value.int .i64 b1, Value.int .u32 c1, Value.int .i64 a2, Value.int .i64 b2, Value.int .u32 c2, Value.int .i64 a3, Value.int .i64 b3, Value.int .u32 c3] 92 (0, 0)) := blk_new W _
  have ea : ∀ m, (⟨W.heap.size, 0, none⟩ : Addr).add m = ⟨W.heap.size, m, none⟩ := fun m => by unfold Addr.add; split <;> simp_all
  match j, hp with
  | 0, hp => obtain rfl := Option.some.inj hp; exact ⟨_, rfl, k92_mk _ _, fun i u hu => by rw [ea]; refine (kCC hb _).trans ?_; match i, hu with | 0, hu => exact hu | 1, hu => exact hu | 2, hu => exact hu | i + 3, hu => exact absurd hu (by simp)⟩
  | 1, hp => obtain rfl := Option.some.inj hp; exact ⟨_, rfl, k92_mk _ _, fun i u hu => by rw [ea]; refine (kCC hb _).trans ?_; match i, hu with | 0, hu => exact hu | 1, hu => exact hu | 2, hu => exact hu | i + 3, hu => exact absurd hu (by simp)⟩
  | 2, hp => obtain rfl := Option.some.inj hp; exact ⟨_, rfl, k92_mk _ _, fun i u hu => by rw [ea]; refine (kCC hb _).trans ?_; match i, hu with | 0, hu => exact hu | 1, hu => exact hu | 2, hu => exact hu | i + 3, hu => exact absurd hu (by simp)⟩
  | 3, hp => obtain rfl := Option.some.inj hp; exact ⟨_, rfl, k92_mk _ _, fun i u hu => by rw [ea]; refine (kCC hb _).trans ?_; match i, hu with | 0, hu => exact hu | 1, hu => exact hu | 2, hu => exact hu | i + 3, hu => exact absurd hu (by simp)⟩
  | j + 4, hp => exact absurd hp (by simp)
 exact code_word.calls k (some ⟨W.heap.size, 0, none⟩) 4 ([⟨a0, b0, c0⟩, ⟨a1, b1, c1⟩, ⟨a2, b2, c2⟩, ⟨a3, b3, c3⟩] : List S92) r (W.alloc (.cells #[Value.int .i64 a0, Value.int .i64 b0, Value.int .u32 c0, Value.int .i64 a1, Value.int .i64 b1, Value.int .u32 c1, Value.int .i64 a2, Value.int .i64 b2, Value.int .u32 c2, Value.int .i64 a3, Value.int .i64 b3, Value.int .u32 c3] 92)) hr0 (Nat.le_refl _) h
set_option maxRecDepth 100000 in
theorem word5 (k : Nat) (a0 b0 c0 a1 b1 c1 a2 b2 c2 a3 b3 c3 a4 b4 c4 : Int) (r : Int) (W : World) (h : code_word.f k ([⟨a0, b0, c0⟩, ⟨a1, b1, c1⟩, ⟨a2, b2, c2⟩, ⟨a3, b3, c3⟩, ⟨a4, b4, c4⟩] : List S92) = some r) :
 Calls Tryz.prog 48 #[.slice (some ⟨W.heap.size, 0, none⟩) 5 5] (W.alloc (.cells #[Value.int .i64 a0, Value.int .i64 b0, Value.int .u32 c0, Value.int .i64 a1, Value.int .i64 b1, Value.int .u32 c1, Value.int .i64 a2, Value.int .i64 b2, Value.int .u32 c2, Value.int .i64 a3, Value.int .i64 b3, Value.int .u32 c3, Value.int .i64 a4, Value.int .i64 b4, Value.int .u32 c4] 92)) fun e w' => e = .returned (.int .u32 r) ∧ Below (W.alloc (.cells #[Value.int .i64 a0, Value.int .i64 b0, Value.int .u32 c0, Value.int .i64 a1, Value.int .i64 b1, Value.int .u32 c1, Value.int .i64 a2, Value.int .i64 b2, Value.int .u32 c2, Value.int .i64 a3, Value.int .i64 b3, Value.int .u32 c3, Value.int .i64 a4, Value.int .i64 b4, Value.int .u32 c4] 92)).heap.size (W.alloc (.cells #[Value.int .i64 a0, Value.int .i64 b0, Value.int .u32 c0, Value.int .i64 a1, Value.int .i64 b1, Value.int .u32 c1, Value.int .i64 a2, Value.int .i64 b2, Value.int .u32 c2, Value.int .i64 a3, Value.int .i64 b3, Value.int .u32 c3, Value.int .i64 a4, Value.int .i64 b4, Value.int .u32 c4] 92)) w' := by
 have hr0 : Kd.C k92 (W.alloc (.cells #[Value.int .i64 a0, Value.int .i64 b0, Value.int .u32 c0, Value.int .i64 a1, Value.int .i64 b1, Value.int .u32 c1, Value.int .i64 a2, Value.int .i64 b2, Value.int .u32 c2, Value.int .i64 a3, Value.int .i64 b3, Value.int .u32 c3, Value.int .i64 a4, Value.int .i64 b4, Value.int .u32 c4] 92)) (some ⟨W.heap.size, 0, none⟩) 5 ([⟨a0, b0, c0⟩, ⟨a1, b1, c1⟩, ⟨a2, b2, c2⟩, ⟨a3, b3, c3⟩, ⟨a4, b4, c4⟩] : List S92) := by
  refine ⟨rfl, by decide, fun _ => ⟨_, rfl, fun j p hp => ?_⟩⟩
  have hb : (W.alloc (.cells #[Value.int .i64 a0, Value.int .i64 b0, Value.int .u32 c0, Value.int .i64 a1, Value.int .i64 b1, Value.int .u32 c1, Value.int .i64 a2, Value.int .i64 b2, Value.int .u32 c2, Value.int .i64 a3, Value.int .i64 b3, Value.int .u32 c3, Value.int .i64 a4, Value.int .i64 b4, Value.int .u32 c4] 92)).heap[W.heap.size]? = some (.cells #[Value.int .i64 a0, Value.int .i64 b0, Value.int .u32 c0, Value.int .i64 a1, Value.int .i64 b1, Value.int .u32 c1, Value.int .i64 a2, Value.int .i64 b2, Value.int .u32 c2, Value.int .i64 a3, Value.int .i64 b3, Value.int .u32 c3, Value.int .i64 a4, Value.int .i64 b4, Value.int .u32 c4] 92 (0, 0)) := blk_new W _
  have ea : ∀ m, (⟨W.heap.size, 0, none⟩ : Addr).add m = ⟨W.heap.size, m, none⟩ := fun m => by unfold Addr.add; split <;> simp_all
  match j, hp with
  | 0, hp => obtain rfl := Option.some.inj hp; exact ⟨_, rfl, k92_mk _ _, fun i u hu => by rw [ea]; refine (kCC hb _).trans ?_; match i, hu with | 0, hu => exact hu | 1, hu => exact hu | 2, hu => exact hu | i + 3, hu => exact absurd hu (by simp)⟩
  | 1, hp => obtain rfl := Option.some.inj hp; exact ⟨_, rfl, k92_mk _ _, fun i u hu => by rw [ea]; refine (kCC hb _).trans ?_; match i, hu with | 0, hu => exact hu | 1, hu => exact hu | 2, hu => exact hu | i + 3, hu => exact absurd hu (by simp)⟩
  | 2, hp => obtain rfl := Option.some.inj hp; exact ⟨_, rfl, k92_mk _ _, fun i u hu => by rw [ea]; refine (kCC hb _).trans ?_; match i, hu with | 0, hu => exact hu | 1, hu => exact hu | 2, hu => exact hu | i + 3, hu => exact absurd hu (by simp)⟩
  | 3, hp => obtain rfl := Option.some.inj hp; exact ⟨_, rfl, k92_mk _ _, fun i u hu => by rw [ea]; refine (kCC hb _).trans ?_; match i, hu with | 0, hu => exact hu | 1, hu => exact hu | 2, hu => exact hu | i + 3, hu => exact absurd hu (by simp)⟩
  | 4, hp => obtain rfl := Option.some.inj hp; exact ⟨_, rfl, k92_mk _ _, fun i u hu => by rw [ea]; refine (kCC hb _).trans ?_; match i, hu with | 0, hu => exact hu | 1, hu => exact hu | 2, hu => exact hu | i + 3, hu => exact absurd hu (by simp)⟩
  | j + 5, hp => exact absurd hp (by simp)
 exact code_word.calls k (some ⟨W.heap.size, 0, none⟩) 5 ([⟨a0, b0, c0⟩, ⟨a1, b1, c1⟩, ⟨a2, b2, c2⟩, ⟨a3, b3, c3⟩, ⟨a4, b4, c4⟩] : List S92) r (W.alloc (.cells #[Value.int .i64 a0, Value.int .i64 b0, Value.int .u32 c0, Value.int .i64 a1, Value.int .i64 b1, Value.int .u32 c1, Value.int .i64 a2, Value.int .i64 b2, Value.int .u32 c2, Value.int .i64 a3, Value.int .i64 b3, Value.int .u32 c3, Value.int .i64 a4, Value.int .i64 b4, Value.int .u32 c4] 92)) hr0 (Nat.le_refl _) h
theorem keep_cell {W w2 : World} {a : Addr} {v : Value} (h : W.cell? a = some v) (hb : Below W.heap.size W w2) : w2.cell? a = some v := (hb.cell (World.block_lt_of_cell? W a h)).trans h
theorem keep_all {gb194 gb204 gb205 gb206 : Nat} {a0_0 a0_1 a0_2 a0_3 a0_4 a0_5 a0_6 a0_7 a0_8 a0_9 : Int} {W w2 : World} (h : W.cell? ⟨gb194, 0, none⟩ = some (Value.int .i64 a0_0) ∧ W.cell? ⟨gb194, 1, none⟩ = some (Value.int .i64 a0_1) ∧ W.cell? ⟨gb194, 2, none⟩ = some (Value.int .i64 a0_2) ∧ W.cell? ⟨gb194, 3, none⟩ = some (Value.int .i64 a0_3) ∧ W.cell? ⟨gb194, 4, none⟩ = some (Value.int .i64 a0_4) ∧ W.cell? ⟨gb194, 5, none⟩ = some (Value.int .i64 a0_5) ∧ W.cell? ⟨gb194, 6, none⟩ = some (Value.int .u64 a0_6) ∧ W.cell? ⟨gb194, 7, none⟩ = some (Value.int .i64 a0_7) ∧ W.cell? ⟨gb194, 8, none⟩ = some (Value.int .i64 a0_8) ∧ W.cell? ⟨gb194, 9, none⟩ = some (Value.int .i64 a0_9) ∧ W.cell? ⟨gb204, 0, none⟩ = some (Value.int .i64 0) ∧ W.cell? ⟨gb204, 1, none⟩ = some (Value.int .i64 5) ∧ W.cell? ⟨gb204, 2, none⟩ = some (Value.int .u32 (a0_1 % 4294967296)) ∧ W.cell? ⟨gb205, 0, none⟩ = some (Value.int .i64 5) ∧ W.cell? ⟨gb205, 1, none⟩ = some (Value.int .i64 5) ∧ W.cell? ⟨gb205, 2, none⟩ = some (Value.int .u32 (a0_2 % 4294967296)) ∧ W.cell? ⟨gb206, 0, none⟩ = some (Value.int .i64 16) ∧ W.cell? ⟨gb206, 1, none⟩ = some (Value.int .i64 5) ∧ W.cell? ⟨gb206, 2, none⟩ = some (Value.int .u32 (a0_3 % 4294967296))) (hb : Below W.heap.size W w2) : w2.cell? ⟨gb194, 0, none⟩ = some (Value.int .i64 a0_0) ∧ w2.cell? ⟨gb194, 1, none⟩ = some (Value.int .i64 a0_1) ∧ w2.cell? ⟨gb194, 2, none⟩ = some (Value.int .i64 a0_2) ∧ w2.cell? ⟨gb194, 3, none⟩ = some (Value.int .i64 a0_3) ∧ w2.cell? ⟨gb194, 4, none⟩ = some (Value.int .i64 a0_4) ∧ w2.cell? ⟨gb194, 5, none⟩ = some (Value.int .i64 a0_5) ∧ w2.cell? ⟨gb194, 6, none⟩ = some (Value.int .u64 a0_6) ∧ w2.cell? ⟨gb194, 7, none⟩ = some (Value.int .i64 a0_7) ∧ w2.cell? ⟨gb194, 8, none⟩ = some (Value.int .i64 a0_8) ∧ w2.cell? ⟨gb194, 9, none⟩ = some (Value.int .i64 a0_9) ∧ w2.cell? ⟨gb204, 0, none⟩ = some (Value.int .i64 0) ∧ w2.cell? ⟨gb204, 1, none⟩ = some (Value.int .i64 5) ∧ w2.cell? ⟨gb204, 2, none⟩ = some (Value.int .u32 (a0_1 % 4294967296)) ∧ w2.cell? ⟨gb205, 0, none⟩ = some (Value.int .i64 5) ∧ w2.cell? ⟨gb205, 1, none⟩ = some (Value.int .i64 5) ∧ w2.cell? ⟨gb205, 2, none⟩ = some (Value.int .u32 (a0_2 % 4294967296)) ∧ w2.cell? ⟨gb206, 0, none⟩ = some (Value.int .i64 16) ∧ w2.cell? ⟨gb206, 1, none⟩ = some (Value.int .i64 5) ∧ w2.cell? ⟨gb206, 2, none⟩ = some (Value.int .u32 (a0_3 % 4294967296)) := by
 obtain ⟨h0, h1, h2, h3, h4, h5, h6, h7, h8, h9, h10, h11, h12, h13, h14, h15, h16, h17, h18⟩ := h
 exact ⟨keep_cell h0 hb, keep_cell h1 hb, keep_cell h2 hb, keep_cell h3 hb, keep_cell h4 hb, keep_cell h5 hb, keep_cell h6 hb, keep_cell h7 hb, keep_cell h8 hb, keep_cell h9 hb, keep_cell h10 hb, keep_cell h11 hb, keep_cell h12 hb, keep_cell h13 hb, keep_cell h14 hb, keep_cell h15 hb, keep_cell h16 hb, keep_cell h17 hb, keep_cell h18 hb⟩
set_option maxHeartbeats 8000000 in
set_option maxRecDepth 100000 in
theorem code_filled.calls (k : Nat) (a0_0 : Int) (a0_1 : Int) (a0_2 : Int) (a0_3 : Int) (a0_4 : Int) (a0_5 : Int) (a0_6 : Int) (a0_7 : Int) (a0_8 : Int) (a0_9 : Int) (r : Int) (w : World) (hG : Glob w) (h : code_filled.f k a0_0 a0_1 a0_2 a0_3 a0_4 a0_5 a0_6 a0_7 a0_8 a0_9 = some r) :
 Calls Tryz.prog 24 #[.agg #[.int .i64 a0_0, .int .i64 a0_1, .int .i64 a0_2, .int .i64 a0_3, .int .i64 a0_4, .int .i64 a0_5, .int .u64 a0_6, .int .i64 a0_7, .int .i64 a0_8, .int .i64 a0_9]] w fun e w' => e = .returned (.int .u32 r) ∧ Below w.heap.size w w' := by
 have HB := Azz.mk (Below.refl w.heap.size w)
 have HH := Azz.mk h
 clear h
 obtain ⟨t195, e195⟩ : ∃ x : Int, x = 0 := ⟨_, rfl⟩
 obtain ⟨t196, e196⟩ : ∃ x : Int, x = 5 := ⟨_, rfl⟩
 obtain ⟨t197, e197⟩ : ∃ x : Int, x = a0_1 % 4294967296 := ⟨_, rfl⟩
 obtain ⟨t198, e198⟩ : ∃ x : Int, x = 5 := ⟨_, rfl⟩
 obtain ⟨t199, e199⟩ : ∃ x : Int, x = 5 := ⟨_, rfl⟩
 obtain ⟨t200, e200⟩ : ∃ x : Int, x = a0_2 % 4294967296 := ⟨_, rfl⟩
 obtain ⟨t201, e201⟩ : ∃ x : Int, x = 16 := ⟨_, rfl⟩
 obtain ⟨t202, e202⟩ : ∃ x : Int, x = 5 := ⟨_, rfl⟩
 obtain ⟨t203, e203⟩ : ∃ x : Int, x = a0_3 % 4294967296 := ⟨_, rfl⟩
 have A2 : Azz (code_field.f 0 5 a0_1 = some (t195, t196, t197)) := ⟨by rw [e195, e196, e197]; rfl⟩
 have A3 : Azz (code_field.f 5 5 a0_2 = some (t198, t199, t200)) := ⟨by rw [e198, e199, e200]; rfl⟩
 have A4 : Azz (code_field.f 16 5 a0_3 = some (t201, t202, t203)) := ⟨by rw [e201, e202, e203]; rfl⟩
 have E195 := Azz.mk e195
 have E196 := Azz.mk e196
 have E197 := Azz.mk e197
 have E198 := Azz.mk e198
 have E199 := Azz.mk e199
 have E200 := Azz.mk e200
 have E201 := Azz.mk e201
 have E202 := Azz.mk e202
 have E203 := Azz.mk e203
 clear e195 e196 e197 e198 e199 e200 e201 e202 e203
 go_enter Tryz.func24, Tryz.ntmps24
 go_wp2_with (first | ((with_reducible refine gate_dst (N := 1) rfl ?_); refine box_event ?hg (N := 1) ?hd (cs := #[.int .i64 a0_0, .int .i64 a0_1, .int .i64 a0_2, .int .i64 a0_3, .int .i64 a0_4, .int .i64 a0_5, .int .u64 a0_6, .int .i64 a0_7, .int .i64 a0_8, .int .i64 a0_9]) (t := 40) ?hr ?_; (case hd => rfl); (case hg => rfl); (case hr => first | (go_simp; done) | (go_simp; rfl)); intro gb194 hg w10 hbox hb; have n0_ := Azz.mk (bTT (by with_reducible repeat first | exact HB.out | apply bAA | apply bNN | apply bDD) hb); have n1_ := Azz.mk (hbox); have n2_ := Azz.mk ((by rw [hg]; exact (bZZ (by with_reducible repeat first | exact HB.out | apply bAA | apply bNN | apply bDD)) : w.heap.size ≤ gb194)); have n3_ := Azz.mk ((by rw [hg]; exact (bZZ (by with_reducible repeat first | exact HB.out | apply bAA | apply bNN | apply bDD)) : w.heap.size ≤ gb194)); clear HB; have HB := n0_; have BK194 := n1_; have GW194 := n2_; have GE194 := n3_; clear n0_ n1_ n2_ n3_; clear hb hbox hg))
 go_cut [3, 4, 5] (fun v3 v4 v5 wx => ∃ gb204 gb205 gb206 : Nat, FilledAt w wx a0_0 a0_1 a0_2 a0_3 a0_4 a0_5 a0_6 a0_7 a0_8 a0_9 v3 v4 v5 gb194 gb204 gb205 gb206)
 case first =>
  have n0_ := Azz.mk (kDD BK194.out)
  have n1_ := Azz.mk (bDD HB.out)
  clear BK194
  clear HB
  have BK194 := n0_
  have HB := n1_
  clear n0_ n1_
  refine start_ (n := 15) (S := fun w' => True) (ds := []) #[false, false, false, false, false, false, false, false, false, false, false, false, false, false, false] (by kernel_rfl) rfl rfl trivial (fun hHeld => ?_); refine with_tabW code_filled.tab1 code_filled.bits1 (fun HT_ HW_ => ?_)
  generalize w10.drew = w11 at BK194 HB hHeld ⊢
  refine pure_ (i := 0) (N := some 16) (v := ?_) (a' := ?_) #[true, false, false, false, false, false, false, false, false, false, false, false, false, false, false] rfl rfl (any_of HT_.out (by kernel_rfl)) (fun _ _ _ h => h) (Or.inl ⟨by rfl, ?_⟩) ?_ ?_
  rotate_left
  ·intro w'
   go_simp
   with_reducible rfl
  rotate_left
  ·simp only [Act.put, List.setIfInBounds_toArray, List.set_cons_zero, List.set_cons_succ, i64_w, i32_w]
   rfl
  refine pure_ (i := 3) (N := some 19) (v := ?_) (a' := ?_) #[true, false, false, true, false, false, false, false, false, false, false, false, false, false, false] rfl rfl (any_of HT_.out (by kernel_rfl)) (fun _ _ _ h => h) (Or.inl ⟨by rfl, ?_⟩) ?_ ?_
  rotate_left
  ·intro w'
   go_simp
   with_reducible rfl
  rotate_left
  ·simp only [Act.put, List.setIfInBounds_toArray, List.set_cons_zero, List.set_cons_succ, i64_w, i32_w]
   rfl
  refine pure_ (i := 6) (N := some 22) (v := ?_) (a' := ?_) #[true, false, false, true, false, false, true, false, false, false, false, false, false, false, false] rfl rfl (any_of HT_.out (by kernel_rfl)) (fun _ _ _ h => h) (Or.inl ⟨by rfl, ?_⟩) ?_ ?_
  rotate_left
  ·intro w'
   go_simp
   with_reducible rfl
  rotate_left
  ·simp only [Act.put, List.setIfInBounds_toArray, List.set_cons_zero, List.set_cons_succ, i64_w, i32_w]
   rfl
  refine inv_at [1, 2, 4, 5, 7, 8, 9, 10, 11, 12, 13, 14] (fun a0_ b a w' => ∃ (gb204 : Nat) (gb205 : Nat) (gb206 : Nat) (m9_ : Value) (m10_ : Value) (m11_ : Value), a = putSel a0_ b [(1, 17, .int .i64 a0_1), (2, 18, .agg #[.int .i64 t195, .int .i64 t196, .int .u32 t197]), (4, 20, .int .i64 a0_2), (5, 21, .agg #[.int .i64 t198, .int .i64 t199, .int .u32 t200]), (7, 23, .int .i64 a0_3), (8, 24, .agg #[.int .i64 t201, .int .i64 t202, .int .u32 t203]), (9, 3, m9_), (10, 4, m10_), (11, 5, m11_)] ∧ (w'.heap[gb194]? = some (.cells #[.int .i64 a0_0, .int .i64 a0_1, .int .i64 a0_2, .int .i64 a0_3, .int .i64 a0_4, .int .i64 a0_5, .int .u64 a0_6, .int .i64 a0_7, .int .i64 a0_8, .int .i64 a0_9] 40 (0, 0))) ∧ (Below w.heap.size w w') ∧ (b 9 = true → b 10 = true → gb205 ≠ gb204) ∧ (b 9 = true → b 10 = true → gb204 ≠ gb205) ∧ (b 9 = true → b 11 = true → gb206 ≠ gb204) ∧ (b 9 = true → b 11 = true → gb204 ≠ gb206) ∧ (b 10 = true → b 11 = true → gb206 ≠ gb205) ∧ (b 10 = true → b 11 = true → gb205 ≠ gb206) ∧ (b 9 = true → b 12 = false → w'.heap[gb204]? = some (.cells #[.int .i64 0, .int .i64 0, .int .u32 0] 92 (0, 0))) ∧ (b 9 = true → w.heap.size ≤ gb204) ∧ (b 9 = true → w.heap.size ≤ gb204) ∧ (b 9 = true → gb194 ≠ gb204) ∧ (b 9 = true → gb204 ≠ gb194) ∧ (b 10 = true → b 13 = false → w'.heap[gb205]? = some (.cells #[.int .i64 0, .int .i64 0, .int .u32 0] 92 (0, 0))) ∧ (b 10 = true → w.heap.size ≤ gb205) ∧ (b 10 = true → w.heap.size ≤ gb205) ∧ (b 10 = true → gb194 ≠ gb205) ∧ (b 10 = true → gb205 ≠ gb194) ∧ (b 11 = true → b 14 = false → w'.heap[gb206]? = some (.cells #[.int .i64 0, .int .i64 0, .int .u32 0] 92 (0, 0))) ∧ (b 11 = true → w.heap.size ≤ gb206) ∧ (b 11 = true → w.heap.size ≤ gb206) ∧ (b 11 = true → gb194 ≠ gb206) ∧ (b 11 = true → gb206 ≠ gb194) ∧ (b 12 = true → w'.heap[gb204]? = some (.cells #[.int .i64 t195, .int .i64 t196, .int .u32 t197] 92 (0, 0))) ∧ (b 13 = true → w'.heap[gb205]? = some (.cells #[.int .i64 t198, .int .i64 t199, .int .u32 t200] 92 (0, 0))) ∧ (b 14 = true → w'.heap[gb206]? = some (.cells #[.int .i64 t201, .int .i64 t202, .int .u32 t203] 92 (0, 0))) ∧ (b 9 = true → (m9_ : Value) = .pointer (some ⟨gb204, 0, none⟩)) ∧ (b 10 = true → (m10_ : Value) = .pointer (some ⟨gb205, 0, none⟩)) ∧ (b 11 = true → (m11_ : Value) = .pointer (some ⟨gb206, 0, none⟩))) HT_.out HW_.out (by kernel_rfl) (by kernel_rfl) ?_ ?_ ?_
  ·exact ⟨0, 0, 0, .bool false, .bool false, .bool false, by simp only [putSel, Bool.false_eq_true, if_false], BK194.out, HB.out, fun h_ => absurd h_ (by decide), fun h_ => absurd h_ (by decide), fun h_ => absurd h_ (by decide), fun h_ => absurd h_ (by decide), fun h_ => absurd h_ (by decide), fun h_ => absurd h_ (by decide), fun h_ => absurd h_ (by decide), fun h_ => absurd h_ (by decide), fun h_ => absurd h_ (by decide), fun h_ => absurd h_ (by decide), fun h_ => absurd h_ (by decide), fun h_ => absurd h_ (by decide), fun h_ => absurd h_ (by decide), fun h_ => absurd h_ (by decide), fun h_ => absurd h_ (by decide), fun h_ => absurd h_ (by decide), fun h_ => absurd h_ (by decide), fun h_ => absurd h_ (by decide), fun h_ => absurd h_ (by decide), fun h_ => absurd h_ (by decide), fun h_ => absurd h_ (by decide), fun h_ => absurd h_ (by decide), fun h_ => absurd h_ (by decide), fun h_ => absurd h_ (by decide), fun h_ => absurd h_ (by decide), fun h_ => absurd h_ (by decide), fun h_ => absurd h_ (by decide)⟩
  ·skip
   clear BK194 HB
   refine steps_cons ?_ ?_
   ·rintro b a w' ⟨gb204, gb205, gb206, m9_, m10_, m11_, ha, Q_BK194, Q_HB, Q_NB205_204, Q_NB204_205, Q_NB206_204, Q_NB204_206, Q_NB206_205, Q_NB205_206, Q_BK204, Q_GW204, Q_GE204, Q_NB194_204, Q_NB204_194, Q_BK205, Q_GW205, Q_GE205, Q_NB194_205, Q_NB205_194, Q_BK206, Q_GW206, Q_GE206, Q_NB194_206, Q_NB206_194, Q_BK204_e12, Q_BK205_e13, Q_BK206_e14, Q_X9_, Q_X10_, Q_X11_⟩ hb_ hon hoff
    refine ⟨_, rfl, fun K hK => ?_⟩
    have e16 : a.tmps[16]? = some (.pointer (some ⟨gb194, 1, none⟩)) := by rw [ha]; exact (putSel_off rfl).trans rfl
    replace ha := Azz.mk ha
    have BK194 := Azz.mk Q_BK194
    have HB := Azz.mk Q_HB
    have hc0_ : w'.cell? ⟨gb194, 0, none⟩ = some (.int .i64 a0_0) := (kCC BK194.out 0).trans rfl
    have hc1_ : w'.cell? ⟨gb194, 1, none⟩ = some (.int .i64 a0_1) := (kCC BK194.out 1).trans rfl
    have hc2_ : w'.cell? ⟨gb194, 2, none⟩ = some (.int .i64 a0_2) := (kCC BK194.out 2).trans rfl
    have hc3_ : w'.cell? ⟨gb194, 3, none⟩ = some (.int .i64 a0_3) := (kCC BK194.out 3).trans rfl
    have hc4_ : w'.cell? ⟨gb194, 4, none⟩ = some (.int .i64 a0_4) := (kCC BK194.out 4).trans rfl
    have hc5_ : w'.cell? ⟨gb194, 5, none⟩ = some (.int .i64 a0_5) := (kCC BK194.out 5).trans rfl
    have hc6_ : w'.cell? ⟨gb194, 6, none⟩ = some (.int .u64 a0_6) := (kCC BK194.out 6).trans rfl
    have hc7_ : w'.cell? ⟨gb194, 7, none⟩ = some (.int .i64 a0_7) := (kCC BK194.out 7).trans rfl
    have hc8_ : w'.cell? ⟨gb194, 8, none⟩ = some (.int .i64 a0_8) := (kCC BK194.out 8).trans rfl
    have hc9_ : w'.cell? ⟨gb194, 9, none⟩ = some (.int .i64 a0_9) := (kCC BK194.out 9).trans rfl
    refine value_ (w1 := w') (v := .int .i64 a0_1) (by rfl) rfl ?_ ?_
    ·go_simp
     (try simp only [i64_w])
     try rfl
    refine hK.out _ _ ⟨gb204, gb205, gb206, m9_, m10_, m11_, (by rw [ha.out]; exact putSel_upk 0 hb_ rfl rfl rfl), Q_BK194, Q_HB, Q_NB205_204, Q_NB204_205, Q_NB206_204, Q_NB204_206, Q_NB206_205, Q_NB205_206, Q_BK204, Q_GW204, Q_GE204, Q_NB194_204, Q_NB204_194, Q_BK205, Q_GW205, Q_GE205, Q_NB194_205, Q_NB205_194, Q_BK206, Q_GW206, Q_GE206, Q_NB194_206, Q_NB206_194, fun h0_ => absurd ((hoff 12 (by kernel_rfl)).symm.trans h0_) (by decide), fun h0_ => absurd ((hoff 13 (by kernel_rfl)).symm.trans h0_) (by decide), fun h0_ => absurd ((hoff 14 (by kernel_rfl)).symm.trans h0_) (by decide), Q_X9_, Q_X10_, Q_X11_⟩
   refine steps_cons ?_ ?_
   ·rintro b a w' ⟨gb204, gb205, gb206, m9_, m10_, m11_, ha, Q_BK194, Q_HB, Q_NB205_204, Q_NB204_205, Q_NB206_204, Q_NB204_206, Q_NB206_205, Q_NB205_206, Q_BK204, Q_GW204, Q_GE204, Q_NB194_204, Q_NB204_194, Q_BK205, Q_GW205, Q_GE205, Q_NB194_205, Q_NB205_194, Q_BK206, Q_GW206, Q_GE206, Q_NB194_206, Q_NB206_194, Q_BK204_e12, Q_BK205_e13, Q_BK206_e14, Q_X9_, Q_X10_, Q_X11_⟩ hb_ hon hoff
    refine ⟨_, rfl, fun K hK => ?_⟩
    have e17 : a.tmps[17]? = some (.int .i64 a0_1) := by rw [ha]; exact putSel_on (e := (1, 17, .int .i64 a0_1)) 0 rfl rfl (hon 1 (by kernel_rfl)) rfl
    replace ha := Azz.mk ha
    have BK194 := Azz.mk Q_BK194
    have HB := Azz.mk Q_HB
    refine goes_ Tryz.func47 (by kernel_rfl) rfl #[.int .i64 0, .int .i64 5, .int .i64 a0_1] (by rfl) rfl rfl (by first | (simp only [List.map_toArray, List.map_cons, List.map_nil, Act.eval, Array.getD_eq_getD_getElem?, Option.getD_some, e17]; done) | (simp only [List.map_toArray, List.map_cons, List.map_nil, Act.eval, Array.getD_eq_getD_getElem?, Option.getD_some, e17]; rfl)) ?_
    with_reducible refine (code_field.calls 0 5 a0_1 t195 t196 t197 _ A2.out).mono ?_
    rintro e w12 ⟨rfl, hb⟩
    refine ⟨_, rfl, ?_⟩
    have n0_ := Azz.mk (blk_b hb BK194.out)
    have n1_ := Azz.mk (bTT (by with_reducible repeat first | exact HB.out | apply bAA | apply bNN | apply bDD | refine bSS ?_ GE194.out) hb)
    have z_BK204 := fun (h0_ : b 9 = true) (h1_ : b 12 = false) => (show w12.heap[gb204]? = some (.cells #[.int .i64 0, .int .i64 0, .int .u32 0] 92 (0, 0)) from by first | exact (blk_b hb (Q_BK204 h0_ h1_)))
    have z_BK205 := fun (h0_ : b 10 = true) (h1_ : b 13 = false) => (show w12.heap[gb205]? = some (.cells #[.int .i64 0, .int .i64 0, .int .u32 0] 92 (0, 0)) from by first | exact (blk_b hb (Q_BK205 h0_ h1_)))
    have z_BK206 := fun (h0_ : b 11 = true) (h1_ : b 14 = false) => (show w12.heap[gb206]? = some (.cells #[.int .i64 0, .int .i64 0, .int .u32 0] 92 (0, 0)) from by first | exact (blk_b hb (Q_BK206 h0_ h1_)))
    clear BK194
    clear HB
    have BK194 := n0_
    have HB := n1_
    clear n0_ n1_
    (try clear hb)
    (try clear hb2)
    (try clear hk)
    (try clear hi)
    refine hK.out _ _ ⟨gb204, gb205, gb206, m9_, m10_, m11_, (by rw [ha.out]; exact putSel_upk 1 hb_ rfl rfl rfl), (by (with_reducible repeat first | apply kNN | apply kDD | apply kAA); exact BK194.out), (by with_reducible repeat first | exact HB.out | apply bAA | apply bNN | apply bDD | refine bSS ?_ GE194.out), Q_NB205_204, Q_NB204_205, Q_NB206_204, Q_NB204_206, Q_NB206_205, Q_NB205_206, z_BK204, Q_GW204, Q_GE204, Q_NB194_204, Q_NB204_194, z_BK205, Q_GW205, Q_GE205, Q_NB194_205, Q_NB205_194, z_BK206, Q_GW206, Q_GE206, Q_NB194_206, Q_NB206_194, fun h0_ => absurd ((hoff 12 (by kernel_rfl)).symm.trans h0_) (by decide), fun h0_ => absurd ((hoff 13 (by kernel_rfl)).symm.trans h0_) (by decide), fun h0_ => absurd ((hoff 14 (by kernel_rfl)).symm.trans h0_) (by decide), Q_X9_, Q_X10_, Q_X11_⟩
   refine steps_cons ?_ ?_
   ·rintro b a w' ⟨gb204, gb205, gb206, m9_, m10_, m11_, ha, Q_BK194, Q_HB, Q_NB205_204, Q_NB204_205, Q_NB206_204, Q_NB204_206, Q_NB206_205, Q_NB205_206, Q_BK204, Q_GW204, Q_GE204, Q_NB194_204, Q_NB204_194, Q_BK205, Q_GW205, Q_GE205, Q_NB194_205, Q_NB205_194, Q_BK206, Q_GW206, Q_GE206, Q_NB194_206, Q_NB206_194, Q_BK204_e12, Q_BK205_e13, Q_BK206_e14, Q_X9_, Q_X10_, Q_X11_⟩ hb_ hon hoff
    refine ⟨_, rfl, fun K hK => ?_⟩
    have e19 : a.tmps[19]? = some (.pointer (some ⟨gb194, 2, none⟩)) := by rw [ha]; exact (putSel_off rfl).trans rfl
    replace ha := Azz.mk ha
    have BK194 := Azz.mk Q_BK194
    have HB := Azz.mk Q_HB
    have hc0_ : w'.cell? ⟨gb194, 0, none⟩ = some (.int .i64 a0_0) := (kCC BK194.out 0).trans rfl
    have hc1_ : w'.cell? ⟨gb194, 1, none⟩ = some (.int .i64 a0_1) := (kCC BK194.out 1).trans rfl
    have hc2_ : w'.cell? ⟨gb194, 2, none⟩ = some (.int .i64 a0_2) := (kCC BK194.out 2).trans rfl
    have hc3_ : w'.cell? ⟨gb194, 3, none⟩ = some (.int .i64 a0_3) := (kCC BK194.out 3).trans rfl
    have hc4_ : w'.cell? ⟨gb194, 4, none⟩ = some (.int .i64 a0_4) := (kCC BK194.out 4).trans rfl
    have hc5_ : w'.cell? ⟨gb194, 5, none⟩ = some (.int .i64 a0_5) := (kCC BK194.out 5).trans rfl
    have hc6_ : w'.cell? ⟨gb194, 6, none⟩ = some (.int .u64 a0_6) := (kCC BK194.out 6).trans rfl
    have hc7_ : w'.cell? ⟨gb194, 7, none⟩ = some (.int .i64 a0_7) := (kCC BK194.out 7).trans rfl
    have hc8_ : w'.cell? ⟨gb194, 8, none⟩ = some (.int .i64 a0_8) := (kCC BK194.out 8).trans rfl
    have hc9_ : w'.cell? ⟨gb194, 9, none⟩ = some (.int .i64 a0_9) := (kCC BK194.out 9).trans rfl
    refine value_ (w1 := w') (v := .int .i64 a0_2) (by rfl) rfl ?_ ?_
    ·go_simp
     (try simp only [i64_w])
     try rfl
    refine hK.out _ _ ⟨gb204, gb205, gb206, m9_, m10_, m11_, (by rw [ha.out]; exact putSel_upk 2 hb_ rfl rfl rfl), Q_BK194, Q_HB, Q_NB205_204, Q_NB204_205, Q_NB206_204, Q_NB204_206, Q_NB206_205, Q_NB205_206, Q_BK204, Q_GW204, Q_GE204, Q_NB194_204, Q_NB204_194, Q_BK205, Q_GW205, Q_GE205, Q_NB194_205, Q_NB205_194, Q_BK206, Q_GW206, Q_GE206, Q_NB194_206, Q_NB206_194, fun h0_ => absurd ((hoff 12 (by kernel_rfl)).symm.trans h0_) (by decide), fun h0_ => absurd ((hoff 13 (by kernel_rfl)).symm.trans h0_) (by decide), fun h0_ => absurd ((hoff 14 (by kernel_rfl)).symm.trans h0_) (by decide), Q_X9_, Q_X10_, Q_X11_⟩
   refine steps_cons ?_ ?_
   ·rintro b a w' ⟨gb204, gb205, gb206, m9_, m10_, m11_, ha, Q_BK194, Q_HB, Q_NB205_204, Q_NB204_205, Q_NB206_204, Q_NB204_206, Q_NB206_205, Q_NB205_206, Q_BK204, Q_GW204, Q_GE204, Q_NB194_204, Q_NB204_194, Q_BK205, Q_GW205, Q_GE205, Q_NB194_205, Q_NB205_194, Q_BK206, Q_GW206, Q_GE206, Q_NB194_206, Q_NB206_194, Q_BK204_e12, Q_BK205_e13, Q_BK206_e14, Q_X9_, Q_X10_, Q_X11_⟩ hb_ hon hoff
    refine ⟨_, rfl, fun K hK => ?_⟩
    have e20 : a.tmps[20]? = some (.int .i64 a0_2) := by rw [ha]; exact putSel_on (e := (4, 20, .int .i64 a0_2)) 2 rfl rfl (hon 4 (by kernel_rfl)) rfl
    replace ha := Azz.mk ha
    have BK194 := Azz.mk Q_BK194
    have HB := Azz.mk Q_HB
    refine goes_ Tryz.func47 (by kernel_rfl) rfl #[.int .i64 5, .int .i64 5, .int .i64 a0_2] (by rfl) rfl rfl (by first | (simp only [List.map_toArray, List.map_cons, List.map_nil, Act.eval, Array.getD_eq_getD_getElem?, Option.getD_some, e20]; done) | (simp only [List.map_toArray, List.map_cons, List.map_nil, Act.eval, Array.getD_eq_getD_getElem?, Option.getD_some, e20]; rfl)) ?_
    with_reducible refine (code_field.calls 5 5 a0_2 t198 t199 t200 _ A3.out).mono ?_
    rintro e w14 ⟨rfl, hb⟩
    refine ⟨_, rfl, ?_⟩
    have n0_ := Azz.mk (blk_b hb BK194.out)
    have n1_ := Azz.mk (bTT (by with_reducible repeat first | exact HB.out | apply bAA | apply bNN | apply bDD | refine bSS ?_ GE194.out) hb)
    have z_BK204 := fun (h0_ : b 9 = true) (h1_ : b 12 = false) => (show w14.heap[gb204]? = some (.cells #[.int .i64 0, .int .i64 0, .int .u32 0] 92 (0, 0)) from by first | exact (blk_b hb (Q_BK204 h0_ h1_)))
    have z_BK205 := fun (h0_ : b 10 = true) (h1_ : b 13 = false) => (show w14.heap[gb205]? = some (.cells #[.int .i64 0, .int .i64 0, .int .u32 0] 92 (0, 0)) from by first | exact (blk_b hb (Q_BK205 h0_ h1_)))
    have z_BK206 := fun (h0_ : b 11 = true) (h1_ : b 14 = false) => (show w14.heap[gb206]? = some (.cells #[.int .i64 0, .int .i64 0, .int .u32 0] 92 (0, 0)) from by first | exact (blk_b hb (Q_BK206 h0_ h1_)))
    clear BK194
    clear HB
    have BK194 := n0_
    have HB := n1_
    clear n0_ n1_
    (try clear hb)
    (try clear hb2)
    (try clear hk)
    (try clear hi)
    refine hK.out _ _ ⟨gb204, gb205, gb206, m9_, m10_, m11_, (by rw [ha.out]; exact putSel_upk 3 hb_ rfl rfl rfl), (by (with_reducible repeat first | apply kNN | apply kDD | apply kAA); exact BK194.out), (by with_reducible repeat first | exact HB.out | apply bAA | apply bNN | apply bDD | refine bSS ?_ GE194.out), Q_NB205_204, Q_NB204_205, Q_NB206_204, Q_NB204_206, Q_NB206_205, Q_NB205_206, z_BK204, Q_GW204, Q_GE204, Q_NB194_204, Q_NB204_194, z_BK205, Q_GW205, Q_GE205, Q_NB194_205, Q_NB205_194, z_BK206, Q_GW206, Q_GE206, Q_NB194_206, Q_NB206_194, fun h0_ => absurd ((hoff 12 (by kernel_rfl)).symm.trans h0_) (by decide), fun h0_ => absurd ((hoff 13 (by kernel_rfl)).symm.trans h0_) (by decide), fun h0_ => absurd ((hoff 14 (by kernel_rfl)).symm.trans h0_) (by decide), Q_X9_, Q_X10_, Q_X11_⟩
   refine steps_cons ?_ ?_
   ·rintro b a w' ⟨gb204, gb205, gb206, m9_, m10_, m11_, ha, Q_BK194, Q_HB, Q_NB205_204, Q_NB204_205, Q_NB206_204, Q_NB204_206, Q_NB206_205, Q_NB205_206, Q_BK204, Q_GW204, Q_GE204, Q_NB194_204, Q_NB204_194, Q_BK205, Q_GW205, Q_GE205, Q_NB194_205, Q_NB205_194, Q_BK206, Q_GW206, Q_GE206, Q_NB194_206, Q_NB206_194, Q_BK204_e12, Q_BK205_e13, Q_BK206_e14, Q_X9_, Q_X10_, Q_X11_⟩ hb_ hon hoff
    refine ⟨_, rfl, fun K hK => ?_⟩
    have e22 : a.tmps[22]? = some (.pointer (some ⟨gb194, 3, none⟩)) := by rw [ha]; exact (putSel_off rfl).trans rfl
    replace ha := Azz.mk ha
    have BK194 := Azz.mk Q_BK194
    have HB := Azz.mk Q_HB
    have hc0_ : w'.cell? ⟨gb194, 0, none⟩ = some (.int .i64 a0_0) := (kCC BK194.out 0).trans rfl
    have hc1_ : w'.cell? ⟨gb194, 1, none⟩ = some (.int .i64 a0_1) := (kCC BK194.out 1).trans rfl
    have hc2_ : w'.cell? ⟨gb194, 2, none⟩ = some (.int .i64 a0_2) := (kCC BK194.out 2).trans rfl
    have hc3_ : w'.cell? ⟨gb194, 3, none⟩ = some (.int .i64 a0_3) := (kCC BK194.out 3).trans rfl
    have hc4_ : w'.cell? ⟨gb194, 4, none⟩ = some (.int .i64 a0_4) := (kCC BK194.out 4).trans rfl
    have hc5_ : w'.cell? ⟨gb194, 5, none⟩ = some (.int .i64 a0_5) := (kCC BK194.out 5).trans rfl
    have hc6_ : w'.cell? ⟨gb194, 6, none⟩ = some (.int .u64 a0_6) := (kCC BK194.out 6).trans rfl
    have hc7_ : w'.cell? ⟨gb194, 7, none⟩ = some (.int .i64 a0_7) := (kCC BK194.out 7).trans rfl
    have hc8_ : w'.cell? ⟨gb194, 8, none⟩ = some (.int .i64 a0_8) := (kCC BK194.out 8).trans rfl
    have hc9_ : w'.cell? ⟨gb194, 9, none⟩ = some (.int .i64 a0_9) := (kCC BK194.out 9).trans rfl
    refine value_ (w1 := w') (v := .int .i64 a0_3) (by rfl) rfl ?_ ?_
    ·go_simp
     (try simp only [i64_w])
     try rfl
    refine hK.out _ _ ⟨gb204, gb205, gb206, m9_, m10_, m11_, (by rw [ha.out]; exact putSel_upk 4 hb_ rfl rfl rfl), Q_BK194, Q_HB, Q_NB205_204, Q_NB204_205, Q_NB206_204, Q_NB204_206, Q_NB206_205, Q_NB205_206, Q_BK204, Q_GW204, Q_GE204, Q_NB194_204, Q_NB204_194, Q_BK205, Q_GW205, Q_GE205, Q_NB194_205, Q_NB205_194, Q_BK206, Q_GW206, Q_GE206, Q_NB194_206, Q_NB206_194, fun h0_ => absurd ((hoff 12 (by kernel_rfl)).symm.trans h0_) (by decide), fun h0_ => absurd ((hoff 13 (by kernel_rfl)).symm.trans h0_) (by decide), fun h0_ => absurd ((hoff 14 (by kernel_rfl)).symm.trans h0_) (by decide), Q_X9_, Q_X10_, Q_X11_⟩
   refine steps_cons ?_ ?_
   ·rintro b a w' ⟨gb204, gb205, gb206, m9_, m10_, m11_, ha, Q_BK194, Q_HB, Q_NB205_204, Q_NB204_205, Q_NB206_204, Q_NB204_206, Q_NB206_205, Q_NB205_206, Q_BK204, Q_GW204, Q_GE204, Q_NB194_204, Q_NB204_194, Q_BK205, Q_GW205, Q_GE205, Q_NB194_205, Q_NB205_194, Q_BK206, Q_GW206, Q_GE206, Q_NB194_206, Q_NB206_194, Q_BK204_e12, Q_BK205_e13, Q_BK206_e14, Q_X9_, Q_X10_, Q_X11_⟩ hb_ hon hoff
    refine ⟨_, rfl, fun K hK => ?_⟩
    have e23 : a.tmps[23]? = some (.int .i64 a0_3) := by rw [ha]; exact putSel_on (e := (7, 23, .int .i64 a0_3)) 4 rfl rfl (hon 7 (by kernel_rfl)) rfl
    replace ha := Azz.mk ha
    have BK194 := Azz.mk Q_BK194
    have HB := Azz.mk Q_HB
    refine goes_ Tryz.func47 (by kernel_rfl) rfl #[.int .i64 16, .int .i64 5, .int .i64 a0_3] (by rfl) rfl rfl (by first | (simp only [List.map_toArray, List.map_cons, List.map_nil, Act.eval, Array.getD_eq_getD_getElem?, Option.getD_some, e23]; done) | (simp only [List.map_toArray, List.map_cons, List.map_nil, Act.eval, Array.getD_eq_getD_getElem?, Option.getD_some, e23]; rfl)) ?_
    with_reducible refine (code_field.calls 16 5 a0_3 t201 t202 t203 _ A4.out).mono ?_
    rintro e w15 ⟨rfl, hb⟩
    refine ⟨_, rfl, ?_⟩
    have n0_ := Azz.mk (blk_b hb BK194.out)
    have n1_ := Azz.mk (bTT (by with_reducible repeat first | exact HB.out | apply bAA | apply bNN | apply bDD | refine bSS ?_ GE194.out) hb)
    have z_BK204 := fun (h0_ : b 9 = true) (h1_ : b 12 = false) => (show w15.heap[gb204]? = some (.cells #[.int .i64 0, .int .i64 0, .int .u32 0] 92 (0, 0)) from by first | exact (blk_b hb (Q_BK204 h0_ h1_)))
    have z_BK205 := fun (h0_ : b 10 = true) (h1_ : b 13 = false) => (show w15.heap[gb205]? = some (.cells #[.int .i64 0, .int .i64 0, .int .u32 0] 92 (0, 0)) from by first | exact (blk_b hb (Q_BK205 h0_ h1_)))
    have z_BK206 := fun (h0_ : b 11 = true) (h1_ : b 14 = false) => (show w15.heap[gb206]? = some (.cells #[.int .i64 0, .int .i64 0, .int .u32 0] 92 (0, 0)) from by first | exact (blk_b hb (Q_BK206 h0_ h1_)))
    clear BK194
    clear HB
    have BK194 := n0_
    have HB := n1_
    clear n0_ n1_
    (try clear hb)
    (try clear hb2)
    (try clear hk)
    (try clear hi)
    refine hK.out _ _ ⟨gb204, gb205, gb206, m9_, m10_, m11_, (by rw [ha.out]; exact putSel_upk 5 hb_ rfl rfl rfl), (by (with_reducible repeat first | apply kNN | apply kDD | apply kAA); exact BK194.out), (by with_reducible repeat first | exact HB.out | apply bAA | apply bNN | apply bDD | refine bSS ?_ GE194.out), Q_NB205_204, Q_NB204_205, Q_NB206_204, Q_NB204_206, Q_NB206_205, Q_NB205_206, z_BK204, Q_GW204, Q_GE204, Q_NB194_204, Q_NB204_194, z_BK205, Q_GW205, Q_GE205, Q_NB194_205, Q_NB205_194, z_BK206, Q_GW206, Q_GE206, Q_NB194_206, Q_NB206_194, fun h0_ => absurd ((hoff 12 (by kernel_rfl)).symm.trans h0_) (by decide), fun h0_ => absurd ((hoff 13 (by kernel_rfl)).symm.trans h0_) (by decide), fun h0_ => absurd ((hoff 14 (by kernel_rfl)).symm.trans h0_) (by decide), Q_X9_, Q_X10_, Q_X11_⟩
   refine steps_cons ?_ ?_
   ·rintro b a w' ⟨gb204, gb205, gb206, m9_, m10_, m11_, ha, Q_BK194, Q_HB, Q_NB205_204, Q_NB204_205, Q_NB206_204, Q_NB204_206, Q_NB206_205, Q_NB205_206, Q_BK204, Q_GW204, Q_GE204, Q_NB194_204, Q_NB204_194, Q_BK205, Q_GW205, Q_GE205, Q_NB194_205, Q_NB205_194, Q_BK206, Q_GW206, Q_GE206, Q_NB194_206, Q_NB206_194, Q_BK204_e12, Q_BK205_e13, Q_BK206_e14, Q_X9_, Q_X10_, Q_X11_⟩ hb_ hon hoff
    refine ⟨_, rfl, fun K hK => ?_⟩
    replace ha := Azz.mk ha
    have BK194 := Azz.mk Q_BK194
    have HB := Azz.mk Q_HB
    refine box_step ?hg (N := 3) ?hd (cs := #[.int .i64 0, .int .i64 0, .int .u32 0]) (t := 92) ?hr ?_; (case hd => rfl); (case hg => rfl); (case hr => first | (go_simp; done) | (go_simp; rfl))
    intro gb204 hg w12 hbox hb
    have n0_ := Azz.mk (blk_b hb BK194.out)
    have n1_ := Azz.mk (bTT (by with_reducible repeat first | exact HB.out | apply bAA | apply bNN | apply bDD | refine bSS ?_ GE194.out) hb)
    have n2_ := Azz.mk (hbox)
    have n3_ := Azz.mk ((by rw [hg]; exact (bZZ (by with_reducible repeat first | exact HB.out | apply bAA | apply bNN | apply bDD | refine bSS ?_ GE194.out)) : w.heap.size ≤ gb204))
    have n4_ := Azz.mk ((by rw [hg]; exact (bZZ (by with_reducible repeat first | exact HB.out | apply bAA | apply bNN | apply bDD | refine bSS ?_ GE194.out)) : w.heap.size ≤ gb204))
    have n5_ := Azz.mk ((by rw [hg]; exact Nat.ne_of_lt (blk_lt BK194.out) : gb194 ≠ gb204))
    have n6_ := Azz.mk ((by rw [hg]; exact Nat.ne_of_gt (blk_lt BK194.out) : gb204 ≠ gb194))
    have z_NB205_204 := fun (h0_ : up b 9 9 = true) (h1_ : up b 9 10 = true) => (show gb205 ≠ gb204 from ((by rw [hg]; exact Nat.ne_of_lt (blk_lt (g := gb205) (o := .cells #[.int .i64 0, .int .i64 0, .int .u32 0] 92 (0, 0)) (by (with_reducible repeat first | apply kNN | apply kDD | apply kAA); exact (Q_BK205 (show b 10 = true from h1_) (hoff 13 (by kernel_rfl))))) : gb205 ≠ gb204)))
    have z_NB204_205 := fun (h0_ : up b 9 9 = true) (h1_ : up b 9 10 = true) => (show gb204 ≠ gb205 from ((by rw [hg]; exact Nat.ne_of_gt (blk_lt (g := gb205) (o := .cells #[.int .i64 0, .int .i64 0, .int .u32 0] 92 (0, 0)) (by (with_reducible repeat first | apply kNN | apply kDD | apply kAA); exact (Q_BK205 (show b 10 = true from h1_) (hoff 13 (by kernel_rfl))))) : gb204 ≠ gb205)))
    have z_NB206_204 := fun (h0_ : up b 9 9 = true) (h1_ : up b 9 11 = true) => (show gb206 ≠ gb204 from ((by rw [hg]; exact Nat.ne_of_lt (blk_lt (g := gb206) (o := .cells #[.int .i64 0, .int .i64 0, .int .u32 0] 92 (0, 0)) (by (with_reducible repeat first | apply kNN | apply kDD | apply kAA); exact (Q_BK206 (show b 11 = true from h1_) (hoff 14 (by kernel_rfl))))) : gb206 ≠ gb204)))
    have z_NB204_206 := fun (h0_ : up b 9 9 = true) (h1_ : up b 9 11 = true) => (show gb204 ≠ gb206 from ((by rw [hg]; exact Nat.ne_of_gt (blk_lt (g := gb206) (o := .cells #[.int .i64 0, .int .i64 0, .int .u32 0] 92 (0, 0)) (by (with_reducible repeat first | apply kNN | apply kDD | apply kAA); exact (Q_BK206 (show b 11 = true from h1_) (hoff 14 (by kernel_rfl))))) : gb204 ≠ gb206)))
    have z_BK205 := fun (h0_ : b 10 = true) (h1_ : b 13 = false) => (show w12.heap[gb205]? = some (.cells #[.int .i64 0, .int .i64 0, .int .u32 0] 92 (0, 0)) from by first | exact (blk_b hb (Q_BK205 h0_ h1_)))
    have z_BK206 := fun (h0_ : b 11 = true) (h1_ : b 14 = false) => (show w12.heap[gb206]? = some (.cells #[.int .i64 0, .int .i64 0, .int .u32 0] 92 (0, 0)) from by first | exact (blk_b hb (Q_BK206 h0_ h1_)))
    clear BK194
    clear HB
    have BK194 := n0_
    have HB := n1_
    have BK204 := n2_
    have GW204 := n3_
    have GE204 := n4_
    have NB194_204 := n5_
    have NB204_194 := n6_
    clear n0_ n1_ n2_ n3_ n4_ n5_ n6_
    clear hb hbox hg
    refine hK.out _ _ ⟨gb204, gb205, gb206, (.pointer (some ⟨gb204, 0, none⟩)), m10_, m11_, (by rw [ha.out]; exact putSel_upk 6 hb_ rfl rfl rfl), (by (with_reducible repeat first | apply kNN | apply kDD | apply kAA); exact BK194.out), (by with_reducible repeat first | exact HB.out | apply bAA | apply bNN | apply bDD | refine bSS ?_ GE194.out | refine bSS ?_ GE204.out), z_NB205_204, z_NB204_205, z_NB206_204, z_NB204_206, Q_NB206_205, Q_NB205_206, fun _ _ => (by (with_reducible repeat first | apply kNN | apply kDD | apply kAA); exact BK204.out), fun _ => GW204.out, fun _ => GE204.out, fun _ => NB194_204.out, fun _ => NB204_194.out, z_BK205, Q_GW205, Q_GE205, Q_NB194_205, Q_NB205_194, z_BK206, Q_GW206, Q_GE206, Q_NB194_206, Q_NB206_194, fun h0_ => absurd ((hoff 12 (by kernel_rfl)).symm.trans h0_) (by decide), fun h0_ => absurd ((hoff 13 (by kernel_rfl)).symm.trans h0_) (by decide), fun h0_ => absurd ((hoff 14 (by kernel_rfl)).symm.trans h0_) (by decide), fun _ => rfl, Q_X10_, Q_X11_⟩
   refine steps_cons ?_ ?_
   ·rintro b a w' ⟨gb204, gb205, gb206, m9_, m10_, m11_, ha, Q_BK194, Q_HB, Q_NB205_204, Q_NB204_205, Q_NB206_204, Q_NB204_206, Q_NB206_205, Q_NB205_206, Q_BK204, Q_GW204, Q_GE204, Q_NB194_204, Q_NB204_194, Q_BK205, Q_GW205, Q_GE205, Q_NB194_205, Q_NB205_194, Q_BK206, Q_GW206, Q_GE206, Q_NB194_206, Q_NB206_194, Q_BK204_e12, Q_BK205_e13, Q_BK206_e14, Q_X9_, Q_X10_, Q_X11_⟩ hb_ hon hoff
    refine ⟨_, rfl, fun K hK => ?_⟩
    replace ha := Azz.mk ha
    have BK194 := Azz.mk Q_BK194
    have HB := Azz.mk Q_HB
    refine box_step ?hg (N := 4) ?hd (cs := #[.int .i64 0, .int .i64 0, .int .u32 0]) (t := 92) ?hr ?_; (case hd => rfl); (case hg => rfl); (case hr => first | (go_simp; done) | (go_simp; rfl))
    intro gb205 hg w12 hbox hb
    have n0_ := Azz.mk (blk_b hb BK194.out)
    have n1_ := Azz.mk (bTT (by with_reducible repeat first | exact HB.out | apply bAA | apply bNN | apply bDD | refine bSS ?_ GE194.out) hb)
    have n2_ := Azz.mk (hbox)
    have n3_ := Azz.mk ((by rw [hg]; exact (bZZ (by with_reducible repeat first | exact HB.out | apply bAA | apply bNN | apply bDD | refine bSS ?_ GE194.out)) : w.heap.size ≤ gb205))
    have n4_ := Azz.mk ((by rw [hg]; exact (bZZ (by with_reducible repeat first | exact HB.out | apply bAA | apply bNN | apply bDD | refine bSS ?_ GE194.out)) : w.heap.size ≤ gb205))
    have n5_ := Azz.mk ((by rw [hg]; exact Nat.ne_of_lt (blk_lt BK194.out) : gb194 ≠ gb205))
    have n6_ := Azz.mk ((by rw [hg]; exact Nat.ne_of_gt (blk_lt BK194.out) : gb205 ≠ gb194))
    have z_NB205_204 := fun (h0_ : up b 10 9 = true) (h1_ : up b 10 10 = true) => (show gb205 ≠ gb204 from ((by rw [hg]; exact Nat.ne_of_gt (blk_lt (g := gb204) (o := .cells #[.int .i64 0, .int .i64 0, .int .u32 0] 92 (0, 0)) (by (with_reducible repeat first | apply kNN | apply kDD | apply kAA); exact (Q_BK204 (show b 9 = true from h0_) (hoff 12 (by kernel_rfl))))) : gb205 ≠ gb204)))
    have z_NB204_205 := fun (h0_ : up b 10 9 = true) (h1_ : up b 10 10 = true) => (show gb204 ≠ gb205 from ((by rw [hg]; exact Nat.ne_of_lt (blk_lt (g := gb204) (o := .cells #[.int .i64 0, .int .i64 0, .int .u32 0] 92 (0, 0)) (by (with_reducible repeat first | apply kNN | apply kDD | apply kAA); exact (Q_BK204 (show b 9 = true from h0_) (hoff 12 (by kernel_rfl))))) : gb204 ≠ gb205)))
    have z_NB206_205 := fun (h0_ : up b 10 10 = true) (h1_ : up b 10 11 = true) => (show gb206 ≠ gb205 from ((by rw [hg]; exact Nat.ne_of_lt (blk_lt (g := gb206) (o := .cells #[.int .i64 0, .int .i64 0, .int .u32 0] 92 (0, 0)) (by (with_reducible repeat first | apply kNN | apply kDD | apply kAA); exact (Q_BK206 (show b 11 = true from h1_) (hoff 14 (by kernel_rfl))))) : gb206 ≠ gb205)))
    have z_NB205_206 := fun (h0_ : up b 10 10 = true) (h1_ : up b 10 11 = true) => (show gb205 ≠ gb206 from ((by rw [hg]; exact Nat.ne_of_gt (blk_lt (g := gb206) (o := .cells #[.int .i64 0, .int .i64 0, .int .u32 0] 92 (0, 0)) (by (with_reducible repeat first | apply kNN | apply kDD | apply kAA); exact (Q_BK206 (show b 11 = true from h1_) (hoff 14 (by kernel_rfl))))) : gb205 ≠ gb206)))
    have z_BK204 := fun (h0_ : b 9 = true) (h1_ : b 12 = false) => (show w12.heap[gb204]? = some (.cells #[.int .i64 0, .int .i64 0, .int .u32 0] 92 (0, 0)) from by first | exact (blk_b hb (Q_BK204 h0_ h1_)))
    have z_BK206 := fun (h0_ : b 11 = true) (h1_ : b 14 = false) => (show w12.heap[gb206]? = some (.cells #[.int .i64 0, .int .i64 0, .int .u32 0] 92 (0, 0)) from by first | exact (blk_b hb (Q_BK206 h0_ h1_)))
    clear BK194
    clear HB
    have BK194 := n0_
    have HB := n1_
    have BK205 := n2_
    have GW205 := n3_
    have GE205 := n4_
    have NB194_205 := n5_
    have NB205_194 := n6_
    clear n0_ n1_ n2_ n3_ n4_ n5_ n6_
    clear hb hbox hg
    refine hK.out _ _ ⟨gb204, gb205, gb206, m9_, (.pointer (some ⟨gb205, 0, none⟩)), m11_, (by rw [ha.out]; exact putSel_upk 7 hb_ rfl rfl rfl), (by (with_reducible repeat first | apply kNN | apply kDD | apply kAA); exact BK194.out), (by with_reducible repeat first | exact HB.out | apply bAA | apply bNN | apply bDD | refine bSS ?_ GE194.out | refine bSS ?_ GE205.out), z_NB205_204, z_NB204_205, Q_NB206_204, Q_NB204_206, z_NB206_205, z_NB205_206, z_BK204, Q_GW204, Q_GE204, Q_NB194_204, Q_NB204_194, fun _ _ => (by (with_reducible repeat first | apply kNN | apply kDD | apply kAA); exact BK205.out), fun _ => GW205.out, fun _ => GE205.out, fun _ => NB194_205.out, fun _ => NB205_194.out, z_BK206, Q_GW206, Q_GE206, Q_NB194_206, Q_NB206_194, fun h0_ => absurd ((hoff 12 (by kernel_rfl)).symm.trans h0_) (by decide), fun h0_ => absurd ((hoff 13 (by kernel_rfl)).symm.trans h0_) (by decide), fun h0_ => absurd ((hoff 14 (by kernel_rfl)).symm.trans h0_) (by decide), Q_X9_, fun _ => rfl, Q_X11_⟩
   refine steps_cons ?_ ?_
   ·rintro b a w' ⟨gb204, gb205, gb206, m9_, m10_, m11_, ha, Q_BK194, Q_HB, Q_NB205_204, Q_NB204_205, Q_NB206_204, Q_NB204_206, Q_NB206_205, Q_NB205_206, Q_BK204, Q_GW204, Q_GE204, Q_NB194_204, Q_NB204_194, Q_BK205, Q_GW205, Q_GE205, Q_NB194_205, Q_NB205_194, Q_BK206, Q_GW206, Q_GE206, Q_NB194_206, Q_NB206_194, Q_BK204_e12, Q_BK205_e13, Q_BK206_e14, Q_X9_, Q_X10_, Q_X11_⟩ hb_ hon hoff
    refine ⟨_, rfl, fun K hK => ?_⟩
    replace ha := Azz.mk ha
    have BK194 := Azz.mk Q_BK194
    have HB := Azz.mk Q_HB
    refine box_step ?hg (N := 5) ?hd (cs := #[.int .i64 0, .int .i64 0, .int .u32 0]) (t := 92) ?hr ?_; (case hd => rfl); (case hg => rfl); (case hr => first | (go_simp; done) | (go_simp; rfl))
    intro gb206 hg w12 hbox hb
    have n0_ := Azz.mk (blk_b hb BK194.out)
    have n1_ := Azz.mk (bTT (by with_reducible repeat first | exact HB.out | apply bAA | apply bNN | apply bDD | refine bSS ?_ GE194.out) hb)
    have n2_ := Azz.mk (hbox)
    have n3_ := Azz.mk ((by rw [hg]; exact (bZZ (by with_reducible repeat first | exact HB.out | apply bAA | apply bNN | apply bDD | refine bSS ?_ GE194.out)) : w.heap.size ≤ gb206))
    have n4_ := Azz.mk ((by rw [hg]; exact (bZZ (by with_reducible repeat first | exact HB.out | apply bAA | apply bNN | apply bDD | refine bSS ?_ GE194.out)) : w.heap.size ≤ gb206))
    have n5_ := Azz.mk ((by rw [hg]; exact Nat.ne_of_lt (blk_lt BK194.out) : gb194 ≠ gb206))
    have n6_ := Azz.mk ((by rw [hg]; exact Nat.ne_of_gt (blk_lt BK194.out) : gb206 ≠ gb194))
    have z_NB206_204 := fun (h0_ : up b 11 9 = true) (h1_ : up b 11 11 = true) => (show gb206 ≠ gb204 from ((by rw [hg]; exact Nat.ne_of_gt (blk_lt (g := gb204) (o := .cells #[.int .i64 0, .int .i64 0, .int .u32 0] 92 (0, 0)) (by (with_reducible repeat first | apply kNN | apply kDD | apply kAA); exact (Q_BK204 (show b 9 = true from h0_) (hoff 12 (by kernel_rfl))))) : gb206 ≠ gb204)))
    have z_NB204_206 := fun (h0_ : up b 11 9 = true) (h1_ : up b 11 11 = true) => (show gb204 ≠ gb206 from ((by rw [hg]; exact Nat.ne_of_lt (blk_lt (g := gb204) (o := .cells #[.int .i64 0, .int .i64 0, .int .u32 0] 92 (0, 0)) (by (with_reducible repeat first | apply kNN | apply kDD | apply kAA); exact (Q_BK204 (show b 9 = true from h0_) (hoff 12 (by kernel_rfl))))) : gb204 ≠ gb206)))
    have z_NB206_205 := fun (h0_ : up b 11 10 = true) (h1_ : up b 11 11 = true) => (show gb206 ≠ gb205 from ((by rw [hg]; exact Nat.ne_of_gt (blk_lt (g := gb205) (o := .cells #[.int .i64 0, .int .i64 0, .int .u32 0] 92 (0, 0)) (by (with_reducible repeat first | apply kNN | apply kDD | apply kAA); exact (Q_BK205 (show b 10 = true from h0_) (hoff 13 (by kernel_rfl))))) : gb206 ≠ gb205)))
    have z_NB205_206 := fun (h0_ : up b 11 10 = true) (h1_ : up b 11 11 = true) => (show gb205 ≠ gb206 from ((by rw [hg]; exact Nat.ne_of_lt (blk_lt (g := gb205) (o := .cells #[.int .i64 0, .int .i64 0, .int .u32 0] 92 (0, 0)) (by (with_reducible repeat first | apply kNN | apply kDD | apply kAA); exact (Q_BK205 (show b 10 = true from h0_) (hoff 13 (by kernel_rfl))))) : gb205 ≠ gb206)))
    have z_BK204 := fun (h0_ : b 9 = true) (h1_ : b 12 = false) => (show w12.heap[gb204]? = some (.cells #[.int .i64 0, .int .i64 0, .int .u32 0] 92 (0, 0)) from by first | exact (blk_b hb (Q_BK204 h0_ h1_)))
    have z_BK205 := fun (h0_ : b 10 = true) (h1_ : b 13 = false) => (show w12.heap[gb205]? = some (.cells #[.int .i64 0, .int .i64 0, .int .u32 0] 92 (0, 0)) from by first | exact (blk_b hb (Q_BK205 h0_ h1_)))
    clear BK194
    clear HB
    have BK194 := n0_
    have HB := n1_
    have BK206 := n2_
    have GW206 := n3_
    have GE206 := n4_
    have NB194_206 := n5_
    have NB206_194 := n6_
    clear n0_ n1_ n2_ n3_ n4_ n5_ n6_
    clear hb hbox hg
    refine hK.out _ _ ⟨gb204, gb205, gb206, m9_, m10_, (.pointer (some ⟨gb206, 0, none⟩)), (by rw [ha.out]; exact putSel_upk 8 hb_ rfl rfl rfl), (by (with_reducible repeat first | apply kNN | apply kDD | apply kAA); exact BK194.out), (by with_reducible repeat first | exact HB.out | apply bAA | apply bNN | apply bDD | refine bSS ?_ GE194.out | refine bSS ?_ GE206.out), Q_NB205_204, Q_NB204_205, z_NB206_204, z_NB204_206, z_NB206_205, z_NB205_206, z_BK204, Q_GW204, Q_GE204, Q_NB194_204, Q_NB204_194, z_BK205, Q_GW205, Q_GE205, Q_NB194_205, Q_NB205_194, fun _ _ => (by (with_reducible repeat first | apply kNN | apply kDD | apply kAA); exact BK206.out), fun _ => GW206.out, fun _ => GE206.out, fun _ => NB194_206.out, fun _ => NB206_194.out, fun h0_ => absurd ((hoff 12 (by kernel_rfl)).symm.trans h0_) (by decide), fun h0_ => absurd ((hoff 13 (by kernel_rfl)).symm.trans h0_) (by decide), fun h0_ => absurd ((hoff 14 (by kernel_rfl)).symm.trans h0_) (by decide), Q_X9_, Q_X10_, fun _ => rfl⟩
   refine steps_cons ?_ ?_
   ·rintro b a w' ⟨gb204, gb205, gb206, m9_, m10_, m11_, ha, Q_BK194, Q_HB, Q_NB205_204, Q_NB204_205, Q_NB206_204, Q_NB204_206, Q_NB206_205, Q_NB205_206, Q_BK204, Q_GW204, Q_GE204, Q_NB194_204, Q_NB204_194, Q_BK205, Q_GW205, Q_GE205, Q_NB194_205, Q_NB205_194, Q_BK206, Q_GW206, Q_GE206, Q_NB194_206, Q_NB206_194, Q_BK204_e12, Q_BK205_e13, Q_BK206_e14, Q_X9_, Q_X10_, Q_X11_⟩ hb_ hon hoff
    refine ⟨_, rfl, fun K hK => ?_⟩
    have e3 : a.tmps[3]? = some (m9_) := by rw [ha]; exact putSel_on (e := (9, 3, m9_)) 6 rfl rfl (hon 9 (by kernel_rfl)) rfl
    rw [Q_X9_ (hon 9 (by kernel_rfl))] at e3
    have e18 : a.tmps[18]? = some (.agg #[.int .i64 t195, .int .i64 t196, .int .u32 t197]) := by rw [ha]; exact putSel_on (e := (2, 18, .agg #[.int .i64 t195, .int .i64 t196, .int .u32 t197])) 1 rfl rfl (hon 2 (by kernel_rfl)) rfl
    replace ha := Azz.mk ha
    have BK194 := Azz.mk Q_BK194
    have HB := Azz.mk Q_HB
    have NB205_204 := Azz.mk (Q_NB205_204 (hon 9 (by kernel_rfl)) (hon 10 (by kernel_rfl)))
    have NB204_205 := Azz.mk (Q_NB204_205 (hon 9 (by kernel_rfl)) (hon 10 (by kernel_rfl)))
    have NB206_204 := Azz.mk (Q_NB206_204 (hon 9 (by kernel_rfl)) (hon 11 (by kernel_rfl)))
    have NB204_206 := Azz.mk (Q_NB204_206 (hon 9 (by kernel_rfl)) (hon 11 (by kernel_rfl)))
    have NB206_205 := Azz.mk (Q_NB206_205 (hon 10 (by kernel_rfl)) (hon 11 (by kernel_rfl)))
    have NB205_206 := Azz.mk (Q_NB205_206 (hon 10 (by kernel_rfl)) (hon 11 (by kernel_rfl)))
    have BK204 := Azz.mk (Q_BK204 (hon 9 (by kernel_rfl)) hb_)
    have GW204 := Azz.mk (Q_GW204 (hon 9 (by kernel_rfl)))
    have GE204 := Azz.mk (Q_GE204 (hon 9 (by kernel_rfl)))
    have NB194_204 := Azz.mk (Q_NB194_204 (hon 9 (by kernel_rfl)))
    have NB204_194 := Azz.mk (Q_NB204_194 (hon 9 (by kernel_rfl)))
    have BK205 := Azz.mk (Q_BK205 (hon 10 (by kernel_rfl)) (hoff 13 (by kernel_rfl)))
    have GW205 := Azz.mk (Q_GW205 (hon 10 (by kernel_rfl)))
    have GE205 := Azz.mk (Q_GE205 (hon 10 (by kernel_rfl)))
    have NB194_205 := Azz.mk (Q_NB194_205 (hon 10 (by kernel_rfl)))
    have NB205_194 := Azz.mk (Q_NB205_194 (hon 10 (by kernel_rfl)))
    have BK206 := Azz.mk (Q_BK206 (hon 11 (by kernel_rfl)) (hoff 14 (by kernel_rfl)))
    have GW206 := Azz.mk (Q_GW206 (hon 11 (by kernel_rfl)))
    have GE206 := Azz.mk (Q_GE206 (hon 11 (by kernel_rfl)))
    have NB194_206 := Azz.mk (Q_NB194_206 (hon 11 (by kernel_rfl)))
    have NB206_194 := Azz.mk (Q_NB206_194 (hon 11 (by kernel_rfl)))
    have hs19 : w'.cell? ⟨gb204, 0, none⟩ = some (.int .i64 0) := (kCC BK204.out 0).trans rfl
    have hfs19 := kFF BK204.out 0
    have hns19_0 := NB194_204.out
    have hns19_2 := NB205_204.out
    have hns19_3 := NB206_204.out
    have hms19_0 := NB204_194.out
    have hms19_2 := NB204_205.out
    have hms19_3 := NB204_206.out
    have hs20 : w'.cell? ⟨gb204, 1, none⟩ = some (.int .i64 0) := (kCC BK204.out 1).trans rfl
    have hfs20 := kFF BK204.out 1
    have hns20_0 := NB194_204.out
    have hns20_2 := NB205_204.out
    have hns20_3 := NB206_204.out
    have hms20_0 := NB204_194.out
    have hms20_2 := NB204_205.out
    have hms20_3 := NB204_206.out
    have hs21 : w'.cell? ⟨gb204, 2, none⟩ = some (.int .u32 0) := (kCC BK204.out 2).trans rfl
    have hfs21 := kFF BK204.out 2
    have hns21_0 := NB194_204.out
    have hns21_2 := NB205_204.out
    have hns21_3 := NB206_204.out
    have hms21_0 := NB204_194.out
    have hms21_2 := NB204_205.out
    have hms21_3 := NB204_206.out
    refine skip_ (w1 := ?_) (by rfl) rfl ?_ ?_
    rotate_left
    ·go_simp
     rfl
    refine hK.out _ _ ⟨gb204, gb205, gb206, m9_, m10_, m11_, (by rw [ha.out]; exact putSel_none (v := undef) rfl), (by refine far3 NB194_204.out ?_; (with_reducible repeat first | apply kNN | apply kDD | apply kAA); exact BK194.out), (by with_reducible repeat first | exact HB.out | apply bAA | apply bNN | apply bDD | refine bSS ?_ GE194.out | refine bSS ?_ GE204.out | refine bSS ?_ GE205.out | refine bSS ?_ GE206.out), fun _ _ => NB205_204.out, fun _ _ => NB204_205.out, fun _ _ => NB206_204.out, fun _ _ => NB204_206.out, fun _ _ => NB206_205.out, fun _ _ => NB205_206.out, fun _ h1_ => absurd ((up_self b 12).symm.trans h1_) (by decide), fun _ => GW204.out, fun _ => GE204.out, fun _ => NB194_204.out, fun _ => NB204_194.out, fun _ _ => (by refine far3 NB205_204.out ?_; (with_reducible repeat first | apply kNN | apply kDD | apply kAA); exact BK205.out), fun _ => GW205.out, fun _ => GE205.out, fun _ => NB194_205.out, fun _ => NB205_194.out, fun _ _ => (by refine far3 NB206_204.out ?_; (with_reducible repeat first | apply kNN | apply kDD | apply kAA); exact BK206.out), fun _ => GW206.out, fun _ => GE206.out, fun _ => NB194_206.out, fun _ => NB206_194.out, fun _ => (by apply put3; (with_reducible repeat first | apply kNN | apply kDD | apply kAA); exact BK204.out), fun h0_ => absurd ((hoff 13 (by kernel_rfl)).symm.trans h0_) (by decide), fun h0_ => absurd ((hoff 14 (by kernel_rfl)).symm.trans h0_) (by decide), Q_X9_, Q_X10_, Q_X11_⟩
   refine steps_cons ?_ ?_
   ·rintro b a w' ⟨gb204, gb205, gb206, m9_, m10_, m11_, ha, Q_BK194, Q_HB, Q_NB205_204, Q_NB204_205, Q_NB206_204, Q_NB204_206, Q_NB206_205, Q_NB205_206, Q_BK204, Q_GW204, Q_GE204, Q_NB194_204, Q_NB204_194, Q_BK205, Q_GW205, Q_GE205, Q_NB194_205, Q_NB205_194, Q_BK206, Q_GW206, Q_GE206, Q_NB194_206, Q_NB206_194, Q_BK204_e12, Q_BK205_e13, Q_BK206_e14, Q_X9_, Q_X10_, Q_X11_⟩ hb_ hon hoff
    refine ⟨_, rfl, fun K hK => ?_⟩
    have e4 : a.tmps[4]? = some (m10_) := by rw [ha]; exact putSel_on (e := (10, 4, m10_)) 7 rfl rfl (hon 10 (by kernel_rfl)) rfl
    rw [Q_X10_ (hon 10 (by kernel_rfl))] at e4
    have e21 : a.tmps[21]? = some (.agg #[.int .i64 t198, .int .i64 t199, .int .u32 t200]) := by rw [ha]; exact putSel_on (e := (5, 21, .agg #[.int .i64 t198, .int .i64 t199, .int .u32 t200])) 3 rfl rfl (hon 5 (by kernel_rfl)) rfl
    replace ha := Azz.mk ha
    have BK194 := Azz.mk Q_BK194
    have HB := Azz.mk Q_HB
    have NB205_204 := Azz.mk (Q_NB205_204 (hon 9 (by kernel_rfl)) (hon 10 (by kernel_rfl)))
    have NB204_205 := Azz.mk (Q_NB204_205 (hon 9 (by kernel_rfl)) (hon 10 (by kernel_rfl)))
    have NB206_204 := Azz.mk (Q_NB206_204 (hon 9 (by kernel_rfl)) (hon 11 (by kernel_rfl)))
    have NB204_206 := Azz.mk (Q_NB204_206 (hon 9 (by kernel_rfl)) (hon 11 (by kernel_rfl)))
    have NB206_205 := Azz.mk (Q_NB206_205 (hon 10 (by kernel_rfl)) (hon 11 (by kernel_rfl)))
    have NB205_206 := Azz.mk (Q_NB205_206 (hon 10 (by kernel_rfl)) (hon 11 (by kernel_rfl)))
    have GW204 := Azz.mk (Q_GW204 (hon 9 (by kernel_rfl)))
    have GE204 := Azz.mk (Q_GE204 (hon 9 (by kernel_rfl)))
    have NB194_204 := Azz.mk (Q_NB194_204 (hon 9 (by kernel_rfl)))
    have NB204_194 := Azz.mk (Q_NB204_194 (hon 9 (by kernel_rfl)))
    have BK205 := Azz.mk (Q_BK205 (hon 10 (by kernel_rfl)) hb_)
    have GW205 := Azz.mk (Q_GW205 (hon 10 (by kernel_rfl)))
    have GE205 := Azz.mk (Q_GE205 (hon 10 (by kernel_rfl)))
    have NB194_205 := Azz.mk (Q_NB194_205 (hon 10 (by kernel_rfl)))
    have NB205_194 := Azz.mk (Q_NB205_194 (hon 10 (by kernel_rfl)))
    have BK206 := Azz.mk (Q_BK206 (hon 11 (by kernel_rfl)) (hoff 14 (by kernel_rfl)))
    have GW206 := Azz.mk (Q_GW206 (hon 11 (by kernel_rfl)))
    have GE206 := Azz.mk (Q_GE206 (hon 11 (by kernel_rfl)))
    have NB194_206 := Azz.mk (Q_NB194_206 (hon 11 (by kernel_rfl)))
    have NB206_194 := Azz.mk (Q_NB206_194 (hon 11 (by kernel_rfl)))
    have BK204 := Azz.mk (Q_BK204_e12 (hon 12 (by kernel_rfl)))
    have hs22 : w'.cell? ⟨gb205, 0, none⟩ = some (.int .i64 0) := (kCC BK205.out 0).trans rfl
    have hfs22 := kFF BK205.out 0
    have hns22_0 := NB194_205.out
    have hns22_1 := NB204_205.out
    have hns22_3 := NB206_205.out
    have hms22_0 := NB205_194.out
    have hms22_1 := NB205_204.out
    have hms22_3 := NB205_206.out
    have hs23 : w'.cell? ⟨gb205, 1, none⟩ = some (.int .i64 0) := (kCC BK205.out 1).trans rfl
    have hfs23 := kFF BK205.out 1
    have hns23_0 := NB194_205.out
    have hns23_1 := NB204_205.out
    have hns23_3 := NB206_205.out
    have hms23_0 := NB205_194.out
    have hms23_1 := NB205_204.out
    have hms23_3 := NB205_206.out
    have hs24 : w'.cell? ⟨gb205, 2, none⟩ = some (.int .u32 0) := (kCC BK205.out 2).trans rfl
    have hfs24 := kFF BK205.out 2
    have hns24_0 := NB194_205.out
    have hns24_1 := NB204_205.out
    have hns24_3 := NB206_205.out
    have hms24_0 := NB205_194.out
    have hms24_1 := NB205_204.out
    have hms24_3 := NB205_206.out
    refine skip_ (w1 := ?_) (by rfl) rfl ?_ ?_
    rotate_left
    ·go_simp
     rfl
    refine hK.out _ _ ⟨gb204, gb205, gb206, m9_, m10_, m11_, (by rw [ha.out]; exact putSel_none (v := undef) rfl), (by refine far3 NB194_205.out ?_; (with_reducible repeat first | apply kNN | apply kDD | apply kAA); exact BK194.out), (by with_reducible repeat first | exact HB.out | apply bAA | apply bNN | apply bDD | refine bSS ?_ GE194.out | refine bSS ?_ GE204.out | refine bSS ?_ GE205.out | refine bSS ?_ GE206.out), fun _ _ => NB205_204.out, fun _ _ => NB204_205.out, fun _ _ => NB206_204.out, fun _ _ => NB204_206.out, fun _ _ => NB206_205.out, fun _ _ => NB205_206.out, fun _ h1_ => absurd ((hon 12 (by kernel_rfl)).symm.trans h1_) (by decide), fun _ => GW204.out, fun _ => GE204.out, fun _ => NB194_204.out, fun _ => NB204_194.out, fun _ h1_ => absurd ((up_self b 13).symm.trans h1_) (by decide), fun _ => GW205.out, fun _ => GE205.out, fun _ => NB194_205.out, fun _ => NB205_194.out, fun _ _ => (by refine far3 NB206_205.out ?_; (with_reducible repeat first | apply kNN | apply kDD | apply kAA); exact BK206.out), fun _ => GW206.out, fun _ => GE206.out, fun _ => NB194_206.out, fun _ => NB206_194.out, fun _ => (by refine far3 NB204_205.out ?_; (with_reducible repeat first | apply kNN | apply kDD | apply kAA); exact BK204.out), fun _ => (by apply put3; (with_reducible repeat first | apply kNN | apply kDD | apply kAA); exact BK205.out), fun h0_ => absurd ((hoff 14 (by kernel_rfl)).symm.trans h0_) (by decide), Q_X9_, Q_X10_, Q_X11_⟩
   refine steps_cons ?_ ?_
   ·rintro b a w' ⟨gb204, gb205, gb206, m9_, m10_, m11_, ha, Q_BK194, Q_HB, Q_NB205_204, Q_NB204_205, Q_NB206_204, Q_NB204_206, Q_NB206_205, Q_NB205_206, Q_BK204, Q_GW204, Q_GE204, Q_NB194_204, Q_NB204_194, Q_BK205, Q_GW205, Q_GE205, Q_NB194_205, Q_NB205_194, Q_BK206, Q_GW206, Q_GE206, Q_NB194_206, Q_NB206_194, Q_BK204_e12, Q_BK205_e13, Q_BK206_e14, Q_X9_, Q_X10_, Q_X11_⟩ hb_ hon hoff
    refine ⟨_, rfl, fun K hK => ?_⟩
    have e5 : a.tmps[5]? = some (m11_) := by rw [ha]; exact putSel_on (e := (11, 5, m11_)) 8 rfl rfl (hon 11 (by kernel_rfl)) rfl
    rw [Q_X11_ (hon 11 (by kernel_rfl))] at e5
    have e24 : a.tmps[24]? = some (.agg #[.int .i64 t201, .int .i64 t202, .int .u32 t203]) := by rw [ha]; exact putSel_on (e := (8, 24, .agg #[.int .i64 t201, .int .i64 t202, .int .u32 t203])) 5 rfl rfl (hon 8 (by kernel_rfl)) rfl
    replace ha := Azz.mk ha
    have BK194 := Azz.mk Q_BK194
    have HB := Azz.mk Q_HB
    have NB205_204 := Azz.mk (Q_NB205_204 (hon 9 (by kernel_rfl)) (hon 10 (by kernel_rfl)))
    have NB204_205 := Azz.mk (Q_NB204_205 (hon 9 (by kernel_rfl)) (hon 10 (by kernel_rfl)))
    have NB206_204 := Azz.mk (Q_NB206_204 (hon 9 (by kernel_rfl)) (hon 11 (by kernel_rfl)))
    have NB204_206 := Azz.mk (Q_NB204_206 (hon 9 (by kernel_rfl)) (hon 11 (by kernel_rfl)))
    have NB206_205 := Azz.mk (Q_NB206_205 (hon 10 (by kernel_rfl)) (hon 11 (by kernel_rfl)))
    have NB205_206 := Azz.mk (Q_NB205_206 (hon 10 (by kernel_rfl)) (hon 11 (by kernel_rfl)))
    have GW204 := Azz.mk (Q_GW204 (hon 9 (by kernel_rfl)))
    have GE204 := Azz.mk (Q_GE204 (hon 9 (by kernel_rfl)))
    have NB194_204 := Azz.mk (Q_NB194_204 (hon 9 (by kernel_rfl)))
    have NB204_194 := Azz.mk (Q_NB204_194 (hon 9 (by kernel_rfl)))
    have GW205 := Azz.mk (Q_GW205 (hon 10 (by kernel_rfl)))
    have GE205 := Azz.mk (Q_GE205 (hon 10 (by kernel_rfl)))
    have NB194_205 := Azz.mk (Q_NB194_205 (hon 10 (by kernel_rfl)))
    have NB205_194 := Azz.mk (Q_NB205_194 (hon 10 (by kernel_rfl)))
    have BK206 := Azz.mk (Q_BK206 (hon 11 (by kernel_rfl)) hb_)
    have GW206 := Azz.mk (Q_GW206 (hon 11 (by kernel_rfl)))
    have GE206 := Azz.mk (Q_GE206 (hon 11 (by kernel_rfl)))
    have NB194_206 := Azz.mk (Q_NB194_206 (hon 11 (by kernel_rfl)))
    have NB206_194 := Azz.mk (Q_NB206_194 (hon 11 (by kernel_rfl)))
    have BK204 := Azz.mk (Q_BK204_e12 (hon 12 (by kernel_rfl)))
    have BK205 := Azz.mk (Q_BK205_e13 (hon 13 (by kernel_rfl)))
    have hs25 : w'.cell? ⟨gb206, 0, none⟩ = some (.int .i64 0) := (kCC BK206.out 0).trans rfl
    have hfs25 := kFF BK206.out 0
    have hns25_0 := NB194_206.out
    have hns25_1 := NB204_206.out
    have hns25_2 := NB205_206.out
    have hms25_0 := NB206_194.out
    have hms25_1 := NB206_204.out
    have hms25_2 := NB206_205.out
    have hs26 : w'.cell? ⟨gb206, 1, none⟩ = some (.int .i64 0) := (kCC BK206.out 1).trans rfl
    have hfs26 := kFF BK206.out 1
    have hns26_0 := NB194_206.out
    have hns26_1 := NB204_206.out
    have hns26_2 := NB205_206.out
    have hms26_0 := NB206_194.out
    have hms26_1 := NB206_204.out
    have hms26_2 := NB206_205.out
    have hs27 : w'.cell? ⟨gb206, 2, none⟩ = some (.int .u32 0) := (kCC BK206.out 2).trans rfl
    have hfs27 := kFF BK206.out 2
    have hns27_0 := NB194_206.out
    have hns27_1 := NB204_206.out
    have hns27_2 := NB205_206.out
    have hms27_0 := NB206_194.out
    have hms27_1 := NB206_204.out
    have hms27_2 := NB206_205.out
    refine skip_ (w1 := ?_) (by rfl) rfl ?_ ?_
    rotate_left
    ·go_simp
     rfl
    refine hK.out _ _ ⟨gb204, gb205, gb206, m9_, m10_, m11_, (by rw [ha.out]; exact putSel_none (v := undef) rfl), (by refine far3 NB194_206.out ?_; (with_reducible repeat first | apply kNN | apply kDD | apply kAA); exact BK194.out), (by with_reducible repeat first | exact HB.out | apply bAA | apply bNN | apply bDD | refine bSS ?_ GE194.out | refine bSS ?_ GE204.out | refine bSS ?_ GE205.out | refine bSS ?_ GE206.out), fun _ _ => NB205_204.out, fun _ _ => NB204_205.out, fun _ _ => NB206_204.out, fun _ _ => NB204_206.out, fun _ _ => NB206_205.out, fun _ _ => NB205_206.out, fun _ h1_ => absurd ((hon 12 (by kernel_rfl)).symm.trans h1_) (by decide), fun _ => GW204.out, fun _ => GE204.out, fun _ => NB194_204.out, fun _ => NB204_194.out, fun _ h1_ => absurd ((hon 13 (by kernel_rfl)).symm.trans h1_) (by decide), fun _ => GW205.out, fun _ => GE205.out, fun _ => NB194_205.out, fun _ => NB205_194.out, fun _ h1_ => absurd ((up_self b 14).symm.trans h1_) (by decide), fun _ => GW206.out, fun _ => GE206.out, fun _ => NB194_206.out, fun _ => NB206_194.out, fun _ => (by refine far3 NB204_206.out ?_; (with_reducible repeat first | apply kNN | apply kDD | apply kAA); exact BK204.out), fun _ => (by refine far3 NB205_206.out ?_; (with_reducible repeat first | apply kNN | apply kDD | apply kAA); exact BK205.out), fun _ => (by apply put3; (with_reducible repeat first | apply kNN | apply kDD | apply kAA); exact BK206.out), Q_X9_, Q_X10_, Q_X11_⟩
   exact steps_nil
  rintro b a w27 hall ⟨gb204, gb205, gb206, m9_, m10_, m11_, ha, Q_BK194, Q_HB, Q_NB205_204, Q_NB204_205, Q_NB206_204, Q_NB204_206, Q_NB206_205, Q_NB205_206, Q_BK204, Q_GW204, Q_GE204, Q_NB194_204, Q_NB204_194, Q_BK205, Q_GW205, Q_GE205, Q_NB194_205, Q_NB205_194, Q_BK206, Q_GW206, Q_GE206, Q_NB194_206, Q_NB206_194, Q_BK204_e12, Q_BK205_e13, Q_BK206_e14, Q_X9_, Q_X10_, Q_X11_⟩
  clear BK194 HB
  have hb1_ := hall 1 (by kernel_rfl)
  have hb2_ := hall 2 (by kernel_rfl)
  have hb4_ := hall 4 (by kernel_rfl)
  have hb5_ := hall 5 (by kernel_rfl)
  have hb7_ := hall 7 (by kernel_rfl)
  have hb8_ := hall 8 (by kernel_rfl)
  have hb9_ := hall 9 (by kernel_rfl)
  have hb10_ := hall 10 (by kernel_rfl)
  have hb11_ := hall 11 (by kernel_rfl)
  have hb12_ := hall 12 (by kernel_rfl)
  have hb13_ := hall 13 (by kernel_rfl)
  have hb14_ := hall 14 (by kernel_rfl)
  subst ha
  obtain rfl := Q_X9_ hb9_
  obtain rfl := Q_X10_ hb10_
  obtain rfl := Q_X11_ hb11_
  simp only [putSel, hb1_, hb2_, hb4_, hb5_, hb7_, hb8_, hb9_, hb10_, hb11_, hb12_, hb13_, hb14_, if_true, Act.put, List.setIfInBounds_toArray, List.set_cons_zero, List.set_cons_succ]
  have BK194 := Azz.mk Q_BK194
  clear Q_BK194
  have HB := Azz.mk Q_HB
  clear Q_HB
  have NB205_204 := Azz.mk (Q_NB205_204 hb9_ hb10_)
  clear Q_NB205_204
  have NB204_205 := Azz.mk (Q_NB204_205 hb9_ hb10_)
  clear Q_NB204_205
  have NB206_204 := Azz.mk (Q_NB206_204 hb9_ hb11_)
  clear Q_NB206_204
  have NB204_206 := Azz.mk (Q_NB204_206 hb9_ hb11_)
  clear Q_NB204_206
  have NB206_205 := Azz.mk (Q_NB206_205 hb10_ hb11_)
  clear Q_NB206_205
  have NB205_206 := Azz.mk (Q_NB205_206 hb10_ hb11_)
  clear Q_NB205_206
  clear Q_BK204
  have GW204 := Azz.mk (Q_GW204 hb9_)
  clear Q_GW204
  have GE204 := Azz.mk (Q_GE204 hb9_)
  clear Q_GE204
  have NB194_204 := Azz.mk (Q_NB194_204 hb9_)
  clear Q_NB194_204
  have NB204_194 := Azz.mk (Q_NB204_194 hb9_)
  clear Q_NB204_194
  clear Q_BK205
  have GW205 := Azz.mk (Q_GW205 hb10_)
  clear Q_GW205
  have GE205 := Azz.mk (Q_GE205 hb10_)
  clear Q_GE205
  have NB194_205 := Azz.mk (Q_NB194_205 hb10_)
  clear Q_NB194_205
  have NB205_194 := Azz.mk (Q_NB205_194 hb10_)
  clear Q_NB205_194
  clear Q_BK206
  have GW206 := Azz.mk (Q_GW206 hb11_)
  clear Q_GW206
  have GE206 := Azz.mk (Q_GE206 hb11_)
  clear Q_GE206
  have NB194_206 := Azz.mk (Q_NB194_206 hb11_)
  clear Q_NB194_206
  have NB206_194 := Azz.mk (Q_NB206_194 hb11_)
  clear Q_NB206_194
  have BK204 := Azz.mk (Q_BK204_e12 hb12_)
  clear Q_BK204_e12
  have BK205 := Azz.mk (Q_BK205_e13 hb13_)
  clear Q_BK205_e13
  have BK206 := Azz.mk (Q_BK206_e14 hb14_)
  clear Q_BK206_e14
  clear hall hb1_ hb2_ hb4_ hb5_ hb7_ hb8_ hb9_ hb10_ hb11_ hb12_ hb13_ hb14_
  go_wp2_with fail
  go_meet
  exact ⟨gb204, gb205, gb206, rfl, rfl, rfl, BK194.out, by have z_ := BK204.out; rw [E195.out, E196.out, E197.out] at z_; exact z_, by have z_ := BK205.out; rw [E198.out, E199.out, E200.out] at z_; exact z_, by have z_ := BK206.out; rw [E201.out, E202.out, E203.out] at z_; exact z_, HB.out⟩
 case rest =>
  obtain ⟨gb204, gb205, gb206, rfl, rfl, rfl, hk, hd, hn, hm, hB⟩ := hcut
  obtain ⟨w2, rfl⟩ : ∃ w2 : World, w2 = wc := ⟨_, rfl⟩
  clear A2 A3 A4 E195 E196 E197 E198 E199 E200 E201 E202 E203
  have ci0 : w2.cell? ⟨gb194, 0, none⟩ = some (Value.int .i64 a0_0) := (kCC hk 0).trans rfl
  have ci1 : w2.cell? ⟨gb194, 1, none⟩ = some (Value.int .i64 a0_1) := (kCC hk 1).trans rfl
  have ci2 : w2.cell? ⟨gb194, 2, none⟩ = some (Value.int .i64 a0_2) := (kCC hk 2).trans rfl
  have ci3 : w2.cell? ⟨gb194, 3, none⟩ = some (Value.int .i64 a0_3) := (kCC hk 3).trans rfl
  have ci4 : w2.cell? ⟨gb194, 4, none⟩ = some (Value.int .i64 a0_4) := (kCC hk 4).trans rfl
  have ci5 : w2.cell? ⟨gb194, 5, none⟩ = some (Value.int .i64 a0_5) := (kCC hk 5).trans rfl
  have ci6 : w2.cell? ⟨gb194, 6, none⟩ = some (Value.int .u64 a0_6) := (kCC hk 6).trans rfl
  have ci7 : w2.cell? ⟨gb194, 7, none⟩ = some (Value.int .i64 a0_7) := (kCC hk 7).trans rfl
  have ci8 : w2.cell? ⟨gb194, 8, none⟩ = some (Value.int .i64 a0_8) := (kCC hk 8).trans rfl
  have ci9 : w2.cell? ⟨gb194, 9, none⟩ = some (Value.int .i64 a0_9) := (kCC hk 9).trans rfl
  have cd0 : w2.cell? ⟨gb204, 0, none⟩ = some (Value.int .i64 0) := (kCC hd 0).trans rfl
  have cd1 : w2.cell? ⟨gb204, 1, none⟩ = some (Value.int .i64 5) := (kCC hd 1).trans rfl
  have cd2 : w2.cell? ⟨gb204, 2, none⟩ = some (Value.int .u32 (a0_1 % 4294967296)) := (kCC hd 2).trans rfl
  have cn0 : w2.cell? ⟨gb205, 0, none⟩ = some (Value.int .i64 5) := (kCC hn 0).trans rfl
  have cn1 : w2.cell? ⟨gb205, 1, none⟩ = some (Value.int .i64 5) := (kCC hn 1).trans rfl
  have cn2 : w2.cell? ⟨gb205, 2, none⟩ = some (Value.int .u32 (a0_2 % 4294967296)) := (kCC hn 2).trans rfl
  have cm0 : w2.cell? ⟨gb206, 0, none⟩ = some (Value.int .i64 16) := (kCC hm 0).trans rfl
  have cm1 : w2.cell? ⟨gb206, 1, none⟩ = some (Value.int .i64 5) := (kCC hm 1).trans rfl
  have cm2 : w2.cell? ⟨gb206, 2, none⟩ = some (Value.int .u32 (a0_3 % 4294967296)) := (kCC hm 2).trans rfl
  have hz : code_filled.f k a0_0 a0_1 a0_2 a0_3 a0_4 a0_5 a0_6 a0_7 a0_8 a0_9 = some r := HH.out
  obtain ⟨s, hs, hz⟩ := Option.bind_eq_some_iff.mp hz
  have HS := Azz.mk (fun W hG => inst_Shape.calls a0_0 s W hG hs)
  have HB2 := Azz.mk hB
  have HG2 := Azz.mk (hG.below hB)
  clear hs hB HB HH hk hd hn hm hG
  unfold code_filled.of at hz
  by_cases c1 : s = 1
  ·subst c1
   rw [if_pos rfl] at hz
   have HW := Azz.mk hz
   clear hz
   go_wp2_with (first | (go_at_call 40; (with_reducible refine (HS.out _ HG2.out).mono ?_); rintro e w' ⟨rfl, ⟨nd, rfl⟩⟩))
   go_region_held3 (fun w' => w'.cell? ⟨gb194, 0, none⟩ = some (Value.int .i64 a0_0) ∧ w'.cell? ⟨gb194, 1, none⟩ = some (Value.int .i64 a0_1) ∧ w'.cell? ⟨gb194, 2, none⟩ = some (Value.int .i64 a0_2) ∧ w'.cell? ⟨gb194, 3, none⟩ = some (Value.int .i64 a0_3) ∧ w'.cell? ⟨gb194, 4, none⟩ = some (Value.int .i64 a0_4) ∧ w'.cell? ⟨gb194, 5, none⟩ = some (Value.int .i64 a0_5) ∧ w'.cell? ⟨gb194, 6, none⟩ = some (Value.int .u64 a0_6) ∧ w'.cell? ⟨gb194, 7, none⟩ = some (Value.int .i64 a0_7) ∧ w'.cell? ⟨gb194, 8, none⟩ = some (Value.int .i64 a0_8) ∧ w'.cell? ⟨gb194, 9, none⟩ = some (Value.int .i64 a0_9) ∧ w'.cell? ⟨gb204, 0, none⟩ = some (Value.int .i64 0) ∧ w'.cell? ⟨gb204, 1, none⟩ = some (Value.int .i64 5) ∧ w'.cell? ⟨gb204, 2, none⟩ = some (Value.int .u32 (a0_1 % 4294967296)) ∧ w'.cell? ⟨gb205, 0, none⟩ = some (Value.int .i64 5) ∧ w'.cell? ⟨gb205, 1, none⟩ = some (Value.int .i64 5) ∧ w'.cell? ⟨gb205, 2, none⟩ = some (Value.int .u32 (a0_2 % 4294967296)) ∧ w'.cell? ⟨gb206, 0, none⟩ = some (Value.int .i64 16) ∧ w'.cell? ⟨gb206, 1, none⟩ = some (Value.int .i64 5) ∧ w'.cell? ⟨gb206, 2, none⟩ = some (Value.int .u32 (a0_3 % 4294967296))) (first | go_keep | exact keep_all (by assumption) hb) (first | (go_at_call 47; refine (code_field.calls _ _ _ _ _ _ _ rfl).mono ?_; rintro e w3 ⟨rfl, hb⟩) | (go_at_call 48; (refine (word3 k _ _ _ _ _ _ _ _ _ r _ HW.out).mono ?_); rintro e w4 ⟨rfl, hb⟩))
   all_goals go_wp2
   all_goals go_ret
   all_goals exact ⟨rfl, by repeat (first | (with_reducible exact HB2.out) | (with_reducible apply bNN) | (with_reducible apply bDD) | (with_reducible apply bAA) | (refine bTT ?_ (by assumption)))⟩
  rw [if_neg c1] at hz
  by_cases c2 : s = 2
  ·subst c2
   rw [if_pos rfl] at hz
   have HW := Azz.mk hz
   clear hz
   go_wp2_with (first | (go_at_call 40; (with_reducible refine (HS.out _ HG2.out).mono ?_); rintro e w' ⟨rfl, ⟨nd, rfl⟩⟩))
   go_region_held3 (fun w' => w'.cell? ⟨gb194, 0, none⟩ = some (Value.int .i64 a0_0) ∧ w'.cell? ⟨gb194, 1, none⟩ = some (Value.int .i64 a0_1) ∧ w'.cell? ⟨gb194, 2, none⟩ = some (Value.int .i64 a0_2) ∧ w'.cell? ⟨gb194, 3, none⟩ = some (Value.int .i64 a0_3) ∧ w'.cell? ⟨gb194, 4, none⟩ = some (Value.int .i64 a0_4) ∧ w'.cell? ⟨gb194, 5, none⟩ = some (Value.int .i64 a0_5) ∧ w'.cell? ⟨gb194, 6, none⟩ = some (Value.int .u64 a0_6) ∧ w'.cell? ⟨gb194, 7, none⟩ = some (Value.int .i64 a0_7) ∧ w'.cell? ⟨gb194, 8, none⟩ = some (Value.int .i64 a0_8) ∧ w'.cell? ⟨gb194, 9, none⟩ = some (Value.int .i64 a0_9) ∧ w'.cell? ⟨gb204, 0, none⟩ = some (Value.int .i64 0) ∧ w'.cell? ⟨gb204, 1, none⟩ = some (Value.int .i64 5) ∧ w'.cell? ⟨gb204, 2, none⟩ = some (Value.int .u32 (a0_1 % 4294967296)) ∧ w'.cell? ⟨gb205, 0, none⟩ = some (Value.int .i64 5) ∧ w'.cell? ⟨gb205, 1, none⟩ = some (Value.int .i64 5) ∧ w'.cell? ⟨gb205, 2, none⟩ = some (Value.int .u32 (a0_2 % 4294967296)) ∧ w'.cell? ⟨gb206, 0, none⟩ = some (Value.int .i64 16) ∧ w'.cell? ⟨gb206, 1, none⟩ = some (Value.int .i64 5) ∧ w'.cell? ⟨gb206, 2, none⟩ = some (Value.int .u32 (a0_3 % 4294967296))) (first | go_keep | exact keep_all (by assumption) hb) (first | (go_at_call 47; refine (code_field.calls _ _ _ _ _ _ _ rfl).mono ?_; rintro e w3 ⟨rfl, hb⟩) | (go_at_call 48; (refine (word4 k _ _ _ _ _ _ _ _ _ _ _ _ r _ HW.out).mono ?_); rintro e w4 ⟨rfl, hb⟩))
   all_goals go_wp2
   all_goals go_ret
   all_goals exact ⟨rfl, by repeat (first | (with_reducible exact HB2.out) | (with_reducible apply bNN) | (with_reducible apply bDD) | (with_reducible apply bAA) | (refine bTT ?_ (by assumption)))⟩
  rw [if_neg c2] at hz
  by_cases c3 : s = 3
  ·subst c3
   rw [if_pos rfl] at hz
   obtain ⟨⟨e1, e2, e3, e4⟩, he, hz⟩ := Option.bind_eq_some_iff.mp hz
   have HE := Azz.mk (fun W => mask_Encode.calls k a0_6 e1 e2 e3 e4 W he)
   clear he
   have HW := Azz.mk hz
   clear hz
   go_wp2_with (first | (go_at_call 40; (with_reducible refine (HS.out _ HG2.out).mono ?_); rintro e w' ⟨rfl, ⟨nd, rfl⟩⟩))
   refine (HE.out _).mono ?_
   rintro e w5 ⟨rfl, hb⟩
   obtain ⟨di0, di1, di2, di3, di4, di5, di6, di7, di8, di9, dd0, dd1, dd2, dn0, dn1, dn2, dm0, dm1, dm2⟩ := keep_all (gb194 := gb194) (gb204 := gb204) (gb205 := gb205) (gb206 := gb206) ⟨ci0, ci1, ci2, ci3, ci4, ci5, ci6, ci7, ci8, ci9, cd0, cd1, cd2, cn0, cn1, cn2, cm0, cm1, cm2⟩ (show Below w2.heap.size w2 w5 from bTT (by repeat (first | exact Below.refl _ _ | apply bNN)) hb)
   have HB3 : Azz (Below w.heap.size w w5) := ⟨bTT (by repeat (first | exact HB2.out | apply bNN)) hb⟩
   clear hb HB2 ci0 ci1 ci2 ci3 ci4 ci5 ci6 ci7 ci8 ci9 cd0 cd1 cd2 cn0 cn1 cn2 cm0 cm1 cm2
   have HB2 := HB3
   clear HB3
   go_wp2_with fail
   go_region_held3 (fun w' => w'.cell? ⟨gb194, 0, none⟩ = some (Value.int .i64 a0_0) ∧ w'.cell? ⟨gb194, 1, none⟩ = some (Value.int .i64 a0_1) ∧ w'.cell? ⟨gb194, 2, none⟩ = some (Value.int .i64 a0_2) ∧ w'.cell? ⟨gb194, 3, none⟩ = some (Value.int .i64 a0_3) ∧ w'.cell? ⟨gb194, 4, none⟩ = some (Value.int .i64 a0_4) ∧ w'.cell? ⟨gb194, 5, none⟩ = some (Value.int .i64 a0_5) ∧ w'.cell? ⟨gb194, 6, none⟩ = some (Value.int .u64 a0_6) ∧ w'.cell? ⟨gb194, 7, none⟩ = some (Value.int .i64 a0_7) ∧ w'.cell? ⟨gb194, 8, none⟩ = some (Value.int .i64 a0_8) ∧ w'.cell? ⟨gb194, 9, none⟩ = some (Value.int .i64 a0_9) ∧ w'.cell? ⟨gb204, 0, none⟩ = some (Value.int .i64 0) ∧ w'.cell? ⟨gb204, 1, none⟩ = some (Value.int .i64 5) ∧ w'.cell? ⟨gb204, 2, none⟩ = some (Value.int .u32 (a0_1 % 4294967296)) ∧ w'.cell? ⟨gb205, 0, none⟩ = some (Value.int .i64 5) ∧ w'.cell? ⟨gb205, 1, none⟩ = some (Value.int .i64 5) ∧ w'.cell? ⟨gb205, 2, none⟩ = some (Value.int .u32 (a0_2 % 4294967296)) ∧ w'.cell? ⟨gb206, 0, none⟩ = some (Value.int .i64 16) ∧ w'.cell? ⟨gb206, 1, none⟩ = some (Value.int .i64 5) ∧ w'.cell? ⟨gb206, 2, none⟩ = some (Value.int .u32 (a0_3 % 4294967296))) (first | go_keep | exact keep_all (by assumption) hb) (first | (go_at_call 47; refine (code_field.calls _ _ _ _ _ _ _ rfl).mono ?_; rintro e w3 ⟨rfl, hb⟩) | (go_at_call 48; (refine (word5 k _ _ _ _ _ _ _ _ _ _ _ _ _ _ _ r _ HW.out).mono ?_); rintro e w4 ⟨rfl, hb⟩))
   all_goals go_wp2
   all_goals go_ret
   all_goals exact ⟨rfl, by repeat (first | (with_reducible exact HB2.out) | (with_reducible apply bNN) | (with_reducible apply bDD) | (with_reducible apply bAA) | (refine bTT ?_ (by assumption)))⟩
  rw [if_neg c3] at hz
  by_cases c4 : s = 4
  ·subst c4
   rw [if_pos rfl] at hz
   have HW := Azz.mk hz
   clear hz
   go_wp2_with (first | (go_at_call 40; (with_reducible refine (HS.out _ HG2.out).mono ?_); rintro e w' ⟨rfl, ⟨nd, rfl⟩⟩))
   go_region_held3 (fun w' => w'.cell? ⟨gb194, 0, none⟩ = some (Value.int .i64 a0_0) ∧ w'.cell? ⟨gb194, 1, none⟩ = some (Value.int .i64 a0_1) ∧ w'.cell? ⟨gb194, 2, none⟩ = some (Value.int .i64 a0_2) ∧ w'.cell? ⟨gb194, 3, none⟩ = some (Value.int .i64 a0_3) ∧ w'.cell? ⟨gb194, 4, none⟩ = some (Value.int .i64 a0_4) ∧ w'.cell? ⟨gb194, 5, none⟩ = some (Value.int .i64 a0_5) ∧ w'.cell? ⟨gb194, 6, none⟩ = some (Value.int .u64 a0_6) ∧ w'.cell? ⟨gb194, 7, none⟩ = some (Value.int .i64 a0_7) ∧ w'.cell? ⟨gb194, 8, none⟩ = some (Value.int .i64 a0_8) ∧ w'.cell? ⟨gb194, 9, none⟩ = some (Value.int .i64 a0_9) ∧ w'.cell? ⟨gb204, 0, none⟩ = some (Value.int .i64 0) ∧ w'.cell? ⟨gb204, 1, none⟩ = some (Value.int .i64 5) ∧ w'.cell? ⟨gb204, 2, none⟩ = some (Value.int .u32 (a0_1 % 4294967296)) ∧ w'.cell? ⟨gb205, 0, none⟩ = some (Value.int .i64 5) ∧ w'.cell? ⟨gb205, 1, none⟩ = some (Value.int .i64 5) ∧ w'.cell? ⟨gb205, 2, none⟩ = some (Value.int .u32 (a0_2 % 4294967296)) ∧ w'.cell? ⟨gb206, 0, none⟩ = some (Value.int .i64 16) ∧ w'.cell? ⟨gb206, 1, none⟩ = some (Value.int .i64 5) ∧ w'.cell? ⟨gb206, 2, none⟩ = some (Value.int .u32 (a0_3 % 4294967296))) (first | go_keep | exact keep_all (by assumption) hb) (first | (go_at_call 47; refine (code_field.calls _ _ _ _ _ _ _ rfl).mono ?_; rintro e w3 ⟨rfl, hb⟩) | (go_at_call 48; (refine (word5 k _ _ _ _ _ _ _ _ _ _ _ _ _ _ _ r _ HW.out).mono ?_); rintro e w4 ⟨rfl, hb⟩))
   all_goals go_wp2
   all_goals go_ret
   all_goals exact ⟨rfl, by repeat (first | (with_reducible exact HB2.out) | (with_reducible apply bNN) | (with_reducible apply bDD) | (with_reducible apply bAA) | (refine bTT ?_ (by assumption)))⟩
  rw [if_neg c4] at hz
  by_cases c5 : s = 5
  ·subst c5
   rw [if_pos rfl] at hz
   have HW := Azz.mk hz
   clear hz
   go_wp2_with (first | (go_at_call 40; (with_reducible refine (HS.out _ HG2.out).mono ?_); rintro e w' ⟨rfl, ⟨nd, rfl⟩⟩))
   go_region_held3 (fun w' => w'.cell? ⟨gb194, 0, none⟩ = some (Value.int .i64 a0_0) ∧ w'.cell? ⟨gb194, 1, none⟩ = some (Value.int .i64 a0_1) ∧ w'.cell? ⟨gb194, 2, none⟩ = some (Value.int .i64 a0_2) ∧ w'.cell? ⟨gb194, 3, none⟩ = some (Value.int .i64 a0_3) ∧ w'.cell? ⟨gb194, 4, none⟩ = some (Value.int .i64 a0_4) ∧ w'.cell? ⟨gb194, 5, none⟩ = some (Value.int .i64 a0_5) ∧ w'.cell? ⟨gb194, 6, none⟩ = some (Value.int .u64 a0_6) ∧ w'.cell? ⟨gb194, 7, none⟩ = some (Value.int .i64 a0_7) ∧ w'.cell? ⟨gb194, 8, none⟩ = some (Value.int .i64 a0_8) ∧ w'.cell? ⟨gb194, 9, none⟩ = some (Value.int .i64 a0_9) ∧ w'.cell? ⟨gb204, 0, none⟩ = some (Value.int .i64 0) ∧ w'.cell? ⟨gb204, 1, none⟩ = some (Value.int .i64 5) ∧ w'.cell? ⟨gb204, 2, none⟩ = some (Value.int .u32 (a0_1 % 4294967296)) ∧ w'.cell? ⟨gb205, 0, none⟩ = some (Value.int .i64 5) ∧ w'.cell? ⟨gb205, 1, none⟩ = some (Value.int .i64 5) ∧ w'.cell? ⟨gb205, 2, none⟩ = some (Value.int .u32 (a0_2 % 4294967296)) ∧ w'.cell? ⟨gb206, 0, none⟩ = some (Value.int .i64 16) ∧ w'.cell? ⟨gb206, 1, none⟩ = some (Value.int .i64 5) ∧ w'.cell? ⟨gb206, 2, none⟩ = some (Value.int .u32 (a0_3 % 4294967296))) (first | go_keep | exact keep_all (by assumption) hb) (first | (go_at_call 47; refine (code_field.calls _ _ _ _ _ _ _ rfl).mono ?_; rintro e w3 ⟨rfl, hb⟩) | (go_at_call 48; (refine (word5 k _ _ _ _ _ _ _ _ _ _ _ _ _ _ _ r _ HW.out).mono ?_); rintro e w4 ⟨rfl, hb⟩))
   all_goals go_wp2
   all_goals go_ret
   all_goals exact ⟨rfl, by repeat (first | (with_reducible exact HB2.out) | (with_reducible apply bNN) | (with_reducible apply bDD) | (with_reducible apply bAA) | (refine bTT ?_ (by assumption)))⟩
  rw [if_neg c5] at hz
  by_cases c6 : s = 6
  ·subst c6
   rw [if_pos rfl] at hz
   have HW := Azz.mk hz
   clear hz
   go_wp2_with (first | (go_at_call 40; (with_reducible refine (HS.out _ HG2.out).mono ?_); rintro e w' ⟨rfl, ⟨nd, rfl⟩⟩))
   go_region_held3 (fun w' => w'.cell? ⟨gb194, 0, none⟩ = some (Value.int .i64 a0_0) ∧ w'.cell? ⟨gb194, 1, none⟩ = some (Value.int .i64 a0_1) ∧ w'.cell? ⟨gb194, 2, none⟩ = some (Value.int .i64 a0_2) ∧ w'.cell? ⟨gb194, 3, none⟩ = some (Value.int .i64 a0_3) ∧ w'.cell? ⟨gb194, 4, none⟩ = some (Value.int .i64 a0_4) ∧ w'.cell? ⟨gb194, 5, none⟩ = some (Value.int .i64 a0_5) ∧ w'.cell? ⟨gb194, 6, none⟩ = some (Value.int .u64 a0_6) ∧ w'.cell? ⟨gb194, 7, none⟩ = some (Value.int .i64 a0_7) ∧ w'.cell? ⟨gb194, 8, none⟩ = some (Value.int .i64 a0_8) ∧ w'.cell? ⟨gb194, 9, none⟩ = some (Value.int .i64 a0_9) ∧ w'.cell? ⟨gb204, 0, none⟩ = some (Value.int .i64 0) ∧ w'.cell? ⟨gb204, 1, none⟩ = some (Value.int .i64 5) ∧ w'.cell? ⟨gb204, 2, none⟩ = some (Value.int .u32 (a0_1 % 4294967296)) ∧ w'.cell? ⟨gb205, 0, none⟩ = some (Value.int .i64 5) ∧ w'.cell? ⟨gb205, 1, none⟩ = some (Value.int .i64 5) ∧ w'.cell? ⟨gb205, 2, none⟩ = some (Value.int .u32 (a0_2 % 4294967296)) ∧ w'.cell? ⟨gb206, 0, none⟩ = some (Value.int .i64 16) ∧ w'.cell? ⟨gb206, 1, none⟩ = some (Value.int .i64 5) ∧ w'.cell? ⟨gb206, 2, none⟩ = some (Value.int .u32 (a0_3 % 4294967296))) (first | go_keep | exact keep_all (by assumption) hb) (first | (go_at_call 47; refine (code_field.calls _ _ _ _ _ _ _ rfl).mono ?_; rintro e w3 ⟨rfl, hb⟩) | (go_at_call 48; (refine (word4 k _ _ _ _ _ _ _ _ _ _ _ _ r _ HW.out).mono ?_); rintro e w4 ⟨rfl, hb⟩))
   all_goals go_wp2
   all_goals go_ret
   all_goals exact ⟨rfl, by repeat (first | (with_reducible exact HB2.out) | (with_reducible apply bNN) | (with_reducible apply bDD) | (with_reducible apply bAA) | (refine bTT ?_ (by assumption)))⟩
  rw [if_neg c6] at hz
  by_cases c7 : s = 7
  ·subst c7
   rw [if_pos rfl] at hz
   have HW := Azz.mk hz
   clear hz
   go_wp2_with (first | (go_at_call 40; (with_reducible refine (HS.out _ HG2.out).mono ?_); rintro e w' ⟨rfl, ⟨nd, rfl⟩⟩))
   go_region_held3 (fun w' => w'.cell? ⟨gb194, 0, none⟩ = some (Value.int .i64 a0_0) ∧ w'.cell? ⟨gb194, 1, none⟩ = some (Value.int .i64 a0_1) ∧ w'.cell? ⟨gb194, 2, none⟩ = some (Value.int .i64 a0_2) ∧ w'.cell? ⟨gb194, 3, none⟩ = some (Value.int .i64 a0_3) ∧ w'.cell? ⟨gb194, 4, none⟩ = some (Value.int .i64 a0_4) ∧ w'.cell? ⟨gb194, 5, none⟩ = some (Value.int .i64 a0_5) ∧ w'.cell? ⟨gb194, 6, none⟩ = some (Value.int .u64 a0_6) ∧ w'.cell? ⟨gb194, 7, none⟩ = some (Value.int .i64 a0_7) ∧ w'.cell? ⟨gb194, 8, none⟩ = some (Value.int .i64 a0_8) ∧ w'.cell? ⟨gb194, 9, none⟩ = some (Value.int .i64 a0_9) ∧ w'.cell? ⟨gb204, 0, none⟩ = some (Value.int .i64 0) ∧ w'.cell? ⟨gb204, 1, none⟩ = some (Value.int .i64 5) ∧ w'.cell? ⟨gb204, 2, none⟩ = some (Value.int .u32 (a0_1 % 4294967296)) ∧ w'.cell? ⟨gb205, 0, none⟩ = some (Value.int .i64 5) ∧ w'.cell? ⟨gb205, 1, none⟩ = some (Value.int .i64 5) ∧ w'.cell? ⟨gb205, 2, none⟩ = some (Value.int .u32 (a0_2 % 4294967296)) ∧ w'.cell? ⟨gb206, 0, none⟩ = some (Value.int .i64 16) ∧ w'.cell? ⟨gb206, 1, none⟩ = some (Value.int .i64 5) ∧ w'.cell? ⟨gb206, 2, none⟩ = some (Value.int .u32 (a0_3 % 4294967296))) (first | go_keep | exact keep_all (by assumption) hb) (first | (go_at_call 47; refine (code_field.calls _ _ _ _ _ _ _ rfl).mono ?_; rintro e w3 ⟨rfl, hb⟩) | (go_at_call 48; (refine (word3 k _ _ _ _ _ _ _ _ _ r _ HW.out).mono ?_); rintro e w4 ⟨rfl, hb⟩))
   all_goals go_wp2
   all_goals go_ret
   all_goals exact ⟨rfl, by repeat (first | (with_reducible exact HB2.out) | (with_reducible apply bNN) | (with_reducible apply bDD) | (with_reducible apply bAA) | (refine bTT ?_ (by assumption)))⟩
  rw [if_neg c7] at hz
  by_cases c8 : s = 8
  ·subst c8
   rw [if_pos rfl] at hz
   have HW := Azz.mk hz
   clear hz
   go_wp2_with (first | (go_at_call 40; (with_reducible refine (HS.out _ HG2.out).mono ?_); rintro e w' ⟨rfl, ⟨nd, rfl⟩⟩))
   go_region_held3 (fun w' => w'.cell? ⟨gb194, 0, none⟩ = some (Value.int .i64 a0_0) ∧ w'.cell? ⟨gb194, 1, none⟩ = some (Value.int .i64 a0_1) ∧ w'.cell? ⟨gb194, 2, none⟩ = some (Value.int .i64 a0_2) ∧ w'.cell? ⟨gb194, 3, none⟩ = some (Value.int .i64 a0_3) ∧ w'.cell? ⟨gb194, 4, none⟩ = some (Value.int .i64 a0_4) ∧ w'.cell? ⟨gb194, 5, none⟩ = some (Value.int .i64 a0_5) ∧ w'.cell? ⟨gb194, 6, none⟩ = some (Value.int .u64 a0_6) ∧ w'.cell? ⟨gb194, 7, none⟩ = some (Value.int .i64 a0_7) ∧ w'.cell? ⟨gb194, 8, none⟩ = some (Value.int .i64 a0_8) ∧ w'.cell? ⟨gb194, 9, none⟩ = some (Value.int .i64 a0_9) ∧ w'.cell? ⟨gb204, 0, none⟩ = some (Value.int .i64 0) ∧ w'.cell? ⟨gb204, 1, none⟩ = some (Value.int .i64 5) ∧ w'.cell? ⟨gb204, 2, none⟩ = some (Value.int .u32 (a0_1 % 4294967296)) ∧ w'.cell? ⟨gb205, 0, none⟩ = some (Value.int .i64 5) ∧ w'.cell? ⟨gb205, 1, none⟩ = some (Value.int .i64 5) ∧ w'.cell? ⟨gb205, 2, none⟩ = some (Value.int .u32 (a0_2 % 4294967296)) ∧ w'.cell? ⟨gb206, 0, none⟩ = some (Value.int .i64 16) ∧ w'.cell? ⟨gb206, 1, none⟩ = some (Value.int .i64 5) ∧ w'.cell? ⟨gb206, 2, none⟩ = some (Value.int .u32 (a0_3 % 4294967296))) (first | go_keep | exact keep_all (by assumption) hb) (first | (go_at_call 47; refine (code_field.calls _ _ _ _ _ _ _ rfl).mono ?_; rintro e w3 ⟨rfl, hb⟩) | (go_at_call 48; (refine (word3 k _ _ _ _ _ _ _ _ _ r _ HW.out).mono ?_); rintro e w4 ⟨rfl, hb⟩))
   all_goals go_wp2
   all_goals go_ret
   all_goals exact ⟨rfl, by repeat (first | (with_reducible exact HB2.out) | (with_reducible apply bNN) | (with_reducible apply bDD) | (with_reducible apply bAA) | (refine bTT ?_ (by assumption)))⟩
  rw [if_neg c8] at hz
  by_cases c9 : s = 9
  ·subst c9
   rw [if_pos rfl] at hz
   have HW := Azz.mk hz
   clear hz
   have HP := Azz.mk (fun W => code_packed.calls 1 5 19 (IntKind.i64.wrap (Int.tdiv a0_5 4)) 5 19 (pk (IntKind.i64.wrap (Int.tdiv a0_5 4)) 19) W (packed_eq 5 (IntKind.i64.wrap (Int.tdiv a0_5 4)) 19 (by decide) (by decide)))
   go_wp2_with (first | (go_at_call 40; (with_reducible refine (HS.out _ HG2.out).mono ?_); rintro e w' ⟨rfl, ⟨nd, rfl⟩⟩))
   go_region_held3 (fun w' => w'.cell? ⟨gb194, 0, none⟩ = some (Value.int .i64 a0_0) ∧ w'.cell? ⟨gb194, 1, none⟩ = some (Value.int .i64 a0_1) ∧ w'.cell? ⟨gb194, 2, none⟩ = some (Value.int .i64 a0_2) ∧ w'.cell? ⟨gb194, 3, none⟩ = some (Value.int .i64 a0_3) ∧ w'.cell? ⟨gb194, 4, none⟩ = some (Value.int .i64 a0_4) ∧ w'.cell? ⟨gb194, 5, none⟩ = some (Value.int .i64 a0_5) ∧ w'.cell? ⟨gb194, 6, none⟩ = some (Value.int .u64 a0_6) ∧ w'.cell? ⟨gb194, 7, none⟩ = some (Value.int .i64 a0_7) ∧ w'.cell? ⟨gb194, 8, none⟩ = some (Value.int .i64 a0_8) ∧ w'.cell? ⟨gb194, 9, none⟩ = some (Value.int .i64 a0_9) ∧ w'.cell? ⟨gb204, 0, none⟩ = some (Value.int .i64 0) ∧ w'.cell? ⟨gb204, 1, none⟩ = some (Value.int .i64 5) ∧ w'.cell? ⟨gb204, 2, none⟩ = some (Value.int .u32 (a0_1 % 4294967296)) ∧ w'.cell? ⟨gb205, 0, none⟩ = some (Value.int .i64 5) ∧ w'.cell? ⟨gb205, 1, none⟩ = some (Value.int .i64 5) ∧ w'.cell? ⟨gb205, 2, none⟩ = some (Value.int .u32 (a0_2 % 4294967296)) ∧ w'.cell? ⟨gb206, 0, none⟩ = some (Value.int .i64 16) ∧ w'.cell? ⟨gb206, 1, none⟩ = some (Value.int .i64 5) ∧ w'.cell? ⟨gb206, 2, none⟩ = some (Value.int .u32 (a0_3 % 4294967296))) (first | go_keep | exact keep_all (by assumption) hb) (first | (go_at_call 47; refine (code_field.calls _ _ _ _ _ _ _ rfl).mono ?_; rintro e w3 ⟨rfl, hb⟩) | (go_at_call 50; (with_reducible refine (HP.out _).mono ?_); rintro e w3 ⟨rfl, hb⟩) | (go_at_call 48; (refine (word2 k _ _ _ _ _ _ r _ HW.out).mono ?_); rintro e w4 ⟨rfl, hb⟩))
   all_goals go_wp2
   all_goals go_ret
   all_goals exact ⟨rfl, by repeat (first | (with_reducible exact HB2.out) | (with_reducible apply bNN) | (with_reducible apply bDD) | (with_reducible apply bAA) | (refine bTT ?_ (by assumption)))⟩
  rw [if_neg c9] at hz
  by_cases c10 : s = 10
  ·subst c10
   rw [if_pos rfl] at hz
   have HW := Azz.mk hz
   clear hz
   obtain ⟨q0, hq⟩ := pack_eq a0_5 21 (by decide) (by decide)
   obtain ⟨q1, hq1⟩ := bfld_eq (pk a0_5 21) 0 2 (by decide) (by decide) (by decide) (by decide)
   obtain ⟨q2, hq2⟩ := bfld_eq (pk a0_5 21) 2 19 (by decide) (by decide) (by decide) (by decide)
   have HQ := Azz.mk (fun W => bits_Pack.calls 1 a0_5 21 (pk a0_5 21) q0 W hq)
   have HQ1 := Azz.mk (fun W => bits_Field.calls (pk a0_5 21) 0 2 (bfld (pk a0_5 21) 0 2) q1 W hq1)
   have HQ2 := Azz.mk (fun W => bits_Field.calls (pk a0_5 21) 2 19 (bfld (pk a0_5 21) 2 19) q2 W hq2)
   clear hq hq1 hq2
   go_wp2_with (first | (go_at_call 40; (with_reducible refine (HS.out _ HG2.out).mono ?_); rintro e w' ⟨rfl, ⟨nd, rfl⟩⟩) | (go_at_call 51; (with_reducible refine (HQ.out _).mono ?_); rintro e w' ⟨rfl, ⟨nd, rfl⟩⟩) | (go_at_call 52; (first | (with_reducible refine (HQ1.out _).mono ?_) | (with_reducible refine (HQ2.out _).mono ?_)); rintro e w' ⟨rfl, ⟨nd, rfl⟩⟩))
   go_region_held3 (fun w' => w'.cell? ⟨gb194, 0, none⟩ = some (Value.int .i64 a0_0) ∧ w'.cell? ⟨gb194, 1, none⟩ = some (Value.int .i64 a0_1) ∧ w'.cell? ⟨gb194, 2, none⟩ = some (Value.int .i64 a0_2) ∧ w'.cell? ⟨gb194, 3, none⟩ = some (Value.int .i64 a0_3) ∧ w'.cell? ⟨gb194, 4, none⟩ = some (Value.int .i64 a0_4) ∧ w'.cell? ⟨gb194, 5, none⟩ = some (Value.int .i64 a0_5) ∧ w'.cell? ⟨gb194, 6, none⟩ = some (Value.int .u64 a0_6) ∧ w'.cell? ⟨gb194, 7, none⟩ = some (Value.int .i64 a0_7) ∧ w'.cell? ⟨gb194, 8, none⟩ = some (Value.int .i64 a0_8) ∧ w'.cell? ⟨gb194, 9, none⟩ = some (Value.int .i64 a0_9) ∧ w'.cell? ⟨gb204, 0, none⟩ = some (Value.int .i64 0) ∧ w'.cell? ⟨gb204, 1, none⟩ = some (Value.int .i64 5) ∧ w'.cell? ⟨gb204, 2, none⟩ = some (Value.int .u32 (a0_1 % 4294967296)) ∧ w'.cell? ⟨gb205, 0, none⟩ = some (Value.int .i64 5) ∧ w'.cell? ⟨gb205, 1, none⟩ = some (Value.int .i64 5) ∧ w'.cell? ⟨gb205, 2, none⟩ = some (Value.int .u32 (a0_2 % 4294967296)) ∧ w'.cell? ⟨gb206, 0, none⟩ = some (Value.int .i64 16) ∧ w'.cell? ⟨gb206, 1, none⟩ = some (Value.int .i64 5) ∧ w'.cell? ⟨gb206, 2, none⟩ = some (Value.int .u32 (a0_3 % 4294967296))) (first | go_keep | exact keep_all (by assumption) hb) (first | (go_at_call 47; refine (code_field.calls _ _ _ _ _ _ _ rfl).mono ?_; rintro e w3 ⟨rfl, hb⟩) | (go_at_call 48; (refine (word3 k _ _ _ _ _ _ _ _ _ r _ HW.out).mono ?_); rintro e w4 ⟨rfl, hb⟩))
   all_goals go_wp2
   all_goals go_ret
   all_goals exact ⟨rfl, by repeat (first | (with_reducible exact HB2.out) | (with_reducible apply bNN) | (with_reducible apply bDD) | (with_reducible apply bAA) | (refine bTT ?_ (by assumption)))⟩
  rw [if_neg c10] at hz
  by_cases c11 : s = 11
  ·subst c11
   rw [if_pos rfl] at hz
   have HW := Azz.mk hz
   clear hz
   have HP := Azz.mk (fun W => code_packed.calls 1 0 26 (wrap64 (Int.tdiv a0_5 4)) 0 26 (pk (wrap64 (Int.tdiv a0_5 4)) 26) W (packed_eq 0 (wrap64 (Int.tdiv a0_5 4)) 26 (by decide) (by decide)))
   go_wp2_with (first | (go_at_call 40; (with_reducible refine (HS.out _ HG2.out).mono ?_); rintro e w' ⟨rfl, ⟨nd, rfl⟩⟩) | (go_at_call 47; refine (code_field.calls _ _ _ _ _ _ _ rfl).mono ?_; rintro e w3 ⟨rfl, hb⟩) | (go_at_call 50; (with_reducible refine (HP.out _).mono ?_); rintro e w3 ⟨rfl, hb⟩) | (go_at_call 48; (refine (word1 k _ _ _ r _ HW.out).mono ?_); rintro e w4 ⟨rfl, hb⟩))
   go_ret
   exact ⟨rfl, by repeat (first | (with_reducible exact HB2.out) | (with_reducible apply bNN) | (with_reducible apply bDD) | (with_reducible apply bAA) | (refine bTT ?_ (by assumption)))⟩
  rw [if_neg c11] at hz
  by_cases c12 : s = 12
  ·subst c12
   rw [if_pos rfl] at hz
   have HW := Azz.mk hz
   clear hz
   have HP := Azz.mk (fun W => code_packed.calls 1 5 19 (IntKind.i64.wrap (Int.tdiv a0_5 4)) 5 19 (pk (IntKind.i64.wrap (Int.tdiv a0_5 4)) 19) W (packed_eq 5 (IntKind.i64.wrap (Int.tdiv a0_5 4)) 19 (by decide) (by decide)))
   go_wp2_with (first | (go_at_call 40; (with_reducible refine (HS.out _ HG2.out).mono ?_); rintro e w' ⟨rfl, ⟨nd, rfl⟩⟩))
   go_region_held3 (fun w' => w'.cell? ⟨gb194, 0, none⟩ = some (Value.int .i64 a0_0) ∧ w'.cell? ⟨gb194, 1, none⟩ = some (Value.int .i64 a0_1) ∧ w'.cell? ⟨gb194, 2, none⟩ = some (Value.int .i64 a0_2) ∧ w'.cell? ⟨gb194, 3, none⟩ = some (Value.int .i64 a0_3) ∧ w'.cell? ⟨gb194, 4, none⟩ = some (Value.int .i64 a0_4) ∧ w'.cell? ⟨gb194, 5, none⟩ = some (Value.int .i64 a0_5) ∧ w'.cell? ⟨gb194, 6, none⟩ = some (Value.int .u64 a0_6) ∧ w'.cell? ⟨gb194, 7, none⟩ = some (Value.int .i64 a0_7) ∧ w'.cell? ⟨gb194, 8, none⟩ = some (Value.int .i64 a0_8) ∧ w'.cell? ⟨gb194, 9, none⟩ = some (Value.int .i64 a0_9) ∧ w'.cell? ⟨gb204, 0, none⟩ = some (Value.int .i64 0) ∧ w'.cell? ⟨gb204, 1, none⟩ = some (Value.int .i64 5) ∧ w'.cell? ⟨gb204, 2, none⟩ = some (Value.int .u32 (a0_1 % 4294967296)) ∧ w'.cell? ⟨gb205, 0, none⟩ = some (Value.int .i64 5) ∧ w'.cell? ⟨gb205, 1, none⟩ = some (Value.int .i64 5) ∧ w'.cell? ⟨gb205, 2, none⟩ = some (Value.int .u32 (a0_2 % 4294967296)) ∧ w'.cell? ⟨gb206, 0, none⟩ = some (Value.int .i64 16) ∧ w'.cell? ⟨gb206, 1, none⟩ = some (Value.int .i64 5) ∧ w'.cell? ⟨gb206, 2, none⟩ = some (Value.int .u32 (a0_3 % 4294967296))) (first | go_keep | exact keep_all (by assumption) hb) (first | (go_at_call 47; refine (code_field.calls _ _ _ _ _ _ _ rfl).mono ?_; rintro e w3 ⟨rfl, hb⟩) | (go_at_call 50; (with_reducible refine (HP.out _).mono ?_); rintro e w3 ⟨rfl, hb⟩) | (go_at_call 48; (refine (word2 k _ _ _ _ _ _ r _ HW.out).mono ?_); rintro e w4 ⟨rfl, hb⟩))
   all_goals go_wp2
   all_goals go_ret
   all_goals exact ⟨rfl, by repeat (first | (with_reducible exact HB2.out) | (with_reducible apply bNN) | (with_reducible apply bDD) | (with_reducible apply bAA) | (refine bTT ?_ (by assumption)))⟩
  rw [if_neg c12] at hz
  by_cases c13 : s = 13
  ·subst c13
   rw [if_pos rfl] at hz
   have HW := Azz.mk hz
   clear hz
   go_wp2_with (first | (go_at_call 40; (with_reducible refine (HS.out _ HG2.out).mono ?_); rintro e w' ⟨rfl, ⟨nd, rfl⟩⟩) | (go_at_call 47; refine (code_field.calls _ _ _ _ _ _ _ rfl).mono ?_; rintro e w3 ⟨rfl, hb⟩) | (go_at_call 48; (refine (word1 k _ _ _ r _ HW.out).mono ?_); rintro e w4 ⟨rfl, hb⟩))
   go_ret
   exact ⟨rfl, by repeat (first | (with_reducible exact HB2.out) | (with_reducible apply bNN) | (with_reducible apply bDD) | (with_reducible apply bAA) | (refine bTT ?_ (by assumption)))⟩
  rw [if_neg c13] at hz
  by_cases c14 : s = 14
  ·subst c14
   rw [if_pos rfl] at hz
   have HW := Azz.mk hz
   clear hz
   go_wp2_with (first | (go_at_call 40; (with_reducible refine (HS.out _ HG2.out).mono ?_); rintro e w' ⟨rfl, ⟨nd, rfl⟩⟩) | (go_at_call 47; refine (code_field.calls _ _ _ _ _ _ _ rfl).mono ?_; rintro e w3 ⟨rfl, hb⟩) | (go_at_call 48; (refine (word1 k _ _ _ r _ HW.out).mono ?_); rintro e w4 ⟨rfl, hb⟩))
   go_ret
   exact ⟨rfl, by repeat (first | (with_reducible exact HB2.out) | (with_reducible apply bNN) | (with_reducible apply bDD) | (with_reducible apply bAA) | (refine bTT ?_ (by assumption)))⟩
  rw [if_neg c14] at hz
  by_cases c16 : s = 16
  ·subst c16
   rw [if_pos rfl] at hz
   have HW := Azz.mk hz
   clear hz
   go_wp2_with (first | (go_at_call 40; (with_reducible refine (HS.out _ HG2.out).mono ?_); rintro e w' ⟨rfl, ⟨nd, rfl⟩⟩))
   go_region_held3 (fun w' => w'.cell? ⟨gb194, 0, none⟩ = some (Value.int .i64 a0_0) ∧ w'.cell? ⟨gb194, 1, none⟩ = some (Value.int .i64 a0_1) ∧ w'.cell? ⟨gb194, 2, none⟩ = some (Value.int .i64 a0_2) ∧ w'.cell? ⟨gb194, 3, none⟩ = some (Value.int .i64 a0_3) ∧ w'.cell? ⟨gb194, 4, none⟩ = some (Value.int .i64 a0_4) ∧ w'.cell? ⟨gb194, 5, none⟩ = some (Value.int .i64 a0_5) ∧ w'.cell? ⟨gb194, 6, none⟩ = some (Value.int .u64 a0_6) ∧ w'.cell? ⟨gb194, 7, none⟩ = some (Value.int .i64 a0_7) ∧ w'.cell? ⟨gb194, 8, none⟩ = some (Value.int .i64 a0_8) ∧ w'.cell? ⟨gb194, 9, none⟩ = some (Value.int .i64 a0_9) ∧ w'.cell? ⟨gb204, 0, none⟩ = some (Value.int .i64 0) ∧ w'.cell? ⟨gb204, 1, none⟩ = some (Value.int .i64 5) ∧ w'.cell? ⟨gb204, 2, none⟩ = some (Value.int .u32 (a0_1 % 4294967296)) ∧ w'.cell? ⟨gb205, 0, none⟩ = some (Value.int .i64 5) ∧ w'.cell? ⟨gb205, 1, none⟩ = some (Value.int .i64 5) ∧ w'.cell? ⟨gb205, 2, none⟩ = some (Value.int .u32 (a0_2 % 4294967296)) ∧ w'.cell? ⟨gb206, 0, none⟩ = some (Value.int .i64 16) ∧ w'.cell? ⟨gb206, 1, none⟩ = some (Value.int .i64 5) ∧ w'.cell? ⟨gb206, 2, none⟩ = some (Value.int .u32 (a0_3 % 4294967296))) (first | go_keep | exact keep_all (by assumption) hb) (first | (go_at_call 47; refine (code_field.calls _ _ _ _ _ _ _ rfl).mono ?_; rintro e w3 ⟨rfl, hb⟩) | (go_at_call 48; (refine (word4 k _ _ _ _ _ _ _ _ _ _ _ _ r _ HW.out).mono ?_); rintro e w4 ⟨rfl, hb⟩))
   all_goals go_wp2
   all_goals go_ret
   all_goals exact ⟨rfl, by repeat (first | (with_reducible exact HB2.out) | (with_reducible apply bNN) | (with_reducible apply bDD) | (with_reducible apply bAA) | (refine bTT ?_ (by assumption)))⟩
  rw [if_neg c16] at hz
  have hr := Option.some.inj hz
  subst hr
  clear hz
  have b1 : (s == 1) = false := beq_eq_false_iff_ne.mpr c1
  have b2 : (s == 2) = false := beq_eq_false_iff_ne.mpr c2
  have b3 : (s == 3) = false := beq_eq_false_iff_ne.mpr c3
  have b4 : (s == 4) = false := beq_eq_false_iff_ne.mpr c4
  have b5 : (s == 5) = false := beq_eq_false_iff_ne.mpr c5
  have b6 : (s == 6) = false := beq_eq_false_iff_ne.mpr c6
  have b7 : (s == 7) = false := beq_eq_false_iff_ne.mpr c7
  have b8 : (s == 8) = false := beq_eq_false_iff_ne.mpr c8
  have b9 : (s == 9) = false := beq_eq_false_iff_ne.mpr c9
  have b10 : (s == 10) = false := beq_eq_false_iff_ne.mpr c10
  have b11 : (s == 11) = false := beq_eq_false_iff_ne.mpr c11
  have b12 : (s == 12) = false := beq_eq_false_iff_ne.mpr c12
  have b13 : (s == 13) = false := beq_eq_false_iff_ne.mpr c13
  have b14 : (s == 14) = false := beq_eq_false_iff_ne.mpr c14
  have b16 : (s == 16) = false := beq_eq_false_iff_ne.mpr c16
  clear c1 c2 c3 c4 c5 c6 c7 c8 c9 c10 c11 c12 c13 c14 c16
  go_wp2_with (first | (go_at_call 40; (with_reducible refine (HS.out _ HG2.out).mono ?_); rintro e w' ⟨rfl, ⟨nd, rfl⟩⟩))
  go_ret
  exact ⟨rfl, by repeat (first | (with_reducible exact HB2.out) | (with_reducible apply bNN) | (with_reducible apply bDD) | (with_reducible apply bAA) | (refine bTT ?_ (by assumption)))⟩
end Go.Proofs.YtpcdebakiccecaaGreatDoor.P
