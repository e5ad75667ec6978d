/- Walks and plain laws of this claim, a part. -/
import Derived.Test.YtngmipfodjgmmaaGreatDoorFz28
import Derived.Test.YtngmipfodjgmmaaGreatDoorFz29
set_option linter.unusedVariables false
set_option linter.unusedSimpArgs false
section
namespace Go.Proofs.YtngmipfodjgmmaaGreatDoor.Pure
open Go Go.RowKit Wa Wb Wc
def an (a b : Nat) : Nat := a ^^^ (a &&& b)
theorem an_bit (a b j : Nat) : (an a b).testBit j = (a.testBit j && !b.testBit j) := by
 unfold an
 rw [Nat.testBit_xor, Nat.testBit_and]
 cases a.testBit j <;> cases b.testBit j <;> rfl
theorem an_zero (a : Nat) : an a 0 = a := by simp [an]
theorem an_le (a b : Nat) : an a b ≤ a := by
 refine Nat.le_of_testBit fun j h => ?_
 rw [an_bit] at h
 cases h' : a.testBit j
 ·rw [h'] at h; simp at h
 rfl
theorem an_lt {a b k : Nat} (h : a < 2 ^ k) : an a b < 2 ^ k := Nat.lt_of_le_of_lt (an_le a b) h
theorem an_full {a k : Nat} (h : a < 2 ^ k) : an a (2 ^ k - 1) = 0 := by
 unfold an
 rw [Nat.and_two_pow_sub_one_eq_mod, Nat.mod_eq_of_lt h, Nat.xor_self]
theorem an_comm (a b c : Nat) : an (an a b) c = an (an a c) b := by
 refine Nat.eq_of_testBit_eq fun j => ?_
 simp only [an_bit]
 cases a.testBit j <;> cases b.testBit j <;> cases c.testBit j <;> rfl
theorem seg_an (k a b c d : Nat) (hb : b < 2 ^ k) (hd : d < 2 ^ k) : an (2 ^ k * a + b) (2 ^ k * c + d) = 2 ^ k * an a c + an b d := by
 refine Nat.eq_of_testBit_eq fun j => ?_
 rw [an_bit, Nat.testBit_two_pow_mul_add _ hb, Nat.testBit_two_pow_mul_add _ hd, Nat.testBit_two_pow_mul_add _ (an_lt hb)]
 split <;> rw [an_bit]
theorem or_add (k a b : Nat) (hb : b < 2 ^ k) : b ||| 2 ^ k * a = 2 ^ k * a + b := by
 rw [Nat.or_comm, ← Nat.two_pow_add_eq_or_of_lt hb]
theorem u32_nat (a : Nat) (h : a < 4294967296) : (BitVec.ofInt 32 (a : Int)).toNat = a := by
 simp [BitVec.toNat_ofInt]
 omega
theorem wrap_u32 (a : Nat) (h : a < 4294967296) : IntKind.u32.wrap (a : Int) = (a : Int) := by
 show (a : Int) % 4294967296 = a
 omega
theorem bits_or (a b : Nat) (ha : a < 4294967296) (hb : b < 4294967296) : Go.bits .or .u32 (a : Int) (b : Int) = ((a ||| b : Nat) : Int) := by
 show IntKind.u32.wrap ((BitVec.ofInt 32 (a : Int) ||| BitVec.ofInt 32 (b : Int)).toNat : Int) = _
 rw [BitVec.toNat_or, u32_nat a ha, u32_nat b hb]
 exact wrap_u32 _ (Nat.or_lt_two_pow (n := 32) ha hb)
theorem bits_and (a b : Nat) (ha : a < 4294967296) (hb : b < 4294967296) : Go.bits .and .u32 (a : Int) (b : Int) = ((a &&& b : Nat) : Int) := by
 show IntKind.u32.wrap ((BitVec.ofInt 32 (a : Int) &&& BitVec.ofInt 32 (b : Int)).toNat : Int) = _
 rw [BitVec.toNat_and, u32_nat a ha, u32_nat b hb]
 exact wrap_u32 _ (Nat.and_lt_two_pow (n := 32) _ hb)
theorem bits_an (a b : Nat) (ha : a < 4294967296) (hb : b < 4294967296) : Go.bits .andNot .u32 (a : Int) (b : Int) = ((an a b : Nat) : Int) := by
 show IntKind.u32.wrap ((BitVec.ofInt 32 (a : Int) &&& ~~~ (BitVec.ofInt 32 (b : Int))).toNat : Int) = _
 have e : (BitVec.ofInt 32 (a : Int) &&& ~~~ (BitVec.ofInt 32 (b : Int))).toNat = an a b := by
  refine Nat.eq_of_testBit_eq fun j => ?_
  rw [BitVec.testBit_toNat, BitVec.getLsbD_and, BitVec.getLsbD_not, an_bit, ← BitVec.testBit_toNat, ← BitVec.testBit_toNat, u32_nat a ha, u32_nat b hb]
  by_cases hj : j < 32
  ·simp [hj]
  have : a.testBit j = false := Nat.testBit_lt_two_pow (Nat.lt_of_lt_of_le ha (Nat.pow_le_pow_right (n := 2) (by decide) (by omega : 32 ≤ j)))
  simp [this]
 rw [e]
 exact wrap_u32 _ (an_lt (k := 32) ha)
def shapeN (op : Nat) : Nat := (rd P.shapesL (op : Int)).toNat
def baseN (op : Nat) : Nat := (rd P.basesL (op : Int)).toNat
def fieldN (s : Nat) : Nat := (rd P.fieldsL (s : Int)).toNat
def maskN (op : Nat) : Nat := fieldN (shapeN op)
def apartB : Bool := (List.range 39).all fun i => (List.range 39).all fun j => i == j || !(an (baseN (i + 1)) (maskN (j + 1)) == an (baseN (j + 1)) (maskN (i + 1)))
theorem apart_ok : apartB = true := by kernel_rfl
theorem apart (i j : Nat) (hi : 1 ≤ i) (hi2 : i ≤ 39) (hj : 1 ≤ j) (hj2 : j ≤ 39) (h : an (baseN i) (maskN j) = an (baseN j) (maskN i)) : i = j := by
 have h1 := List.all_eq_true.1 apart_ok (i - 1) (List.mem_range.2 (by omega))
 have h2 := List.all_eq_true.1 h1 (j - 1) (List.mem_range.2 (by omega))
 rw [show i - 1 + 1 = i by omega, show j - 1 + 1 = j by omega, h] at h2
 simp at h2
 omega
def tablesB : Bool := (List.range 40).all fun i => (rd P.shapesL (i : Int) == (shapeN i : Int)) && (rd P.basesL (i : Int) == (baseN i : Int)) && decide (baseN i < 4294967296) && decide (shapeN i ≤ 16) && (rd P.fieldsL (shapeN i : Int) == (fieldN (shapeN i) : Int)) && decide (maskN i < 4294967296) && (i == 0 || decide (1 ≤ shapeN i))
theorem tables_ok : tablesB = true := by kernel_rfl
theorem tables (i : Nat) (hi : i ≤ 39) : rd P.shapesL (i : Int) = (shapeN i : Int) ∧ rd P.basesL (i : Int) = (baseN i : Int) ∧ baseN i < 4294967296 ∧ shapeN i ≤ 16 ∧ rd P.fieldsL (shapeN i : Int) = (maskN i : Int) ∧ maskN i < 4294967296 ∧ (1 ≤ i → 1 ≤ shapeN i) := by
 have h := List.all_eq_true.1 tables_ok i (List.mem_range.2 (by omega))
 simp only [Bool.and_eq_true, beq_iff_eq, decide_eq_true_eq, Bool.or_eq_true] at h
 obtain ⟨⟨⟨⟨⟨⟨h1, h2⟩, h3⟩, h4⟩, h5⟩, h6⟩, h7⟩ := h
 exact ⟨h1, h2, h3, h4, h5, h6, fun h => h7.resolve_left (by omega)⟩
theorem opcode_go (w op : Nat) (hw : w < 4294967296) (h1 : 1 ≤ op) (h2 : op ≤ 39) (h : an w (maskN op) = baseN op) :
 ∀ n x : Nat, 1 ≤ x → x + n = op → ∀ k, n < k → P.code_Opcode.l0 k (w : Int) (x : Int) = some (op : Int)
 | n, x, hx, hn, 0, hk => by omega
 | n, x, hx, hn, k + 1, hk => by
  obtain ⟨t1, t2, t3, t4, t5, t6, _⟩ := tables x (by omega)
  rw [P.code_Opcode.l0, if_pos (by omega), t1, t5, t2, bits_an w _ hw t6]
  by_cases e : x = op
  ·subst e
   rw [if_pos (by rw [h])]
  rw [if_neg]
  ·obtain ⟨m, rfl⟩ : ∃ m, n = m + 1 := ⟨n - 1, by omega⟩
   exact opcode_go w op hw h1 h2 h m (x + 1) (by omega) (by omega) k (by omega)
  intro e2
  have e3 : an w (maskN x) = baseN x := by omega
  exact e (apart x op hx (by omega) h1 h2 (by rw [← h, ← e3, an_comm]))
theorem opcode_of (w op : Nat) (hw : w < 4294967296) (h1 : 1 ≤ op) (h2 : op ≤ 39) (h : an w (maskN op) = baseN op) : P.code_Opcode.f (w : Int) = some (op : Int) :=
 opcode_go w op hw h1 h2 h (op - 1) 1 (by omega) (by omega) 40 (by omega)
theorem opcode_back (w : Nat) (hw : w < 4294967296) : ∀ (n x : Nat), 1 ≤ x → x + n = 40 → ∀ k, n < k →
 P.code_Opcode.l0 k (w : Int) (x : Int) = some 0 ∨ ∃ op : Nat, 1 ≤ op ∧ op ≤ 39 ∧ P.code_Opcode.l0 k (w : Int) (x : Int) = some (op : Int) ∧ an w (maskN op) = baseN op
 | n, x, hx, hn, 0, hk => by omega
 | 0, x, hx, hn, k + 1, hk => by
  rw [P.code_Opcode.l0, if_neg (by omega)]
  exact .inl rfl
 | n + 1, x, hx, hn, k + 1, hk => by
  obtain ⟨t1, t2, t3, t4, t5, t6, _⟩ := tables x (by omega)
  rw [P.code_Opcode.l0, if_pos (by omega), t1, t5, t2, bits_an w _ hw t6]
  by_cases e : an w (maskN x) = baseN x
  ·rw [if_pos (by rw [e])]
   exact .inr ⟨x, hx, by omega, rfl, e⟩
  rw [if_neg (by omega)]
  exact opcode_back w hw n (x + 1) (by omega) (by omega) k (by omega)
theorem opcode (w : Nat) (hw : w < 4294967296) : P.code_Opcode.f (w : Int) = some 0 ∨ ∃ op : Nat, 1 ≤ op ∧ op ≤ 39 ∧ P.code_Opcode.f (w : Int) = some (op : Int) ∧ an w (maskN op) = baseN op :=
 opcode_back w hw 39 1 (by omega) (by omega) 40 (by omega)
end Go.Proofs.YtngmipfodjgmmaaGreatDoor.Pure
end
section
namespace Go.Proofs.YtngmipfodjgmmaaGreatDoor.P
open Go.RowKit Wa Wb Wc
attribute [local go_sem] max2_int min2_int max_two min_two max_three min_three max_four min_four
theorem eqA197 (d : Nat) (w : World) (x0 y0 : Int) (x1 y1 : Int) (x2 y2 : Int) :
 (Op.equalIn (d + 2) 197 (.agg #[.int .i64 x0, .int .i64 x1, .int .i64 x2]) (.agg #[.int .i64 y0, .int .i64 y1, .int .i64 y2])).run Tryz.prog w = .ok (x0 == y0 && (x1 == y1 && (x2 == y2))) w := by
 refine eqA_of Tryz.underlying197 (by kernel_rfl) ?_
 refine eqf_cons (by rfl) (by go_simp; rfl) (by go_simp; rfl) (by go_simp) ?_
 refine eqf_cons (by rfl) (by go_simp; rfl) (by go_simp; rfl) (by go_simp) ?_
 exact eqf_last (by rfl) (by go_simp; rfl) (by go_simp; rfl) (by go_simp)
end Go.Proofs.YtngmipfodjgmmaaGreatDoor.P
end
