/- What is applied leads where it is to: the law of 'FixLeads', of what the walks compute. -/
import Derived.Test.YtjllhcfcdimbfaaDoorFl49
import Derived.Test.YtjllhcfcdimbfaaDoorFl36
import Derived.Test.YtjllhcfcdimbfaaDoorFl37
import Derived.Test.YtjllhcfcdimbfaaDoorFl38
import Derived.Lib.Bytes
namespace Go.Proofs.YtjllhcfcdimbfaaDoor.Pure
open Go Go.RowKit Go.Proofs.YtjllhcfcdimbfaaDoorW.PrintWords Go.Proofs.YtjllhcfcdimbfaaDoorW.PrintLast Go.Proofs.YtjllhcfcdimbfaaDoorW.PrintMore
set_option linter.unusedVariables false
set_option linter.unusedSimpArgs false
theorem shr64_nat (v n : Nat) (hn : n ≤ 64) : shr .u64 (v : Int) (n : Int) = ((v / 2 ^ n : Nat) : Int) := by
  unfold shr
  rw [Int.toNat_natCast, Nat.min_eq_left (by show n ≤ 64; omega)]
  push_cast
  rfl
theorem shl64_nat (v a : Nat) (ha : a ≤ 64) (h : 2 ^ a * v < 18446744073709551616) : shl .u64 (v : Int) (a : Int) = ((2 ^ a * v : Nat) : Int) := by
  unfold shl
  rw [Int.toNat_natCast, Nat.min_eq_left (by show a ≤ 64; omega)]
  have e : (v : Int) * 2 ^ a = ((2 ^ a * v : Nat) : Int) := by rw [Nat.mul_comm]; push_cast; rfl
  rw [e, u64_wrap]
  omega
theorem or64 (a b : Nat) (ha : a < 18446744073709551616) (hb : b < 18446744073709551616) : Go.bits .or .u64 (a : Int) (b : Int) = ((a ||| b : Nat) : Int) := by
  show IntKind.u64.wrap ((BitVec.ofInt 64 (a : Int) ||| BitVec.ofInt 64 (b : Int)).toNat : Int) = _
  rw [BitVec.toNat_or, u64_nat a ha, u64_nat b hb, u64_wrap]
  have := Nat.or_lt_two_pow (n := 64) ha hb
  omega
theorem num_step (acc b n : Nat) (hn : n ≤ 56) (hacc : acc < 2 ^ n) (hb : b < 256) : Go.bits .or .u64 (acc : Int) (shl .u64 (IntKind.u64.wrap (b : Int)) (n : Int)) = ((acc + 2 ^ n * b : Nat) : Int) := by
  have h1 : 2 ^ n * b + 2 ^ n ≤ 2 ^ n * 256 := by
    rw [← Nat.mul_succ]
    exact Nat.mul_le_mul_left _ hb
  have h2 : 2 ^ n * 256 ≤ 18446744073709551616 := by
    rw [show 256 = 2 ^ 8 by decide, ← Nat.pow_add]
    exact Nat.pow_le_pow_right (n := 2) (by decide) (show n + 8 ≤ 64 by omega)
  rw [show IntKind.u64.wrap (b : Int) = (b : Int) by rw [u64_wrap]; omega, shl64_nat b n (by omega) (by omega), or64 _ _ (by omega) (by omega), or_add n b acc hacc, Nat.add_comm]
theorem u8_back (b : Nat) (hb : b < 256) : (((UInt8.ofNat ((b : Int)).toNat).toNat : Nat) : Int) = (b : Int) := by
  rw [Int.toNat_natCast]
  have : (UInt8.ofNat b).toNat = b := by
    rw [UInt8.toNat_ofNat']
    omega
  rw [this]
theorem bytes4 (v : Int) : P.fix_bytes.f 20 v 4 = some (strOfNums [shr .u64 v ((0 : Nat) : Int) % 256, shr .u64 v ((8 : Nat) : Int) % 256, shr .u64 v ((16 : Nat) : Int) % 256, shr .u64 v ((24 : Nat) : Int) % 256]) := by kernel_rfl
theorem bytes8 (v : Int) : P.fix_bytes.f 20 v 8 = some (strOfNums [shr .u64 v ((0 : Nat) : Int) % 256, shr .u64 v ((8 : Nat) : Int) % 256, shr .u64 v ((16 : Nat) : Int) % 256, shr .u64 v ((24 : Nat) : Int) % 256,
    shr .u64 v ((32 : Nat) : Int) % 256, shr .u64 v ((40 : Nat) : Int) % 256, shr .u64 v ((48 : Nat) : Int) % 256, shr .u64 v ((56 : Nat) : Int) % 256]) := by kernel_rfl
theorem number4 (a b c d : Int) : P.fix_number.f 20 (strOfNums [a, b, c, d]) = some (Go.bits .or .u64 (Go.bits .or .u64 (Go.bits .or .u64 (Go.bits .or .u64 ((0 : Nat) : Int)
    (shl .u64 (IntKind.u64.wrap (((UInt8.ofNat a.toNat).toNat : Nat) : Int)) ((0 : Nat) : Int))) (shl .u64 (IntKind.u64.wrap (((UInt8.ofNat b.toNat).toNat : Nat) : Int)) ((8 : Nat) : Int)))
    (shl .u64 (IntKind.u64.wrap (((UInt8.ofNat c.toNat).toNat : Nat) : Int)) ((16 : Nat) : Int))) (shl .u64 (IntKind.u64.wrap (((UInt8.ofNat d.toNat).toNat : Nat) : Int)) ((24 : Nat) : Int))) := by kernel_rfl
theorem number8 (a b c d e f g h : Int) : P.fix_number.f 20 (strOfNums [a, b, c, d, e, f, g, h]) = some (Go.bits .or .u64 (Go.bits .or .u64 (Go.bits .or .u64 (Go.bits .or .u64 (Go.bits .or .u64 (Go.bits .or .u64 (Go.bits .or .u64 (Go.bits .or .u64 ((0 : Nat) : Int)
    (shl .u64 (IntKind.u64.wrap (((UInt8.ofNat a.toNat).toNat : Nat) : Int)) ((0 : Nat) : Int))) (shl .u64 (IntKind.u64.wrap (((UInt8.ofNat b.toNat).toNat : Nat) : Int)) ((8 : Nat) : Int)))
    (shl .u64 (IntKind.u64.wrap (((UInt8.ofNat c.toNat).toNat : Nat) : Int)) ((16 : Nat) : Int))) (shl .u64 (IntKind.u64.wrap (((UInt8.ofNat d.toNat).toNat : Nat) : Int)) ((24 : Nat) : Int)))
    (shl .u64 (IntKind.u64.wrap (((UInt8.ofNat e.toNat).toNat : Nat) : Int)) ((32 : Nat) : Int))) (shl .u64 (IntKind.u64.wrap (((UInt8.ofNat f.toNat).toNat : Nat) : Int)) ((40 : Nat) : Int)))
    (shl .u64 (IntKind.u64.wrap (((UInt8.ofNat g.toNat).toNat : Nat) : Int)) ((48 : Nat) : Int))) (shl .u64 (IntKind.u64.wrap (((UInt8.ofNat h.toNat).toNat : Nat) : Int)) ((56 : Nat) : Int))) := by kernel_rfl
theorem byte_nat (v n : Nat) (hn : n ≤ 64) : shr .u64 (v : Int) (n : Int) % 256 = ((v / 2 ^ n % 256 : Nat) : Int) := by
  rw [shr64_nat v n hn]
  rfl
theorem sum4 (m : Nat) (h : m < 4294967296) : 0 + 2 ^ 0 * (m / 2 ^ 0 % 256) + 2 ^ 8 * (m / 2 ^ 8 % 256) + 2 ^ 16 * (m / 2 ^ 16 % 256) + 2 ^ 24 * (m / 2 ^ 24 % 256) = m := by omega
theorem sum8 (m : Nat) (h : m < 18446744073709551616) : 0 + 2 ^ 0 * (m / 2 ^ 0 % 256) + 2 ^ 8 * (m / 2 ^ 8 % 256) + 2 ^ 16 * (m / 2 ^ 16 % 256) + 2 ^ 24 * (m / 2 ^ 24 % 256) +
    2 ^ 32 * (m / 2 ^ 32 % 256) + 2 ^ 40 * (m / 2 ^ 40 % 256) + 2 ^ 48 * (m / 2 ^ 48 % 256) + 2 ^ 56 * (m / 2 ^ 56 % 256) = m := by omega
theorem back4 (m : Nat) (h : m < 4294967296) : ∃ s : ByteArray, s.size = 4 ∧ Ev (fun k => P.fix_bytes.f k (m : Int) 4) s ∧ Ev (fun k => P.fix_number.f k s) (m : Int) := by
  have e1 := bytes4 (m : Int)
  rw [byte_nat m 0 (by decide), byte_nat m 8 (by decide), byte_nat m 16 (by decide), byte_nat m 24 (by decide)] at e1
  have e2 := number4 ((m / 2 ^ 0 % 256 : Nat) : Int) ((m / 2 ^ 8 % 256 : Nat) : Int) ((m / 2 ^ 16 % 256 : Nat) : Int) ((m / 2 ^ 24 % 256 : Nat) : Int)
  have lt : ∀ n : Nat, n % 256 < 256 := fun n => Nat.mod_lt _ (by decide)
  have s := sum4 m h
  have l0 := lt (m / 2 ^ 0)
  have l1 := lt (m / 2 ^ 8)
  have l2 := lt (m / 2 ^ 16)
  have l3 := lt (m / 2 ^ 24)
  refine ⟨_, rfl, Ev.of (fun k => P.fix_bytes.mono _ _ k) e1, Ev.of (fun k => P.fix_number.mono _ k) (e2.trans ?_)⟩
  generalize m / 2 ^ 0 % 256 = a at l0 s ⊢
  generalize m / 2 ^ 8 % 256 = b at l1 s ⊢
  generalize m / 2 ^ 16 % 256 = c at l2 s ⊢
  generalize m / 2 ^ 24 % 256 = d at l3 s ⊢
  rw [u8_back a l0, u8_back b l1, u8_back c l2, u8_back d l3, num_step 0 a 0 (by decide) (by decide) l0, num_step _ b 8 (by decide) (by omega) l1, num_step _ c 16 (by decide) (by omega) l2, num_step _ d 24 (by decide) (by omega) l3, s]
theorem back8 (m : Nat) (h : m < 18446744073709551616) : ∃ s : ByteArray, s.size = 8 ∧ Ev (fun k => P.fix_bytes.f k (m : Int) 8) s ∧ Ev (fun k => P.fix_number.f k s) (m : Int) := by
  have e1 := bytes8 (m : Int)
  rw [byte_nat m 0 (by decide), byte_nat m 8 (by decide), byte_nat m 16 (by decide), byte_nat m 24 (by decide), byte_nat m 32 (by decide), byte_nat m 40 (by decide), byte_nat m 48 (by decide), byte_nat m 56 (by decide)] at e1
  have e2 := number8 ((m / 2 ^ 0 % 256 : Nat) : Int) ((m / 2 ^ 8 % 256 : Nat) : Int) ((m / 2 ^ 16 % 256 : Nat) : Int) ((m / 2 ^ 24 % 256 : Nat) : Int) ((m / 2 ^ 32 % 256 : Nat) : Int) ((m / 2 ^ 40 % 256 : Nat) : Int) ((m / 2 ^ 48 % 256 : Nat) : Int) ((m / 2 ^ 56 % 256 : Nat) : Int)
  have lt : ∀ n : Nat, n % 256 < 256 := fun n => Nat.mod_lt _ (by decide)
  have s := sum8 m h
  have l0 := lt (m / 2 ^ 0)
  have l1 := lt (m / 2 ^ 8)
  have l2 := lt (m / 2 ^ 16)
  have l3 := lt (m / 2 ^ 24)
  have l4 := lt (m / 2 ^ 32)
  have l5 := lt (m / 2 ^ 40)
  have l6 := lt (m / 2 ^ 48)
  have l7 := lt (m / 2 ^ 56)
  refine ⟨_, rfl, Ev.of (fun k => P.fix_bytes.mono _ _ k) e1, Ev.of (fun k => P.fix_number.mono _ k) (e2.trans ?_)⟩
  generalize m / 2 ^ 0 % 256 = a at l0 s ⊢
  generalize m / 2 ^ 8 % 256 = b at l1 s ⊢
  generalize m / 2 ^ 16 % 256 = c at l2 s ⊢
  generalize m / 2 ^ 24 % 256 = d at l3 s ⊢
  generalize m / 2 ^ 32 % 256 = e at l4 s ⊢
  generalize m / 2 ^ 40 % 256 = f at l5 s ⊢
  generalize m / 2 ^ 48 % 256 = g at l6 s ⊢
  generalize m / 2 ^ 56 % 256 = i at l7 s ⊢
  rw [u8_back a l0, u8_back b l1, u8_back c l2, u8_back d l3, u8_back e l4, u8_back f l5, u8_back g l6, u8_back i l7, num_step 0 a 0 (by decide) (by decide) l0, num_step _ b 8 (by decide) (by omega) l1, num_step _ c 16 (by decide) (by omega) l2, num_step _ d 24 (by decide) (by omega) l3,
    num_step _ e 32 (by decide) (by omega) l4, num_step _ f 40 (by decide) (by omega) l5, num_step _ g 48 (by decide) (by omega) l6, num_step _ i 56 (by decide) (by omega) l7, s]
theorem data_number_ends (s : ByteArray) (h : s.size ≤ 8) : Ends (fun k => P.fix_number.f k s) := by
  have go : ∀ (j i : Nat) (acc : Int), i + j = s.size → Ends (fun k => P.fix_number.l0 k s acc (s.size : Int) (i : Int)) := by
    intro j
    induction j with
    | zero =>
      intro i acc hi
      exact Ends.step (fun k => P.fix_number.l0.eq_2 _ _ _ _ _) (Ends.ite (fun h => absurd h (by omega)) fun _ => Ends.now _)
    | succ j ih =>
      intro i acc hi
      refine Ends.step (fun k => P.fix_number.l0.eq_2 _ _ _ _ _) (Ends.ite (fun _ => Ends.ite (fun _ => Ends.ite (fun _ => Ends.ite (fun _ => ?_) fun h' => ?_) fun h' => absurd h' (by omega)) fun h' => absurd h' (by omega)) fun _ => Ends.now _)
      · rw [wrap64_small ((i : Int) + 1) (by omega) (by omega)]
        exact ih (i + 1) _ (by omega)
      · rw [wrap64_small (8 * (i : Int)) (by omega) (by omega)] at h'
        omega
  exact go s.size 0 0 (by omega)
theorem near_leads (a b : Int) (hb : 0 ≤ b ∧ b < 18446744073709551616) : IntKind.u64.wrap (a + IntKind.u64.wrap (wrap64 (IntKind.u64.wrap (b - a)))) = b := by
  simp only [u64_wrap]
  unfold wrap64
  omega
theorem page_leads (a b : Int) (ha : 0 ≤ a ∧ a < 18446744073709551616) (hb : 0 ≤ b ∧ b < 18446744073709551616) :
    IntKind.u64.wrap (IntKind.u64.wrap (a - Int.tmod a 4096) + IntKind.u64.wrap (IntKind.u64.wrap (wrap64 (Int.tdiv (wrap64 (IntKind.u64.wrap (IntKind.u64.wrap (b - Int.tmod b 4096) - IntKind.u64.wrap (a - Int.tmod a 4096)))) 4096)) * 4096)) = IntKind.u64.wrap (b - Int.tmod b 4096) := by
  rw [Int.tmod_eq_emod_of_nonneg ha.1, Int.tmod_eq_emod_of_nonneg hb.1]
  obtain ⟨A, hA⟩ : ∃ A, A = a / 4096 := ⟨_, rfl⟩
  obtain ⟨B, hB⟩ : ∃ B, B = b / 4096 := ⟨_, rfl⟩
  have ea : IntKind.u64.wrap (a - a % 4096) = A * 4096 := by rw [u64_wrap]; omega
  have eb : IntKind.u64.wrap (b - b % 4096) = B * 4096 := by rw [u64_wrap]; omega
  rw [ea, eb]
  obtain ⟨q, hq⟩ : ∃ q, wrap64 (IntKind.u64.wrap (B * 4096 - A * 4096)) = q * 4096 := by
    refine ⟨wrap64 (IntKind.u64.wrap (B * 4096 - A * 4096)) / 4096, ?_⟩
    rw [u64_wrap]
    unfold wrap64
    omega
  have hq2 := hq
  rw [u64_wrap] at hq2
  unfold wrap64 at hq2
  rw [hq, Int.mul_tdiv_cancel q (by decide), wrap64_small q (by omega) (by omega)]
  simp only [u64_wrap]
  omega
theorem rule_near (kind a b v : Int) (h1 : 2 ≤ kind) (h5 : kind < 6) (h : P.ruleNum kind a b = some v) : v = wrap64 (IntKind.u64.wrap (b - a)) := by
  have e : P.ruleNum kind a b = P.place_Far.f a b := by
    rcases (show kind = 2 ∨ kind = 3 ∨ kind = 4 ∨ kind = 5 by omega) with rfl | rfl | rfl | rfl <;> rfl
  rw [e] at h
  exact (Option.some.inj h).symm
theorem rule_page (a b v : Int) (h : P.ruleNum 6 a b = some v) : v = wrap64 (Int.tdiv (wrap64 (IntKind.u64.wrap (IntKind.u64.wrap (b - Int.tmod b 4096) - IntKind.u64.wrap (a - Int.tmod a 4096)))) 4096) := by
  have e : P.ruleNum 6 a b = P.fix_pages.f a b := rfl
  rw [e] at h
  exact (Option.some.inj h).symm
theorem value_whole (a b : Int) (hb : 0 ≤ b ∧ b < 18446744073709551616) : P.fix_Value.f 1 a b = some (b, 0) := by
  have e : P.fix_Value.f 1 a b = some (P.fixEnd (wrap64 b) 1 (-9223372036854775808) 9223372036854775807) := rfl
  rw [e]
  unfold P.fixEnd
  have l : -9223372036854775808 ≤ wrap64 b ∧ wrap64 b ≤ 9223372036854775807 := by unfold wrap64; omega
  rw [if_pos (Int.tmod_one _), if_neg (by omega), if_neg (by omega)]
  have e2 : IntKind.u64.wrap (wrap64 b) = b := by
    rw [u64_wrap]
    unfold wrap64
    omega
  rw [e2]
theorem data_word (kind : Int) (s : ByteArray) (h1 : 2 ≤ kind) (h2 : kind ≤ 9) (hs : s.size = 4) : P.fix_isData.f kind s = some true := by
  unfold P.fix_isData.f
  rw [if_neg (by omega), if_pos (by omega), if_pos (by omega), hs]
  rfl
theorem data_whole (s : ByteArray) (hs : s.size = 8) : P.fix_isData.f 1 s = some true := by
  unfold P.fix_isData.f
  rw [if_pos rfl, hs]
  rfl
theorem data_no (kind : Int) (s : ByteArray) (h : ¬ (kind = 1 ∧ s.size = 8)) (h' : ¬ (2 ≤ kind ∧ kind ≤ 9 ∧ s.size = 4)) : P.fix_isData.f kind s = some false := by
  unfold P.fix_isData.f
  by_cases hk : kind = 1
  · rw [if_pos hk]
    have : ((s.size : Int) == 8) = false := beq_eq_false_iff_ne.mpr (by omega)
    rw [this]
  · rw [if_neg hk]
    by_cases h1 : kind > 1
    · rw [if_pos h1]
      by_cases h9 : kind ≤ 9
      · rw [if_pos h9]
        have : ((s.size : Int) == 4) = false := beq_eq_false_iff_ne.mpr (by omega)
        rw [this]
      · rw [if_neg h9]
    · rw [if_neg h1]
theorem empty_is : ((⟨#[]⟩ : ByteArray).toList == ([] : List UInt8)) = true := by
  rw [show (⟨#[]⟩ : ByteArray) = strOfNums [] from rfl, Go.Lib.strOfNums_toList]
  rfl
theorem FixLeads (kind : Int) (s : ByteArray) (a b : Int) (wk : (Lit.int .i64 kind).wf = true) (ws : s.size ≤ 140737488351232) (wa : (Lit.int .u64 a).wf = true) (wb : (Lit.int .u64 b).wf = true) :
    ∃ r, P.cleatlaw26_FixLeads.f r kind s a b = some true := by
  refine Ev.rounds (g := fun r => P.cleatlaw26_FixLeads.f r kind s a b) ?_
  have pos : ∀ z : Int, (Lit.int .u64 z).wf = true → 0 ≤ z ∧ z < 18446744073709551616 := by
    intro z hz
    simp only [Lit.wf, Bool.and_eq_true, decide_eq_true_eq] at hz
    have e1 : IntKind.u64.min = 0 := by decide
    have e2 : IntKind.u64.max = 18446744073709551615 := by decide
    rw [e1, e2] at hz
    omega
  have ha := pos a wa
  have hb := pos b wb
  by_cases h40 : (s.size : Int) > 40
  · unfold P.cleatlaw26_FixLeads.f
    exact Ev.congr (fun k => if_pos h40) (Ev.now _)
  have fell : ∀ e : Int, e ≠ 0 → Ev (fun k => P.fix_Apply.f k kind s a b) ((⟨#[]⟩ : ByteArray), e) → Ev (fun r => P.cleatlaw26_FixLeads.f r kind s a b) true := by
    intro e he hA
    unfold P.cleatlaw26_FixLeads.f
    refine Ev.congr (fun k => if_neg h40) (Ev.bind hA ?_)
    refine Ev.congr (fun k => if_neg he) (Ev.bind fixed_ev (Ev.congr (fun k => if_pos rfl) (Ev.plain ?_)))
    exact congrArg some empty_is
  by_cases c1 : kind = 1 ∧ s.size = 8
  · obtain ⟨rfl, hs⟩ := c1
    obtain ⟨m, rfl⟩ := Int.eq_ofNat_of_zero_le hb.1
    obtain ⟨t, ht, hby, hnum⟩ := back8 m (by omega)
    have hA : Ev (fun k => P.fix_Apply.f k 1 s a (m : Int)) (t, 0) := by
      unfold P.fix_Apply.f
      refine Ev.bind (Ev.plain (data_whole s hs)) (Ev.congr (fun k => if_pos rfl) (Ev.congr (fun k => if_pos rfl) ?_))
      refine Ev.bind (Ev.plain (value_whole a _ hb)) (Ev.congr (fun k => if_pos rfl) (Ev.bind hby (Ev.now _)))
    have hG : Ev (fun k => P.fix_Goal.f k 1 t a) ((m : Int), 0) := by
      unfold P.fix_Goal.f
      refine Ev.bind (Ev.plain (data_whole t ht)) (Ev.congr (fun k => if_pos rfl) ?_)
      refine Ev.step (fun k => P.fix_Goal.j0.eq_2 _ _ _ _ _) (Ev.congr (fun k => if_neg (by decide)) (Ev.congr (fun k => if_pos rfl) (Ev.bind hnum (Ev.now _))))
    unfold P.cleatlaw26_FixLeads.f
    refine Ev.congr (fun k => if_neg h40) (Ev.bind hA (Ev.congr (fun k => if_pos rfl) (Ev.congr (fun k => if_neg (by decide)) (Ev.bind hG ?_))))
    refine Ev.congr (fun k => if_neg (by decide)) (Ev.bind fixed_ev (Ev.congr (fun k => if_pos rfl) (Ev.congr (fun k => if_pos rfl) (Ev.congr (fun k => if_pos rfl) (Ev.plain (congrArg some ?_))))))
    rw [ht, hs]
    rfl
  by_cases c2 : 2 ≤ kind ∧ kind ≤ 9 ∧ s.size = 4
  · obtain ⟨h1, h2, hs⟩ := c2
    obtain ⟨t, ht⟩ := data_number_ends s (by omega)
    obtain ⟨w, hwe, hw⟩ : ∃ w : Nat, t % 4294967296 = (w : Int) ∧ w < 4294967296 := ⟨(t % 4294967296).toNat, by omega, by omega⟩
    have hA0 : ∀ e : Int, e ≠ 0 → Ev (fun k => P.fix_Word.f k kind (w : Int) a b) (0, e) → Ev (fun k => P.fix_Apply.f k kind s a b) ((⟨#[]⟩ : ByteArray), e) := by
      intro e he hword
      unfold P.fix_Apply.f
      refine Ev.bind (Ev.plain (data_word kind s h1 h2 hs)) (Ev.congr (fun k => if_pos rfl) (Ev.congr (fun k => if_neg (by omega)) (Ev.bind ht ?_)))
      rw [← hwe] at hword
      exact Ev.bind hword (Ev.congr (fun k => if_neg he) (Ev.now _))
    obtain ⟨fit, hfit⟩ := fits_ends kind w hw
    cases fit with
    | false => exact fell 11 (by decide) (hA0 11 (by decide) (word_fell kind w a b h1 h2 hfit))
    | true =>
      obtain ⟨v, vv, hr, hv, hgood⟩ := value_ok kind a b h1 h2
      by_cases h0 : vv.2 = 0
      · obtain ⟨g1, g2, g3⟩ := hgood h0
        obtain ⟨op, x, d, n, c, t0, tx, hword⟩ := word_good kind w hw a b hfit vv v hv h0 g2 g3
        obtain ⟨u, hu, hby, hnum⟩ := back4 x tx.lt
        have xlt := tx.lt
        have ex : IntKind.u64.wrap (x : Int) = (x : Int) := by rw [u64_wrap]; omega
        have hA : Ev (fun k => P.fix_Apply.f k kind s a b) (u, 0) := by
          unfold P.fix_Apply.f
          refine Ev.bind (Ev.plain (data_word kind s h1 h2 hs)) (Ev.congr (fun k => if_pos rfl) (Ev.congr (fun k => if_neg (by omega)) (Ev.bind ht ?_)))
          rw [← hwe] at hword
          rw [← ex] at hby
          exact Ev.bind hword (Ev.congr (fun k => if_pos rfl) (Ev.bind hby (Ev.now _)))
        unfold P.cleatlaw26_FixLeads.f
        refine Ev.congr (fun k => if_neg h40) (Ev.bind hA (Ev.congr (fun k => if_pos rfl) ?_))
        by_cases h6 : kind > 6
        · have hG : Ev (fun k => P.fix_Goal.f k kind u a) (0, 1) := by
            unfold P.fix_Goal.f
            refine Ev.bind (Ev.plain (data_word kind u h1 h2 hu)) (Ev.congr (fun k => if_pos rfl) ?_)
            rw [decide_eq_true (show kind ≥ 7 by omega)]
            exact Ev.step (fun k => P.fix_Goal.j0.eq_2 _ _ _ _ _) (Ev.congr (fun k => if_pos rfl) (Ev.now _))
          refine Ev.congr (fun k => if_pos h6) (Ev.bind hG (Ev.bind fixed_ev (Ev.congr (fun k => if_pos rfl) (Ev.congr (fun k => if_pos rfl) (Ev.plain (congrArg some ?_))))))
          rw [hu]
          rfl
        · have xm : (x : Int) % 4294967296 = (x : Int) := by omega
          have hdec := turns_dec tx
          rw [← xm] at hdec
          have hG : ∀ g : Int, (if kind = 6 then IntKind.u64.wrap (IntKind.u64.wrap (a - Int.tmod a 4096) + IntKind.u64.wrap (IntKind.u64.wrap v * 4096)) else IntKind.u64.wrap (a + IntKind.u64.wrap v)) = g → Ev (fun k => P.fix_Goal.f k kind u a) (g, 0) := by
            intro g hg
            unfold P.fix_Goal.f
            refine Ev.bind (Ev.plain (data_word kind u h1 h2 hu)) (Ev.congr (fun k => if_pos rfl) ?_)
            rw [decide_eq_false (show ¬ kind ≥ 7 by omega)]
            refine Ev.step (fun k => P.fix_Goal.j0.eq_2 _ _ _ _ _) (Ev.congr (fun k => if_neg (by decide)) (Ev.congr (fun k => if_neg (by omega)) (Ev.bind hnum (Ev.bind hdec ?_))))
            refine Ev.congr (fun k => if_pos rfl) (Ev.bind (turns_enc t0) (Ev.congr (fun k => if_pos rfl) (Ev.bind hfit ?_)))
            refine Ev.step (fun k => P.fix_Goal.j1.eq_2 _ _ _ _ _ _ _ _ _ _ _ _ _ _) (Ev.congr (fun k => if_neg (by decide)) ?_)
            by_cases e6 : kind = 6
            · rw [if_pos e6] at hg
              subst hg
              exact Ev.congr (fun k => if_pos e6) (Ev.now _)
            · rw [if_neg e6] at hg
              subst hg
              exact Ev.congr (fun k => if_neg e6) (Ev.now _)
          by_cases e6 : kind = 6
          · have lead : IntKind.u64.wrap (IntKind.u64.wrap (a - Int.tmod a 4096) + IntKind.u64.wrap (IntKind.u64.wrap v * 4096)) = IntKind.u64.wrap (b - Int.tmod b 4096) := by
              subst e6
              rw [rule_page a b v hr]
              exact page_leads a b ha hb
            refine Ev.congr (fun k => if_neg h6) (Ev.bind (hG (IntKind.u64.wrap (b - Int.tmod b 4096)) (by rw [if_pos e6]; exact lead)) ?_)
            refine Ev.congr (fun k => if_pos e6) (Ev.bind fixed_ev (Ev.congr (fun k => if_pos rfl) (Ev.congr (fun k => if_pos rfl) (Ev.plain (congrArg some ?_)))))
            exact beq_self_eq_true (IntKind.u64.wrap (b - Int.tmod b 4096))
          · have lead : IntKind.u64.wrap (a + IntKind.u64.wrap v) = b := by
              rw [rule_near kind a b v h1 (by omega) hr]
              exact near_leads a b hb
            refine Ev.congr (fun k => if_neg h6) (Ev.bind (hG b (by rw [if_neg e6]; exact lead)) ?_)
            refine Ev.congr (fun k => if_neg e6) (Ev.bind fixed_ev (Ev.congr (fun k => if_pos rfl) (Ev.congr (fun k => if_pos rfl) (Ev.congr (fun k => if_pos rfl) (Ev.plain (congrArg some ?_))))))
            rw [hu, hs]
            rfl
      · exact fell vv.2 h0 (hA0 vv.2 h0 (word_bad kind w a b h1 h2 hfit vv hv h0))
  · exact fell 1 (by decide) (by
      unfold P.fix_Apply.f
      exact Ev.bind (Ev.plain (data_no kind s c1 c2)) (Ev.congr (fun k => if_neg (by decide)) (Ev.now _)))
end Go.Proofs.YtjllhcfcdimbfaaDoor.Pure
