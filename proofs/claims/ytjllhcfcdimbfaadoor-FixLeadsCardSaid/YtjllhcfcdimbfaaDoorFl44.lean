/- Instructions of the kinds that relocations turn: the word of each, and back. -/
import Derived.Test.YtjllhcfcdimbfaaDoorFl43
import Derived.Test.YtjllhcfcdimbfaaDoorFl32
import Derived.Test.YtjllhcfcdimbfaaDoorFl36
import Derived.Test.YtjllhcfcdimbfaaDoorFl23
namespace Go.Proofs.YtjllhcfcdimbfaaDoor.Pure
open Go Go.RowKit Go.Proofs.YtjllhcfcdimbfaaDoorW.PrintWords Go.Proofs.YtjllhcfcdimbfaaDoorW.PrintLast Go.Proofs.YtjllhcfcdimbfaaDoorW.PrintMore
set_option linter.unusedVariables false
set_option linter.unusedSimpArgs false
theorem cast_eq {a b : Nat} {z : Int} (h : z = (a : Int)) (e : a = b) : z = (b : Int) := by rw [h, e]
theorem some_cast {a b : Nat} (e : a = b) : (some ((a : Nat) : Int)) = some ((b : Nat) : Int) := by rw [e]
theorem tdiv_mul (q b : Int) (hb : b ≠ 0) : Int.tdiv (q * b) b = q := Int.mul_tdiv_cancel q hb
theorem top_div (x k a l : Nat) (hx : x = 2 ^ k * a + l) (hl : l < 2 ^ k) : x / 2 ^ k = a := by
  rw [hx, Nat.mul_add_div (Nat.two_pow_pos k), Nat.div_eq_of_lt hl, Nat.add_zero]
theorem turns8 (op d n v : Nat) (hop : op = 24 ∨ op = 25) (hd : d < 32) (hn : n < 32) (hv : v < 4096) : Turns op (baseN op + d + 32 * n + 1024 * v) d n v 0 := by
  have h1 : 1 ≤ op ∧ op ≤ 39 := by omega
  have hs : shapeN op = 8 := by rcases hop with rfl | rfl <;> kernel_rfl
  have hm : maskN op = 2 ^ 22 - 1 := by rcases hop with rfl | rfl <;> kernel_rfl
  obtain ⟨b, hb, hb2⟩ : ∃ b, baseN op = 2 ^ 22 * b ∧ b < 1024 := by
    rcases hop with rfl | rfl
    · exact ⟨229, by kernel_rfl, by decide⟩
    · exact ⟨228, by kernel_rfl, by decide⟩
  have ho := shape_some op h1.1 h1.2
  rw [hs] at ho
  have his := is8 op d n v ho (by omega) (by omega) (by omega)
  have lt : baseN op + d + 32 * n + 1024 * v < 4294967296 := by omega
  refine ⟨lt, enc_of op (d + 32 * n + 1024 * v) _ d n v 0 h1.1 h1.2 his ?_ (by omega) ?_, dec_of op _ d n v 0 h1.1 h1.2 lt ?_ (by omega) his ?_⟩
  · rw [hs]
    unfold P.code_filled.of
    rw [if_neg (by decide), if_neg (by decide), if_neg (by decide), if_neg (by decide), if_neg (by decide), if_neg (by decide), if_neg (by decide), if_pos (by decide)]
    show P.code_word.f 60 [P.fd ((0 : Nat) : Int) ((5 : Nat) : Int) (d : Int), P.fd ((5 : Nat) : Int) ((5 : Nat) : Int) (n : Int), P.fd ((10 : Nat) : Int) ((12 : Nat) : Int) (v : Int)] = _
    rw [fd_nat 0 5 d (by omega), fd_nat 5 5 n (by omega), fd_nat 10 12 v (by omega)]
    refine (more_word (word_three 39 0 5 d 5 5 n 10 12 v hd (by decide) hn (by decide) hv (by decide) (by kernel_rfl)) (by decide)).trans (some_cast (by omega))
  · rw [hb, Nat.or_comm, or_add 22 b _ (by omega)]
    omega
  · rw [hm, an_low, hb]
    omega
  · rw [hs]
    unfold P.code_read.of
    rw [if_neg (by decide), if_neg (by decide), if_neg (by decide), if_neg (by decide), if_neg (by decide), if_neg (by decide), if_neg (by decide), if_pos (by decide)]
    have f1 : P.fld ((baseN op + d + 32 * n + 1024 * v : Nat) : Int) 0 5 = (d : Int) := cast_eq (fld_ok _ 0 5 lt (by decide) (by decide) (by decide)) (by omega)
    have f2 : P.fld ((baseN op + d + 32 * n + 1024 * v : Nat) : Int) 5 5 = (n : Int) := cast_eq (fld_ok _ 5 5 lt (by decide) (by decide) (by decide)) (by omega)
    have f3 : P.fld ((baseN op + d + 32 * n + 1024 * v : Nat) : Int) 10 12 = (v : Int) := cast_eq (fld_ok _ 10 12 lt (by decide) (by decide) (by decide)) (by omega)
    rw [f1, f2, f3]
theorem turns7 (op d n q : Nat) (hop : op = 22 ∨ op = 23) (hd : d < 32) (hn : n < 32) (hq : q < 4096) : Turns op (baseN op + d + 32 * n + 1024 * q) d n ((q : Int) * 8) 0 := by
  have h1 : 1 ≤ op ∧ op ≤ 39 := by omega
  have hs : shapeN op = 7 := by rcases hop with rfl | rfl <;> kernel_rfl
  have hm : maskN op = 2 ^ 22 - 1 := by rcases hop with rfl | rfl <;> kernel_rfl
  obtain ⟨b, hb, hb2⟩ : ∃ b, baseN op = 2 ^ 22 * b ∧ b < 1024 := by
    rcases hop with rfl | rfl
    · exact ⟨997, by kernel_rfl, by decide⟩
    · exact ⟨996, by kernel_rfl, by decide⟩
  have ho := shape_some op h1.1 h1.2
  rw [hs] at ho
  have his := is7 op d n ((q : Int) * 8) ho (by omega) (by omega) (by omega) (by omega)
  have lt : baseN op + d + 32 * n + 1024 * q < 4294967296 := by omega
  refine ⟨lt, enc_of op (d + 32 * n + 1024 * q) _ d n _ 0 h1.1 h1.2 his ?_ (by omega) ?_, dec_of op _ d n _ 0 h1.1 h1.2 lt ?_ (by omega) his ?_⟩
  · rw [hs]
    unfold P.code_filled.of
    rw [if_neg (by decide), if_neg (by decide), if_neg (by decide), if_neg (by decide), if_neg (by decide), if_neg (by decide), if_pos (by decide), tdiv_mul _ _ (by decide), i64_wrap _ (by omega) (by omega)]
    show P.code_word.f 60 [P.fd ((0 : Nat) : Int) ((5 : Nat) : Int) (d : Int), P.fd ((5 : Nat) : Int) ((5 : Nat) : Int) (n : Int), P.fd ((10 : Nat) : Int) ((12 : Nat) : Int) (q : Int)] = _
    rw [fd_nat 0 5 d (by omega), fd_nat 5 5 n (by omega), fd_nat 10 12 q (by omega)]
    refine (more_word (word_three 39 0 5 d 5 5 n 10 12 q hd (by decide) hn (by decide) hq (by decide) (by kernel_rfl)) (by decide)).trans (some_cast (by omega))
  · rw [hb, Nat.or_comm, or_add 22 b _ (by omega)]
    omega
  · rw [hm, an_low, hb]
    omega
  · rw [hs]
    unfold P.code_read.of
    rw [if_neg (by decide), if_neg (by decide), if_neg (by decide), if_neg (by decide), if_neg (by decide), if_neg (by decide), if_pos (by decide)]
    have f1 : P.fld ((baseN op + d + 32 * n + 1024 * q : Nat) : Int) 0 5 = (d : Int) := cast_eq (fld_ok _ 0 5 lt (by decide) (by decide) (by decide)) (by omega)
    have f2 : P.fld ((baseN op + d + 32 * n + 1024 * q : Nat) : Int) 5 5 = (n : Int) := cast_eq (fld_ok _ 5 5 lt (by decide) (by decide) (by decide)) (by omega)
    have f3 : P.fld ((baseN op + d + 32 * n + 1024 * q : Nat) : Int) 10 12 = (q : Int) := cast_eq (fld_ok _ 10 12 lt (by decide) (by decide) (by decide)) (by omega)
    generalize P.fld ((baseN op + d + 32 * n + 1024 * q : Nat) : Int) 0 5 = z1 at f1 ⊢
    generalize P.fld ((baseN op + d + 32 * n + 1024 * q : Nat) : Int) 5 5 = z2 at f2 ⊢
    generalize P.fld ((baseN op + d + 32 * n + 1024 * q : Nat) : Int) 10 12 = z3 at f3 ⊢
    subst f1 f2 f3
    rw [wrap64_small _ (by omega) (by omega)]
theorem turns2 (op d n v : Nat) (hop : op = 4) (hd : d < 32) (hn : n < 32) (hv : v < 4096) : Turns op (baseN op + d + 32 * n + 1024 * v) d n v 0 := by
  have h1 : 1 ≤ op ∧ op ≤ 39 := by omega
  have hs : shapeN op = 2 := by subst hop; kernel_rfl
  have hm : maskN op = 2 ^ 23 - 1 := by subst hop; kernel_rfl
  obtain ⟨b, hb, hb2⟩ : ∃ b, baseN op = 2 ^ 23 * b ∧ b < 512 := by
    subst hop
    exact ⟨290, by kernel_rfl, by decide⟩
  have ho := shape_some op h1.1 h1.2
  rw [hs] at ho
  have his := is2 op d n v ho (by omega) (by omega) (by omega)
  have lt : baseN op + d + 32 * n + 1024 * v < 4294967296 := by omega
  refine ⟨lt, enc_of op (d + 32 * n + 1024 * v) _ d n v 0 h1.1 h1.2 his ?_ (by omega) ?_, dec_of op _ d n v 0 h1.1 h1.2 lt ?_ (by omega) his ?_⟩
  · rw [hs]
    unfold P.code_filled.of
    rw [if_neg (by decide), if_pos (by decide)]
    show P.code_word.f 60 [P.fd ((0 : Nat) : Int) ((5 : Nat) : Int) (d : Int), P.fd ((5 : Nat) : Int) ((5 : Nat) : Int) (n : Int), P.fd ((10 : Nat) : Int) ((12 : Nat) : Int) (v : Int), P.fd ((22 : Nat) : Int) ((1 : Nat) : Int) ((0 : Nat) : Int)] = _
    rw [fd_nat 0 5 d (by omega), fd_nat 5 5 n (by omega), fd_nat 10 12 v (by omega), fd_nat 22 1 0 (by omega)]
    refine (more_word (word_four 42 0 5 d 5 5 n 10 12 v 22 1 0 hd (by decide) hn (by decide) hv (by decide) (by decide) (by decide) (by kernel_rfl)) (by decide)).trans (some_cast (by omega))
  · rw [hb, Nat.or_comm, or_add 23 b _ (by omega)]
    omega
  · rw [hm, an_low, hb]
    omega
  · rw [hs]
    unfold P.code_read.of
    rw [if_neg (by decide), if_pos (by decide)]
    have n1 : (baseN op + d + 32 * n + 1024 * v) / 2 ^ 0 % 2 ^ 5 = d := by omega
    have n2 : (baseN op + d + 32 * n + 1024 * v) / 2 ^ 5 % 2 ^ 5 = n := by omega
    have n3 : (baseN op + d + 32 * n + 1024 * v) / 2 ^ 10 % 2 ^ 12 = v := by omega
    have n4 : (baseN op + d + 32 * n + 1024 * v) / 2 ^ 22 % 2 ^ 1 = 0 := by rw [top_div _ 22 (2 * b) (d + 32 * n + 1024 * v) (by omega) (by omega)]; omega
    have f4 := fld_ok (baseN op + d + 32 * n + 1024 * v) 22 1 lt (by decide) (by decide) (by decide)
    rw [n4] at f4
    replace f4 : P.fld ((baseN op + d + 32 * n + 1024 * v : Nat) : Int) 22 1 = 0 := f4
    have f1 : P.fld ((baseN op + d + 32 * n + 1024 * v : Nat) : Int) 0 5 = (d : Int) := cast_eq (fld_ok _ 0 5 lt (by decide) (by decide) (by decide)) n1
    have f2 : P.fld ((baseN op + d + 32 * n + 1024 * v : Nat) : Int) 5 5 = (n : Int) := cast_eq (fld_ok _ 5 5 lt (by decide) (by decide) (by decide)) n2
    have f3 : P.fld ((baseN op + d + 32 * n + 1024 * v : Nat) : Int) 10 12 = (v : Int) := cast_eq (fld_ok _ 10 12 lt (by decide) (by decide) (by decide)) n3
    generalize P.fld ((baseN op + d + 32 * n + 1024 * v : Nat) : Int) 0 5 = z1 at f1 ⊢
    generalize P.fld ((baseN op + d + 32 * n + 1024 * v : Nat) : Int) 5 5 = z2 at f2 ⊢
    generalize P.fld ((baseN op + d + 32 * n + 1024 * v : Nat) : Int) 10 12 = z3 at f3 ⊢
    generalize P.fld ((baseN op + d + 32 * n + 1024 * v : Nat) : Int) 22 1 = z4 at f4 ⊢
    subst f1 f2 f3 f4
    rw [wrap64_small _ (by omega) (by omega)]
    simp
theorem pkd_ok (a n m : Nat) (q : Int) (hn : 1 ≤ n) (hn2 : n < 32) (h1 : -(2 ^ (n - 1) : Nat) ≤ q) (h2 : q < (2 ^ (n - 1) : Nat)) (hm : q % (2 ^ n : Nat) = (m : Int)) : P.pkd (a : Int) (n : Int) q = ⟨(a : Int), (n : Int), (m : Int)⟩ := by
  unfold P.pkd
  rw [pk_ok q n hn hn2 h1 h2, hm]
theorem turns9 (op d m : Nat) (q : Int) (hop : op = 26 ∨ op = 32 ∨ op = 33) (hd : d < 32) (hq : -262144 ≤ q ∧ q < 262144) (hm : q % 524288 = (m : Int)) : Turns op (baseN op + d + 32 * m) d 0 (q * 4) 0 := by
  have h1 : 1 ≤ op ∧ op ≤ 39 := by omega
  have hs : shapeN op = 9 := by rcases hop with rfl | rfl | rfl <;> kernel_rfl
  have hk : maskN op = 2 ^ 24 - 1 := by rcases hop with rfl | rfl | rfl <;> kernel_rfl
  obtain ⟨b, hb, hb2⟩ : ∃ b, baseN op = 2 ^ 24 * b ∧ b < 256 := by
    rcases hop with rfl | rfl | rfl
    · exact ⟨88, by kernel_rfl, by decide⟩
    · exact ⟨180, by kernel_rfl, by decide⟩
    · exact ⟨181, by kernel_rfl, by decide⟩
  have ho := shape_some op h1.1 h1.2
  rw [hs] at ho
  have his := is9 op d (q * 4) ho (by omega) (by omega) (by omega)
  have lt : baseN op + d + 32 * m < 4294967296 := by omega
  refine ⟨lt, enc_of op (d + 32 * m) _ d 0 _ 0 h1.1 h1.2 his ?_ (by omega) ?_, dec_of op _ d 0 _ 0 h1.1 h1.2 lt ?_ (by omega) his ?_⟩
  · rw [hs]
    unfold P.code_filled.of
    rw [if_neg (by decide), if_neg (by decide), if_neg (by decide), if_neg (by decide), if_neg (by decide), if_neg (by decide), if_neg (by decide), if_neg (by decide), if_pos (by decide), tdiv_mul _ _ (by decide), i64_wrap _ (by omega) (by omega)]
    show P.code_word.f 60 [P.fd ((0 : Nat) : Int) ((5 : Nat) : Int) (d : Int), P.pkd ((5 : Nat) : Int) ((19 : Nat) : Int) q] = _
    rw [fd_nat 0 5 d (by omega), pkd_ok 5 19 m q (by decide) (by decide) (by omega) (by omega) hm]
    refine (more_word (word_two 39 0 5 d 5 19 m hd (by decide) (by omega) (by decide) (by kernel_rfl)) (by decide)).trans (some_cast (by omega))
  · rw [hb, Nat.or_comm, or_add 24 b _ (by omega)]
    omega
  · rw [hk, an_low, hb]
    omega
  · rw [hs]
    unfold P.code_read.of
    rw [if_neg (by decide), if_neg (by decide), if_neg (by decide), if_neg (by decide), if_neg (by decide), if_neg (by decide), if_neg (by decide), if_neg (by decide), if_pos (by decide)]
    have f1 : P.fld ((baseN op + d + 32 * m : Nat) : Int) 0 5 = (d : Int) := cast_eq (fld_ok _ 0 5 lt (by decide) (by decide) (by decide)) (by omega)
    have f2 : P.sfl ((baseN op + d + 32 * m : Nat) : Int) 5 19 = q := by
      refine (sfl_ok _ 5 19 lt (by decide) (by decide) (by decide)).trans ?_
      rw [show (baseN op + d + 32 * m) / 2 ^ 5 % 2 ^ 19 = m by omega]
      unfold sgn
      simp only [Nat.reduceSub, Nat.reducePow, Int.reducePow]
      split <;> omega
    rw [f1, f2, wrap64_small _ (by omega) (by omega)]
theorem turns12 (op c m : Nat) (q : Int) (hop : op = 31) (hc : c ≤ 13) (hq : -262144 ≤ q ∧ q < 262144) (hm : q % 524288 = (m : Int)) : Turns op (baseN op + c + 32 * m) 0 0 (q * 4) c := by
  have h1 : 1 ≤ op ∧ op ≤ 39 := by omega
  have hs : shapeN op = 12 := by subst hop; kernel_rfl
  have hk : maskN op = 2 ^ 4 * (2 ^ 1 * (2 ^ 19 - 1) + 0) + (2 ^ 4 - 1) := by subst hop; kernel_rfl
  obtain ⟨b, hb, hb2⟩ : ∃ b, baseN op = 2 ^ 24 * b ∧ b < 256 := by
    subst hop
    exact ⟨84, by kernel_rfl, by decide⟩
  have ho := shape_some op h1.1 h1.2
  rw [hs] at ho
  have his := is12 op 0 (q * 4) c ho (by omega) rfl (by omega) (by omega) (by omega)
  have lt : baseN op + c + 32 * m < 4294967296 := by omega
  refine ⟨lt, enc_of op (c + 32 * m) _ 0 0 _ c h1.1 h1.2 his ?_ (by omega) ?_, dec_of op _ 0 0 _ c h1.1 h1.2 lt ?_ (by omega) his ?_⟩
  · rw [hs]
    unfold P.code_filled.of
    rw [if_neg (by decide), if_neg (by decide), if_neg (by decide), if_neg (by decide), if_neg (by decide), if_neg (by decide), if_neg (by decide), if_neg (by decide), if_neg (by decide), if_neg (by decide), if_neg (by decide), if_pos (by decide), tdiv_mul _ _ (by decide), i64_wrap _ (by omega) (by omega)]
    show P.code_word.f 60 [P.fd ((0 : Nat) : Int) ((4 : Nat) : Int) (c : Int), P.pkd ((5 : Nat) : Int) ((19 : Nat) : Int) q] = _
    rw [fd_nat 0 4 c (by omega), pkd_ok 5 19 m q (by decide) (by decide) (by omega) (by omega) hm]
    refine (more_word (word_two 38 0 4 c 5 19 m (by omega) (by decide) (by omega) (by decide) (by kernel_rfl)) (by decide)).trans (some_cast (by omega))
  · rw [hb, Nat.or_comm, or_add 24 b _ (by omega)]
    omega
  · rw [hk, an_split _ 4 _ _ (by decide), an_full (Nat.mod_lt _ (by decide)), an_split _ 1 _ _ (by decide), an_zero, an_low, hb]
    omega
  · rw [hs]
    unfold P.code_read.of
    rw [if_neg (by decide), if_neg (by decide), if_neg (by decide), if_neg (by decide), if_neg (by decide), if_neg (by decide), if_neg (by decide), if_neg (by decide), if_neg (by decide), if_neg (by decide), if_neg (by decide), if_pos (by decide)]
    have f1 : P.fld ((baseN op + c + 32 * m : Nat) : Int) 0 4 = (c : Int) := cast_eq (fld_ok _ 0 4 lt (by decide) (by decide) (by decide)) (by omega)
    have f2 : P.sfl ((baseN op + c + 32 * m : Nat) : Int) 5 19 = q := by
      refine (sfl_ok _ 5 19 lt (by decide) (by decide) (by decide)).trans ?_
      rw [show (baseN op + c + 32 * m) / 2 ^ 5 % 2 ^ 19 = m by omega]
      unfold sgn
      simp only [Nat.reduceSub, Nat.reducePow, Int.reducePow]
      split <;> omega
    rw [f1, f2, wrap64_small _ (by omega) (by omega)]
theorem turns11 (op m : Nat) (q : Int) (hop : op = 29 ∨ op = 30) (hq : -33554432 ≤ q ∧ q < 33554432) (hm : q % 67108864 = (m : Int)) : Turns op (baseN op + m) 0 0 (q * 4) 0 := by
  have h1 : 1 ≤ op ∧ op ≤ 39 := by omega
  have hs : shapeN op = 11 := by rcases hop with rfl | rfl <;> kernel_rfl
  have hk : maskN op = 2 ^ 26 - 1 := by rcases hop with rfl | rfl <;> kernel_rfl
  obtain ⟨b, hb, hb2⟩ : ∃ b, baseN op = 2 ^ 26 * b ∧ b < 64 := by
    rcases hop with rfl | rfl
    · exact ⟨5, by kernel_rfl, by decide⟩
    · exact ⟨37, by kernel_rfl, by decide⟩
  have ho := shape_some op h1.1 h1.2
  rw [hs] at ho
  have his := is11 op 0 (q * 4) ho (by omega) rfl (by omega) (by omega)
  have lt : baseN op + m < 4294967296 := by omega
  refine ⟨lt, enc_of op m _ 0 0 _ 0 h1.1 h1.2 his ?_ (by omega) ?_, dec_of op _ 0 0 _ 0 h1.1 h1.2 lt ?_ (by omega) his ?_⟩
  · rw [hs]
    unfold P.code_filled.of
    rw [if_neg (by decide), if_neg (by decide), if_neg (by decide), if_neg (by decide), if_neg (by decide), if_neg (by decide), if_neg (by decide), if_neg (by decide), if_neg (by decide), if_neg (by decide), if_pos (by decide), tdiv_mul _ _ (by decide), wrap64_small _ (by omega) (by omega)]
    show P.code_word.f 60 [P.pkd ((0 : Nat) : Int) ((26 : Nat) : Int) q] = _
    rw [pkd_ok 0 26 m q (by decide) (by decide) (by omega) (by omega) hm]
    refine (more_word (word_one 39 0 26 m (by omega) (by decide) (by kernel_rfl)) (by decide)).trans (some_cast (by omega))
  · rw [hb, Nat.or_comm, or_add 26 b _ (by omega)]
  · rw [hk, an_low, hb]
    omega
  · rw [hs]
    unfold P.code_read.of
    rw [if_neg (by decide), if_neg (by decide), if_neg (by decide), if_neg (by decide), if_neg (by decide), if_neg (by decide), if_neg (by decide), if_neg (by decide), if_neg (by decide), if_neg (by decide), if_pos (by decide)]
    have f2 : P.sfl ((baseN op + m : Nat) : Int) 0 26 = q := by
      refine (sfl_ok _ 0 26 lt (by decide) (by decide) (by decide)).trans ?_
      rw [show (baseN op + m) / 2 ^ 0 % 2 ^ 26 = m by omega]
      unfold sgn
      simp only [Nat.reduceSub, Nat.reducePow, Int.reducePow]
      split <;> omega
    rw [f2, wrap64_small _ (by omega) (by omega)]
theorem bits_or64 (a b : Nat) (ha : a < 4294967296) (hb : b < 4294967296) : Go.bits .or .i64 (a : Int) (b : Int) = ((a ||| b : Nat) : Int) := by
  show IntKind.i64.wrap ((BitVec.ofInt 64 (a : Int) ||| BitVec.ofInt 64 (b : Int)).toNat : Int) = _
  rw [BitVec.toNat_or, u64_nat a (by omega), u64_nat b (by omega)]
  have := Nat.or_lt_two_pow (n := 32) ha hb
  exact i64_wrap _ (by omega) (by omega)
theorem ten_fields (bs b d u : Nat) (hb : bs = 2 ^ 24 * (2 ^ 5 * (2 ^ 2 * b) + 16)) (hd : d < 32) (hu : u < 2097152) :
    (bs + d + 32 * (u / 4) + 536870912 * (u % 4)) / 2 ^ 0 % 2 ^ 5 = d ∧ (bs + d + 32 * (u / 4) + 536870912 * (u % 4)) / 2 ^ 5 % 2 ^ 19 = u / 4 ∧ (bs + d + 32 * (u / 4) + 536870912 * (u % 4)) / 2 ^ 29 % 2 ^ 2 = u % 4 := by
  have h4 : u / 4 < 524288 := by omega
  have h5 : u % 4 < 4 := by omega
  generalize u / 4 = a at h4 ⊢
  generalize u % 4 = c at h5 ⊢
  have q3 := top_div (bs + d + 32 * a + 536870912 * c) 29 (4 * b + c) (268435456 + d + 32 * a) (by omega) (by omega)
  have q2 := top_div (bs + d + 32 * a + 536870912 * c) 5 (2 ^ 19 * (2 ^ 5 * (4 * b + c) + 16) + a) d (by omega) (by omega)
  refine ⟨by omega, ?_, ?_⟩
  · rw [q2, Nat.mul_add_mod]
    exact Nat.mod_eq_of_lt h4
  · rw [q3, show 4 * b + c = 2 ^ 2 * b + c by omega, Nat.mul_add_mod]
    exact Nat.mod_eq_of_lt h5
theorem turns10 (op d u : Nat) (v : Int) (hop : op = 27 ∨ op = 28) (hd : d < 32) (hv : -1048576 ≤ v ∧ v < 1048576) (hu : v % 2097152 = (u : Int)) : Turns op (baseN op + d + 32 * (u / 4) + 536870912 * (u % 4)) d 0 v 0 := by
  have h1 : 1 ≤ op ∧ op ≤ 39 := by omega
  have hs : shapeN op = 10 := by rcases hop with rfl | rfl <;> kernel_rfl
  have hk : maskN op = 2 ^ 24 * (2 ^ 5 * (2 ^ 2 - 1) + 0) + (2 ^ 24 - 1) := by rcases hop with rfl | rfl <;> kernel_rfl
  obtain ⟨b, hb, hb2⟩ : ∃ b, baseN op = 2 ^ 24 * (2 ^ 5 * (2 ^ 2 * b) + 16) ∧ b < 2 := by
    rcases hop with rfl | rfl
    · exact ⟨0, by kernel_rfl, by decide⟩
    · exact ⟨1, by kernel_rfl, by decide⟩
  have ho := shape_some op h1.1 h1.2
  rw [hs] at ho
  have his := is10 op d v ho (by omega) (by omega)
  have lt : baseN op + d + 32 * (u / 4) + 536870912 * (u % 4) < 4294967296 := by omega
  refine ⟨lt, enc_of op (d + 32 * (u / 4) + 536870912 * (u % 4)) _ d 0 v 0 h1.1 h1.2 his ?_ (by omega) ?_, dec_of op _ d 0 v 0 h1.1 h1.2 lt ?_ (by omega) his ?_⟩
  · rw [hs]
    unfold P.code_filled.of
    have w1 : IntKind.i64.wrap ((u / 4 : Nat) : Int) = ((u / 4 : Nat) : Int) := i64_wrap _ (by omega) (by omega)
    have w2 : IntKind.i64.wrap ((u % 4 : Nat) : Int) = ((u % 4 : Nat) : Int) := i64_wrap _ (by omega) (by omega)
    have b1 : u / 4 < 2 ^ 19 := by omega
    have b2 : u % 4 < 2 ^ 2 := by omega
    have b3 : u / 4 < 4294967296 := by omega
    have b4 : u % 4 < 4294967296 := by omega
    have b5 : d < 4294967296 := by omega
    have b6 : 2 ^ 0 * d + 2 ^ 5 * (u / 4) + 2 ^ 29 * (u % 4) = d + 32 * (u / 4) + 536870912 * (u % 4) := by omega
    have hp : P.pk v 21 = (u : Int) := (pk_ok v 21 (by decide) (by decide) (by omega) (by omega)).trans hu
    have g1 : P.bfld (u : Int) 2 19 = ((u / 4 : Nat) : Int) := by
      unfold P.bfld
      have := field_ok u 2 19 (by omega) (by decide) (by decide) (by decide)
      have e : P.bits_Field.f (u : Int) 2 19 = some (((u / 2 ^ 2 % 2 ^ 19 : Nat) : Int), 0) := this
      rw [e, show u / 2 ^ 2 % 2 ^ 19 = u / 4 by omega]
      rfl
    have g2 : P.bfld (u : Int) 0 2 = ((u % 4 : Nat) : Int) := by
      unfold P.bfld
      have e : P.bits_Field.f (u : Int) 0 2 = some (((u / 2 ^ 0 % 2 ^ 2 : Nat) : Int), 0) := field_ok u 0 2 (by omega) (by decide) (by decide) (by decide)
      rw [e, show u / 2 ^ 0 % 2 ^ 2 = u % 4 by omega]
      rfl
    rw [if_neg (by decide), if_neg (by decide), if_neg (by decide), if_neg (by decide), if_neg (by decide), if_neg (by decide), if_neg (by decide), if_neg (by decide), if_neg (by decide), if_pos (by decide), hp, g1, g2, w1, w2]
    show P.code_word.f 60 [P.fd ((0 : Nat) : Int) ((5 : Nat) : Int) (d : Int), P.fd ((5 : Nat) : Int) ((19 : Nat) : Int) ((u / 4 : Nat) : Int), P.fd ((29 : Nat) : Int) ((2 : Nat) : Int) ((u % 4 : Nat) : Int)] = _
    rw [fd_nat 0 5 d b5, fd_nat 5 19 (u / 4) b3, fd_nat 29 2 (u % 4) b4]
    refine (more_word (word_three 43 0 5 d 5 19 (u / 4) 29 2 (u % 4) hd (by decide) b1 (by decide) b2 (by decide) (by kernel_rfl)) (by decide)).trans (some_cast b6)
  · have e1 : d + 32 * (u / 4) + 536870912 * (u % 4) = 2 ^ 24 * (2 ^ 5 * (u % 4) + 0) + (d + 32 * (u / 4)) := by omega
    have e2 : baseN op = 2 ^ 24 * (2 ^ 5 * (2 ^ 2 * b) + 16) + 0 := by omega
    rw [e1, e2, seg_or 24 _ _ _ _ (by decide) (by omega), seg_or 5 _ _ _ _ (by decide) (by decide), Nat.or_comm (2 ^ 2 * b), or_add 2 b (u % 4) (by omega), Nat.or_zero, Nat.zero_or]
    omega
  · have q1 : (baseN op + d + 32 * (u / 4) + 536870912 * (u % 4)) / 2 ^ 24 = 2 ^ 5 * (4 * b + u % 4) + 16 := top_div _ 24 _ (d + 32 * (u / 4)) (by omega) (by omega)
    have q2 : (2 ^ 5 * (4 * b + u % 4) + 16) / 2 ^ 5 = 4 * b + u % 4 := top_div _ 5 _ 16 rfl (by decide)
    have q3 : (2 ^ 5 * (4 * b + u % 4) + 16) % 2 ^ 5 = 16 := by omega
    have q4 : (4 * b + u % 4) / 2 ^ 2 = b := by omega
    rw [hk, an_split _ 24 _ _ (by decide), an_full (Nat.mod_lt _ (by decide)), q1, an_split _ 5 _ _ (by decide), an_zero, an_low, q2, q3, q4, hb]
    rfl
  · rw [hs]
    unfold P.code_read.of
    have e4 : wrap64 (((u / 4 : Nat) : Int) * 4) = ((2 ^ 2 * (u / 4) : Nat) : Int) := by rw [wrap64_small _ (by omega) (by omega)]; omega
    have e5 : (Go.bits .or .i64 ((2 ^ 2 * (u / 4) : Nat) : Int) ((u % 4 : Nat) : Int)) % 4294967296 = (u : Int) := by
      rw [bits_or64 _ _ (by omega) (by omega), Nat.or_comm, or_add 2 (u / 4) (u % 4) (by omega)]
      omega
    have e6 : P.bits_Signed.f 1 (u : Int) 21 = some (sgn 21 u, 0) := signed_ok u 21 (by decide) (by decide) (by omega)
    have e7 : sgn 21 u = v := by
      unfold sgn
      simp only [Nat.reduceSub, Nat.reducePow, Int.reducePow]
      split <;> omega
    obtain ⟨n1, n2, n3⟩ := ten_fields (baseN op) b d u hb hd (by omega)
    have f1 : P.fld ((baseN op + d + 32 * (u / 4) + 536870912 * (u % 4) : Nat) : Int) 0 5 = (d : Int) := cast_eq (fld_ok _ 0 5 lt (by decide) (by decide) (by decide)) n1
    have f2 : P.fld ((baseN op + d + 32 * (u / 4) + 536870912 * (u % 4) : Nat) : Int) 5 19 = ((u / 4 : Nat) : Int) := cast_eq (fld_ok _ 5 19 lt (by decide) (by decide) (by decide)) n2
    have f3 : P.fld ((baseN op + d + 32 * (u / 4) + 536870912 * (u % 4) : Nat) : Int) 29 2 = ((u % 4 : Nat) : Int) := cast_eq (fld_ok _ 29 2 lt (by decide) (by decide) (by decide)) n3
    generalize P.fld ((baseN op + d + 32 * (u / 4) + 536870912 * (u % 4) : Nat) : Int) 0 5 = z1 at f1 ⊢
    generalize P.fld ((baseN op + d + 32 * (u / 4) + 536870912 * (u % 4) : Nat) : Int) 5 19 = z2 at f2 ⊢
    generalize P.fld ((baseN op + d + 32 * (u / 4) + 536870912 * (u % 4) : Nat) : Int) 29 2 = z3 at f3 ⊢
    subst f1 f2 f3
    rw [if_neg (by decide), if_neg (by decide), if_neg (by decide), if_neg (by decide), if_neg (by decide), if_neg (by decide), if_neg (by decide), if_neg (by decide), if_neg (by decide), if_pos (by decide), e4, e5, e6, e7]
    rfl
end Go.Proofs.YtjllhcfcdimbfaaDoor.Pure
