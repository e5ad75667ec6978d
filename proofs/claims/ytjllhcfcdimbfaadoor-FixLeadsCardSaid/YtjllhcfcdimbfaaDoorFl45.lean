/- What fits a relocation, turned by a value, is read back with that value; without it, it is the word as it was. -/
import Derived.Test.YtjllhcfcdimbfaaDoorFl44
import Derived.Test.YtjllhcfcdimbfaaDoorFl32
import Derived.Test.YtjllhcfcdimbfaaDoorFl36
import Derived.Test.YtjllhcfcdimbfaaDoorFl23
namespace Go.Proofs.YtjllhcfcdimbfaaDoor.Pure
open Go Go.RowKit Go.Proofs.YtjllhcfcdimbfaaDoorW.PrintWords Go.Proofs.YtjllhcfcdimbfaaDoorW.PrintLast Go.Proofs.YtjllhcfcdimbfaaDoorW.PrintMore
set_option linter.unusedVariables false
set_option linter.unusedSimpArgs false
theorem read2 (k : Nat) (w o : Int) : P.code_read.of k w o ((2 : Nat) : Int) = some ((o, P.fld w 0 5, P.fld w 5 5, 0, 0, P.fld w 10 12, 0, 0, wrap64 (P.fld w 22 1 * 12), 0) : Int × Int × Int × Int × Int × Int × Int × Int × Int × Int) := by
  unfold P.code_read.of
  rw [if_neg (by decide), if_pos (by decide)]
theorem read7 (k : Nat) (w o : Int) : P.code_read.of k w o ((7 : Nat) : Int) = some ((o, P.fld w 0 5, P.fld w 5 5, 0, 0, wrap64 (P.fld w 10 12 * 8), 0, 0, 0, 0) : Int × Int × Int × Int × Int × Int × Int × Int × Int × Int) := by
  unfold P.code_read.of
  rw [if_neg (by decide), if_neg (by decide), if_neg (by decide), if_neg (by decide), if_neg (by decide), if_neg (by decide), if_pos (by decide)]
theorem read8 (k : Nat) (w o : Int) : P.code_read.of k w o ((8 : Nat) : Int) = some ((o, P.fld w 0 5, P.fld w 5 5, 0, 0, P.fld w 10 12, 0, 0, 0, 0) : Int × Int × Int × Int × Int × Int × Int × Int × Int × Int) := by
  unfold P.code_read.of
  rw [if_neg (by decide), if_neg (by decide), if_neg (by decide), if_neg (by decide), if_neg (by decide), if_neg (by decide), if_neg (by decide), if_pos (by decide)]
theorem read9 (k : Nat) (w o : Int) : P.code_read.of k w o ((9 : Nat) : Int) = some ((o, P.fld w 0 5, 0, 0, 0, wrap64 (P.sfl w 5 19 * 4), 0, 0, 0, 0) : Int × Int × Int × Int × Int × Int × Int × Int × Int × Int) := by
  unfold P.code_read.of
  rw [if_neg (by decide), if_neg (by decide), if_neg (by decide), if_neg (by decide), if_neg (by decide), if_neg (by decide), if_neg (by decide), if_neg (by decide), if_pos (by decide)]
theorem read11 (k : Nat) (w o : Int) : P.code_read.of k w o ((11 : Nat) : Int) = some ((o, 0, 0, 0, 0, wrap64 (P.sfl w 0 26 * 4), 0, 0, 0, 0) : Int × Int × Int × Int × Int × Int × Int × Int × Int × Int) := by
  unfold P.code_read.of
  rw [if_neg (by decide), if_neg (by decide), if_neg (by decide), if_neg (by decide), if_neg (by decide), if_neg (by decide), if_neg (by decide), if_neg (by decide), if_neg (by decide), if_neg (by decide), if_pos (by decide)]
theorem read12 (k : Nat) (w o : Int) : P.code_read.of k w o ((12 : Nat) : Int) = some ((o, 0, 0, 0, 0, wrap64 (P.sfl w 5 19 * 4), 0, 0, 0, P.fld w 0 4) : Int × Int × Int × Int × Int × Int × Int × Int × Int × Int) := by
  unfold P.code_read.of
  rw [if_neg (by decide), if_neg (by decide), if_neg (by decide), if_neg (by decide), if_neg (by decide), if_neg (by decide), if_neg (by decide), if_neg (by decide), if_neg (by decide), if_neg (by decide), if_neg (by decide), if_pos (by decide)]
theorem read10 (k w : Nat) (o : Int) (hw : w < 4294967296) : P.code_read.of k (w : Int) o ((10 : Nat) : Int) = some ((o, P.fld (w : Int) 0 5, 0, 0, 0, sgn 21 (4 * (w / 2 ^ 5 % 2 ^ 19) + w / 2 ^ 29 % 2 ^ 2), 0, 0, 0, 0) : Int × Int × Int × Int × Int × Int × Int × Int × Int × Int) := by
  unfold P.code_read.of
  have f2 : P.fld (w : Int) 5 19 = ((w / 2 ^ 5 % 2 ^ 19 : Nat) : Int) := fld_ok _ 5 19 hw (by decide) (by decide) (by decide)
  have f3 : P.fld (w : Int) 29 2 = ((w / 2 ^ 29 % 2 ^ 2 : Nat) : Int) := fld_ok _ 29 2 hw (by decide) (by decide) (by decide)
  have b2 : w / 2 ^ 5 % 2 ^ 19 < 2 ^ 19 := Nat.mod_lt _ (by decide)
  have b3 : w / 2 ^ 29 % 2 ^ 2 < 2 ^ 2 := Nat.mod_lt _ (by decide)
  rw [f2, f3]
  generalize w / 2 ^ 5 % 2 ^ 19 = a at b2 ⊢
  generalize w / 2 ^ 29 % 2 ^ 2 = b at b3 ⊢
  have e4 : wrap64 ((a : Int) * 4) = ((2 ^ 2 * a : Nat) : Int) := by rw [wrap64_small _ (by omega) (by omega)]; omega
  have e5 : (Go.bits .or .i64 ((2 ^ 2 * a : Nat) : Int) (b : Int)) % 4294967296 = ((4 * a + b : Nat) : Int) := by
    rw [bits_or64 _ _ (by omega) (by omega), Nat.or_comm, or_add 2 a b b3]
    omega
  have e6 : P.bits_Signed.f 1 ((4 * a + b : Nat) : Int) 21 = some (sgn 21 (4 * a + b), 0) := signed_ok (4 * a + b) 21 (by decide) (by decide) (by omega)
  rw [if_neg (by decide), if_neg (by decide), if_neg (by decide), if_neg (by decide), if_neg (by decide), if_neg (by decide), if_neg (by decide), if_neg (by decide), if_neg (by decide), if_pos (by decide), e4, e5, e6]
  rfl
/-- The values that a kind may have. -/
def Val (kind v : Int) : Prop :=
  kind = 2 ∧ v % 4 = 0 ∧ -134217728 ≤ v ∧ v ≤ 134217724 ∨ (kind = 3 ∨ kind = 4) ∧ v % 4 = 0 ∧ -1048576 ≤ v ∧ v ≤ 1048572 ∨ (kind = 5 ∨ kind = 6) ∧ -1048576 ≤ v ∧ v ≤ 1048575 ∨
  (kind = 7 ∨ kind = 9) ∧ 0 ≤ v ∧ v ≤ 4095 ∨ kind = 8 ∧ v % 8 = 0 ∧ 0 ≤ v ∧ v ≤ 4095
theorem sgn_zero {n f : Nat} (h : f < 2 ^ n) (hn : 1 ≤ n) (h0 : sgn n f = 0) : f = 0 := by
  unfold sgn at h0
  have hp2 : 2 ^ n = 2 * 2 ^ (n - 1) := by rw [← Nat.pow_succ']; congr 1; omega
  have e : ((2 : Int) ^ n) = ((2 ^ n : Nat) : Int) := by push_cast; rfl
  rw [e] at h0
  split at h0 <;> omega
theorem sgn_bound {n f : Nat} (h : f < 2 ^ n) (hn : 1 ≤ n) (h2 : n < 32) : -2147483648 ≤ sgn n f ∧ sgn n f < 2147483648 := by
  unfold sgn
  have hp2 : 2 ^ n = 2 * 2 ^ (n - 1) := by rw [← Nat.pow_succ']; congr 1; omega
  have e : ((2 : Int) ^ n) = ((2 ^ n : Nat) : Int) := by push_cast; rfl
  have hp := pow_lt32 h2
  rw [e]
  split <;> omega
theorem core_two (op w : Nat) (hw : w < 4294967296) (s : Nat) (hop : op = 4 ∧ s = 2 ∨ (op = 22 ∨ op = 23) ∧ s = 7 ∨ (op = 24 ∨ op = 25) ∧ s = 8) (b : Nat) (hb : w / 2 ^ 22 * 2 ^ 22 = baseN op) (h0 : w / 2 ^ 10 % 2 ^ 12 = 0) :
    Turns op w ((w % 32 : Nat) : Int) ((w / 32 % 32 : Nat) : Int) 0 0 ∧ ∀ v : Int, (s = 7 → v % 8 = 0) → 0 ≤ v ∧ v ≤ 4095 → ∃ x, Turns op x ((w % 32 : Nat) : Int) ((w / 32 % 32 : Nat) : Int) v 0 := by
  have ew : baseN op + w % 32 + 32 * (w / 32 % 32) + 1024 * 0 = w := by omega
  rcases hop with ⟨rfl, rfl⟩ | ⟨hop, rfl⟩ | ⟨hop, rfl⟩
  · refine ⟨?_, fun v _ hv => ?_⟩
    · have t := turns2 4 (w % 32) (w / 32 % 32) 0 rfl (by omega) (by omega) (by omega)
      rw [ew] at t
      exact t
    · obtain ⟨m, rfl⟩ := Int.eq_ofNat_of_zero_le hv.1
      exact ⟨_, turns2 4 (w % 32) (w / 32 % 32) m rfl (by omega) (by omega) (by omega)⟩
  · refine ⟨?_, fun v h8 hv => ?_⟩
    · have t := turns7 op (w % 32) (w / 32 % 32) 0 hop (by omega) (by omega) (by omega)
      rw [ew] at t
      exact t
    · obtain ⟨m, rfl⟩ : ∃ m : Nat, v = (m : Int) * 8 := ⟨(v / 8).toNat, by have := h8 rfl; omega⟩
      exact ⟨_, turns7 op (w % 32) (w / 32 % 32) m hop (by omega) (by omega) (by omega)⟩
  · refine ⟨?_, fun v _ hv => ?_⟩
    · have t := turns8 op (w % 32) (w / 32 % 32) 0 hop (by omega) (by omega) (by omega)
      rw [ew] at t
      exact t
    · obtain ⟨m, rfl⟩ := Int.eq_ofNat_of_zero_le hv.1
      exact ⟨_, turns8 op (w % 32) (w / 32 % 32) m hop (by omega) (by omega) (by omega)⟩
theorem core_nine (op w : Nat) (hw : w < 4294967296) (hop : op = 26 ∨ op = 32 ∨ op = 33) (hb : w / 2 ^ 24 * 2 ^ 24 = baseN op) (h0 : w / 2 ^ 5 % 2 ^ 19 = 0) :
    Turns op w ((w % 32 : Nat) : Int) 0 0 0 ∧ ∀ v : Int, v % 4 = 0 → -1048576 ≤ v ∧ v ≤ 1048572 → ∃ x, Turns op x ((w % 32 : Nat) : Int) 0 v 0 := by
  have ew : baseN op + w % 32 + 32 * 0 = w := by omega
  refine ⟨?_, fun v h4 hv => ?_⟩
  · have t := turns9 op (w % 32) 0 0 hop (by omega) (by omega) rfl
    rw [ew] at t
    exact t
  · obtain ⟨q, rfl⟩ : ∃ q : Int, v = q * 4 := ⟨v / 4, by omega⟩
    exact ⟨_, turns9 op (w % 32) (q % 524288).toNat q hop (by omega) (by omega) (by omega)⟩
theorem core_ten (op w : Nat) (hw : w < 4294967296) (hop : op = 27 ∨ op = 28) (hb : 2 ^ 24 * (2 ^ 5 * (2 ^ 2 * (w / 2 ^ 31)) + w / 2 ^ 24 % 2 ^ 5) = baseN op) (h0 : 4 * (w / 2 ^ 5 % 2 ^ 19) + w / 2 ^ 29 % 2 ^ 2 = 0) :
    Turns op w ((w % 32 : Nat) : Int) 0 0 0 ∧ ∀ v : Int, -1048576 ≤ v ∧ v ≤ 1048575 → ∃ x, Turns op x ((w % 32 : Nat) : Int) 0 v 0 := by
  have ew : baseN op + w % 32 + 32 * (0 / 4) + 536870912 * (0 % 4) = w := by omega
  refine ⟨?_, fun v hv => ?_⟩
  · have t := turns10 op (w % 32) 0 0 hop (by omega) (by omega) rfl
    rw [ew] at t
    exact t
  · exact ⟨_, turns10 op (w % 32) (v % 2097152).toNat v hop (by omega) (by omega) (by omega)⟩
theorem core_eleven (op w : Nat) (hw : w < 4294967296) (hop : op = 29 ∨ op = 30) (hb : w / 2 ^ 26 * 2 ^ 26 = baseN op) (h0 : w / 2 ^ 0 % 2 ^ 26 = 0) :
    Turns op w 0 0 0 0 ∧ ∀ v : Int, v % 4 = 0 → -134217728 ≤ v ∧ v ≤ 134217724 → ∃ x, Turns op x 0 0 v 0 := by
  have ew : baseN op + 0 = w := by omega
  refine ⟨?_, fun v h4 hv => ?_⟩
  · have t := turns11 op 0 0 hop (by omega) rfl
    rw [ew] at t
    exact t
  · obtain ⟨q, rfl⟩ : ∃ q : Int, v = q * 4 := ⟨v / 4, by omega⟩
    exact ⟨_, turns11 op (q % 67108864).toNat q hop (by omega) (by omega)⟩
theorem core_twelve (op w : Nat) (hw : w < 4294967296) (hop : op = 31) (hb : 2 ^ 4 * (2 ^ 1 * (2 ^ 19 * (w / 2 ^ 24)) + w / 2 ^ 4 % 2) = baseN op) (h0 : w / 2 ^ 5 % 2 ^ 19 = 0) (hc : w % 16 ≤ 13) :
    Turns op w 0 0 0 ((w % 16 : Nat) : Int) ∧ ∀ v : Int, v % 4 = 0 → -1048576 ≤ v ∧ v ≤ 1048572 → ∃ x, Turns op x 0 0 v ((w % 16 : Nat) : Int) := by
  have ew : baseN op + w % 16 + 32 * 0 = w := by omega
  refine ⟨?_, fun v h4 hv => ?_⟩
  · have t := turns12 op (w % 16) 0 0 hop hc (by omega) rfl
    rw [ew] at t
    exact t
  · obtain ⟨q, rfl⟩ : ∃ q : Int, v = q * 4 := ⟨v / 4, by omega⟩
    exact ⟨_, turns12 op (w % 16) (q % 524288).toNat q hop hc (by omega) (by omega)⟩
theorem is12_no (o v c : Int) (ho : P.inst_Shape.f o = some 12) (hc : 14 ≤ c) (hv : v = 0) : P.inst_Is.f 60 o 0 0 0 0 v 0 0 0 c = some false := by
  unfold P.inst_Is.f
  rw [ho]
  simp [P.inst_has.f, P.inst_has.j0, P.inst_has.j1, P.inst_has.j2, P.inst_register.f, P.inst_Is.j0, P.inst_number.f, P.inst_number.j0, P.inst_number.j1, P.inst_number.j2, P.inst_within.f, P.inst_amount.f, P.inst_cond.f, hv, (by omega : ¬ (c ≤ 13)), (by omega : 0 ≤ c)]
  omega
theorem twelve_c (o v c : Int) (ho : P.inst_Shape.f o = some 12) (hv : v = 0) (his : Ev (fun k => P.inst_Is.f k o 0 0 0 0 v 0 0 0 c) true) : c ≤ 13 := by
  refine Decidable.byContradiction fun hc => ?_
  exact absurd (Ev.one (Ev.of (fun k => P.inst_Is.mono o 0 0 0 0 v 0 0 0 c k) (is12_no o v c ho (by omega) hv)) his) (by decide)
theorem maskIs (op : Nat) (z : Nat) (h : maskN op = z) (w : Nat) (han : an w (maskN op) = baseN op) : an w z = baseN op := h ▸ han
theorem val2 {v : Int} (h : Val 2 v) : v % 4 = 0 ∧ -134217728 ≤ v ∧ v ≤ 134217724 := by unfold Val at h; omega
theorem val34 {k v : Int} (hk : k = 3 ∨ k = 4) (h : Val k v) : v % 4 = 0 ∧ -1048576 ≤ v ∧ v ≤ 1048572 := by unfold Val at h; omega
theorem val56 {k v : Int} (hk : k = 5 ∨ k = 6) (h : Val k v) : -1048576 ≤ v ∧ v ≤ 1048575 := by unfold Val at h; omega
theorem val79 {k v : Int} (hk : k = 7 ∨ k = 9) (h : Val k v) : 0 ≤ v ∧ v ≤ 4095 := by unfold Val at h; omega
theorem val8 {v : Int} (h : Val 8 v) : v % 8 = 0 ∧ 0 ≤ v ∧ v ≤ 4095 := by unfold Val at h; omega
theorem kinds (k : Int) (h1 : 2 ≤ k) (h2 : k ≤ 9) : k = 2 ∨ k = 3 ∨ k = 4 ∨ k = 5 ∨ k = 6 ∨ k = 7 ∨ k = 8 ∨ k = 9 := by omega
theorem op_two {op a : Nat} (h : (a : Int) ≤ (op : Int)) (k : (op : Int) ≤ ((a + 1 : Nat) : Int)) : op = a ∨ op = a + 1 := by omega
theorem op_three {op a : Nat} (h : (a : Int) ≤ (op : Int)) (k : (op : Int) ≤ ((a + 2 : Nat) : Int)) : op = a ∨ op = a + 1 ∨ op = a + 2 := by omega
theorem op_one {op a : Nat} (h : (a : Int) ≤ (op : Int)) (k : (op : Int) ≤ (a : Int)) : op = a := by omega
/-- What a word that fits is: its operation, its fields. -/
theorem fits_op (kind : Int) (w : Nat) (hw : w < 4294967296) (hf : Ev (fun k => P.part_Fits.f k kind (w : Int)) true) :
    0 ≤ kind ∧ kind ≤ 9 ∧ ∃ op : Nat, 1 ≤ op ∧ op ≤ 39 ∧ rd P.fittingL (2 * kind) ≤ (op : Int) ∧ (op : Int) ≤ rd P.fittingL (2 * kind + 1) ∧ an w (maskN op) = baseN op ∧ ∃ i : Int × Int × Int × Int × Int × Int × Int × Int × Int × Int, Ev (fun k => P.code_read.of k (w : Int) (op : Int) (shapeN op : Int)) i ∧
      i.2.2.2.2.2.1 = 0 ∧ i.2.2.2.2.2.2.2.2.1 = 0 ∧ Ev (fun k => P.inst_Is.f k i.1 i.2.1 i.2.2.1 i.2.2.2.1 i.2.2.2.2.1 i.2.2.2.2.2.1 i.2.2.2.2.2.2.1 i.2.2.2.2.2.2.2.1 i.2.2.2.2.2.2.2.2.1 i.2.2.2.2.2.2.2.2.2) true := by
  have h0 : ¬ kind < 0 := fun h => by
    have e : Ev (fun k => P.part_Fits.f k kind (w : Int)) false := by
      unfold P.part_Fits.f
      simp only [if_pos h]
      exact Ev.now _
    exact absurd (Ev.one e hf) (by decide)
  have h9 : ¬ kind > 9 := fun h => by
    have e : Ev (fun k => P.part_Fits.f k kind (w : Int)) false := by
      unfold P.part_Fits.f
      simp only [if_neg h0, if_pos h]
      exact Ev.now _
    exact absurd (Ev.one e hf) (by decide)
  refine ⟨by omega, by omega, ?_⟩
  obtain ⟨r, hr, hg⟩ := decode_full w hw
  have hof : P.part_Fits.of kind r = true := by
    have e : Ev (fun k => P.part_Fits.f k kind (w : Int)) (P.part_Fits.of kind r) := by
      unfold P.part_Fits.f
      simp only [if_neg h0, if_neg h9]
      exact hr.bind (Ev.now _)
    exact Ev.one e hf
  unfold P.part_Fits.of at hof
  split at hof
  case isFalse => cases hof
  rename_i herr
  split at hof
  case isFalse => cases hof
  rename_i himm
  split at hof
  case isFalse => cases hof
  rename_i ham
  split at hof
  case isFalse => cases hof
  rename_i hge
  have hle := of_decide_eq_true hof
  obtain ⟨op, h1, h2, han, i, hi, hio, hri, his⟩ := hg herr
  have eimm : i.2.2.2.2.2.1 = 0 := by rw [hri] at himm; exact himm
  have eam : i.2.2.2.2.2.2.2.2.1 = 0 := by rw [hri] at ham; exact ham
  have r1 : r.1 = (op : Int) := by rw [hri]; exact hio
  rw [r1] at hge hle
  exact ⟨op, h1, h2, hge, hle, han, i, hi, eimm, eam, his⟩
theorem fits_kind (kind : Int) (w : Nat) (hw : w < 4294967296) (hf : Ev (fun k => P.part_Fits.f k kind (w : Int)) true) : 2 ≤ kind ∧ kind ≤ 9 := by
  obtain ⟨h0, h9, op, h1, _, _, hle, _⟩ := fits_op kind w hw hf
  have n0 : kind ≠ 0 := by
    rintro rfl
    rw [show rd P.fittingL (2 * 0 + 1) = 0 by kernel_rfl] at hle
    omega
  have n1 : kind ≠ 1 := by
    rintro rfl
    rw [show rd P.fittingL (2 * 1 + 1) = 0 by kernel_rfl] at hle
    omega
  omega
/-- WHAT FITS A RELOCATION: the instruction of the word, and of the word as any value turns it. -/
theorem fits_core (kind : Int) (w : Nat) (hw : w < 4294967296) (hf : Ev (fun k => P.part_Fits.f k kind (w : Int)) true) :
    ∃ (op : Nat) (d n c : Int), Turns op w d n 0 c ∧ ∀ v : Int, Val kind v → ∃ x, Turns op x d n v c := by
  obtain ⟨k1, k2⟩ := fits_kind kind w hw hf
  obtain ⟨_, _, op, h1, h2, hge, hle, han, i, hi, eimm, eam, his⟩ := fits_op kind w hw hf
  have pow5 : w / 2 ^ 0 = w := by simp
  -- the operations of each kind
  have two : ∀ s : Nat, (op = 4 ∧ s = 2 ∨ (op = 22 ∨ op = 23) ∧ s = 7 ∨ (op = 24 ∨ op = 25) ∧ s = 8) →
      Turns op w ((w % 32 : Nat) : Int) ((w / 32 % 32 : Nat) : Int) 0 0 ∧ ∀ v : Int, (s = 7 → v % 8 = 0) → 0 ≤ v ∧ v ≤ 4095 → ∃ x, Turns op x ((w % 32 : Nat) : Int) ((w / 32 % 32 : Nat) : Int) v 0 := by
    intro s hs
    have f3 : P.fld (w : Int) 10 12 = ((w / 2 ^ 10 % 2 ^ 12 : Nat) : Int) := fld_ok w 10 12 hw (by decide) (by decide) (by decide)
    have f4 : P.fld (w : Int) 22 1 = ((w / 2 ^ 22 % 2 ^ 1 : Nat) : Int) := fld_ok w 22 1 hw (by decide) (by decide) (by decide)
    have b3 : w / 2 ^ 10 % 2 ^ 12 < 2 ^ 12 := Nat.mod_lt _ (by decide)
    have b4 : w / 2 ^ 22 % 2 ^ 1 < 2 ^ 1 := Nat.mod_lt _ (by decide)
    refine core_two op w hw s hs 0 ?_ ?_
    · rcases hs with ⟨rfl, rfl⟩ | ⟨hop, rfl⟩ | ⟨hop, rfl⟩
      · have e := maskIs 4 (2 ^ 23 - 1) (by kernel_rfl) w han
        rw [an_low] at e
        have es : shapeN 4 = 2 := by kernel_rfl
        rw [es] at hi
        have hi2 := Ev.const_eq (Ev.congr (fun k => (read2 k (w : Int) 4).symm) hi)
        obtain rfl := Option.some.inj hi2
        have e4 : wrap64 (P.fld (w : Int) 22 1 * 12) = 0 := eam
        rw [f4, wrap64_small _ (by omega) (by omega)] at e4
        omega
      · have e := maskIs op (2 ^ 22 - 1) (by rcases hop with rfl | rfl <;> kernel_rfl) w han
        rw [an_low] at e
        omega
      · have e := maskIs op (2 ^ 22 - 1) (by rcases hop with rfl | rfl <;> kernel_rfl) w han
        rw [an_low] at e
        omega
    · rcases hs with ⟨rfl, rfl⟩ | ⟨hop, rfl⟩ | ⟨hop, rfl⟩
      · have es : shapeN 4 = 2 := by kernel_rfl
        rw [es] at hi
        have hi2 := Ev.const_eq (Ev.congr (fun k => (read2 k (w : Int) 4).symm) hi)
        obtain rfl := Option.some.inj hi2
        have e3 : P.fld (w : Int) 10 12 = 0 := eimm
        omega
      · have es : shapeN op = 7 := by rcases hop with rfl | rfl <;> kernel_rfl
        rw [es] at hi
        have hi2 := Ev.const_eq (Ev.congr (fun k => (read7 k (w : Int) op).symm) hi)
        obtain rfl := Option.some.inj hi2
        have e3 : wrap64 (P.fld (w : Int) 10 12 * 8) = 0 := eimm
        rw [f3, wrap64_small _ (by omega) (by omega)] at e3
        omega
      · have es : shapeN op = 8 := by rcases hop with rfl | rfl <;> kernel_rfl
        rw [es] at hi
        have hi2 := Ev.const_eq (Ev.congr (fun k => (read8 k (w : Int) op).symm) hi)
        obtain rfl := Option.some.inj hi2
        have e3 : P.fld (w : Int) 10 12 = 0 := eimm
        omega
  have sf : ∀ a n : Nat, 1 ≤ n → n < 32 → a + n ≤ 32 → wrap64 (P.sfl (w : Int) (a : Int) (n : Int) * 4) = 0 → w / 2 ^ a % 2 ^ n = 0 := by
    intro a n hn hn2 ha hz
    have hb := Nat.mod_lt (w / 2 ^ a) (Nat.two_pow_pos n)
    rw [sfl_ok w a n hw hn hn2 ha] at hz
    have hs := sgn_bound hb hn hn2
    rw [wrap64_small _ (by omega) (by omega)] at hz
    exact sgn_zero hb hn (by omega)
  have nine : (op = 26 ∨ op = 32 ∨ op = 33) → Turns op w ((w % 32 : Nat) : Int) 0 0 0 ∧ ∀ v : Int, v % 4 = 0 → -1048576 ≤ v ∧ v ≤ 1048572 → ∃ x, Turns op x ((w % 32 : Nat) : Int) 0 v 0 := by
    intro hop
    have es : shapeN op = 9 := by rcases hop with rfl | rfl | rfl <;> kernel_rfl
    rw [es] at hi
    have hi2 := Ev.const_eq (Ev.congr (fun k => (read9 k (w : Int) op).symm) hi)
    obtain rfl := Option.some.inj hi2
    have e := maskIs op (2 ^ 24 - 1) (by rcases hop with rfl | rfl | rfl <;> kernel_rfl) w han
    rw [an_low] at e
    exact core_nine op w hw hop (by omega) (sf 5 19 (by decide) (by decide) (by decide) eimm)
  have ten : (op = 27 ∨ op = 28) → Turns op w ((w % 32 : Nat) : Int) 0 0 0 ∧ ∀ v : Int, -1048576 ≤ v ∧ v ≤ 1048575 → ∃ x, Turns op x ((w % 32 : Nat) : Int) 0 v 0 := by
    intro hop
    have es : shapeN op = 10 := by rcases hop with rfl | rfl <;> kernel_rfl
    rw [es] at hi
    have hi2 := Ev.const_eq (Ev.congr (fun k => (read10 k w op hw).symm) hi)
    obtain rfl := Option.some.inj hi2
    have e := maskIs op (2 ^ 24 * (2 ^ 5 * (2 ^ 2 - 1) + 0) + (2 ^ 24 - 1)) (by rcases hop with rfl | rfl <;> kernel_rfl) w han
    rw [an_split _ 24 _ _ (by decide), an_full (Nat.mod_lt _ (by decide)), an_split _ 5 _ _ (by decide), an_zero, an_low, Nat.add_zero] at e
    have b2 : w / 2 ^ 5 % 2 ^ 19 < 2 ^ 19 := Nat.mod_lt _ (by decide)
    have b3 : w / 2 ^ 29 % 2 ^ 2 < 2 ^ 2 := Nat.mod_lt _ (by decide)
    have z := sgn_zero (n := 21) (by omega) (by decide) eimm
    refine core_ten op w hw hop ?_ z
    rw [Nat.div_div_eq_div_mul, Nat.div_div_eq_div_mul] at e
    exact e
  have eleven : (op = 29 ∨ op = 30) → Turns op w 0 0 0 0 ∧ ∀ v : Int, v % 4 = 0 → -134217728 ≤ v ∧ v ≤ 134217724 → ∃ x, Turns op x 0 0 v 0 := by
    intro hop
    have es : shapeN op = 11 := by rcases hop with rfl | rfl <;> kernel_rfl
    rw [es] at hi
    have hi2 := Ev.const_eq (Ev.congr (fun k => (read11 k (w : Int) op).symm) hi)
    obtain rfl := Option.some.inj hi2
    have e := maskIs op (2 ^ 26 - 1) (by rcases hop with rfl | rfl <;> kernel_rfl) w han
    rw [an_low] at e
    exact core_eleven op w hw hop (by omega) (sf 0 26 (by decide) (by decide) (by decide) eimm)
  have twelve : op = 31 → Turns op w 0 0 0 ((w % 16 : Nat) : Int) ∧ ∀ v : Int, v % 4 = 0 → -1048576 ≤ v ∧ v ≤ 1048572 → ∃ x, Turns op x 0 0 v ((w % 16 : Nat) : Int) := by
    intro hop
    have es : shapeN op = 12 := by subst hop; kernel_rfl
    have hsh := shape_some op h1 h2
    rw [es] at hi hsh
    have hi2 := Ev.const_eq (Ev.congr (fun k => (read12 k (w : Int) op).symm) hi)
    obtain rfl := Option.some.inj hi2
    have e := maskIs op (2 ^ 4 * (2 ^ 1 * (2 ^ 19 - 1) + 0) + (2 ^ 4 - 1)) (by subst hop; kernel_rfl) w han
    rw [an_split _ 4 _ _ (by decide), an_full (Nat.mod_lt _ (by decide)), an_split _ 1 _ _ (by decide), an_zero, an_low, Nat.add_zero] at e
    have f : P.fld (w : Int) 0 4 = ((w % 16 : Nat) : Int) := cast_eq (fld_ok w 0 4 hw (by decide) (by decide) (by decide)) (by omega)
    refine core_twelve op w hw hop ?_ (sf 5 19 (by decide) (by decide) (by decide) eimm) ?_
    · rw [Nat.div_div_eq_div_mul, Nat.div_div_eq_div_mul] at e
      exact e
    · have hc := twelve_c (op : Int) _ _ hsh eimm his
      rw [f] at hc
      exact Int.ofNat_le.mp hc
  rcases kinds kind k1 k2 with rfl | rfl | rfl | rfl | rfl | rfl | rfl | rfl
  · rw [show rd P.fittingL (2 * 2) = ((29 : Nat) : Int) by kernel_rfl] at hge
    rw [show rd P.fittingL (2 * 2 + 1) = ((30 : Nat) : Int) by kernel_rfl] at hle
    obtain ⟨a, b⟩ := eleven (op_two hge hle)
    exact ⟨op, 0, 0, 0, a, fun v hv => b v (val2 hv).1 (val2 hv).2⟩
  · rw [show rd P.fittingL (2 * 3) = ((31 : Nat) : Int) by kernel_rfl] at hge
    rw [show rd P.fittingL (2 * 3 + 1) = ((33 : Nat) : Int) by kernel_rfl] at hle
    rcases op_three hge hle with h | h | h
    · obtain ⟨a, b⟩ := twelve h
      exact ⟨op, 0, 0, _, a, fun v hv => b v (val34 (.inl rfl) hv).1 (val34 (.inl rfl) hv).2⟩
    · obtain ⟨a, b⟩ := nine (.inr (.inl h))
      exact ⟨op, _, 0, 0, a, fun v hv => b v (val34 (.inl rfl) hv).1 (val34 (.inl rfl) hv).2⟩
    · obtain ⟨a, b⟩ := nine (.inr (.inr h))
      exact ⟨op, _, 0, 0, a, fun v hv => b v (val34 (.inl rfl) hv).1 (val34 (.inl rfl) hv).2⟩
  · rw [show rd P.fittingL (2 * 4) = ((26 : Nat) : Int) by kernel_rfl] at hge
    rw [show rd P.fittingL (2 * 4 + 1) = ((26 : Nat) : Int) by kernel_rfl] at hle
    obtain ⟨a, b⟩ := nine (.inl (op_one hge hle))
    exact ⟨op, _, 0, 0, a, fun v hv => b v (val34 (.inr rfl) hv).1 (val34 (.inr rfl) hv).2⟩
  · rw [show rd P.fittingL (2 * 5) = ((27 : Nat) : Int) by kernel_rfl] at hge
    rw [show rd P.fittingL (2 * 5 + 1) = ((27 : Nat) : Int) by kernel_rfl] at hle
    obtain ⟨a, b⟩ := ten (.inl (op_one hge hle))
    exact ⟨op, _, 0, 0, a, fun v hv => b v (val56 (.inl rfl) hv)⟩
  · rw [show rd P.fittingL (2 * 6) = ((28 : Nat) : Int) by kernel_rfl] at hge
    rw [show rd P.fittingL (2 * 6 + 1) = ((28 : Nat) : Int) by kernel_rfl] at hle
    obtain ⟨a, b⟩ := ten (.inr (op_one hge hle))
    exact ⟨op, _, 0, 0, a, fun v hv => b v (val56 (.inr rfl) hv)⟩
  · rw [show rd P.fittingL (2 * 7) = ((4 : Nat) : Int) by kernel_rfl] at hge
    rw [show rd P.fittingL (2 * 7 + 1) = ((4 : Nat) : Int) by kernel_rfl] at hle
    obtain ⟨a, b⟩ := two 2 (.inl ⟨op_one hge hle, rfl⟩)
    exact ⟨op, _, _, 0, a, fun v hv => b v (fun h => absurd h (by decide)) (val79 (.inl rfl) hv)⟩
  · rw [show rd P.fittingL (2 * 8) = ((22 : Nat) : Int) by kernel_rfl] at hge
    rw [show rd P.fittingL (2 * 8 + 1) = ((23 : Nat) : Int) by kernel_rfl] at hle
    obtain ⟨a, b⟩ := two 7 (.inr (.inl ⟨op_two hge hle, rfl⟩))
    exact ⟨op, _, _, 0, a, fun v hv => b v (fun _ => (val8 hv).1) (val8 hv).2⟩
  · rw [show rd P.fittingL (2 * 9) = ((24 : Nat) : Int) by kernel_rfl] at hge
    rw [show rd P.fittingL (2 * 9 + 1) = ((25 : Nat) : Int) by kernel_rfl] at hle
    obtain ⟨a, b⟩ := two 8 (.inr (.inr ⟨op_two hge hle, rfl⟩))
    exact ⟨op, _, _, 0, a, fun v hv => b v (fun h => absurd h (by decide)) (val79 (.inr rfl) hv)⟩
end Go.Proofs.YtjllhcfcdimbfaaDoor.Pure
