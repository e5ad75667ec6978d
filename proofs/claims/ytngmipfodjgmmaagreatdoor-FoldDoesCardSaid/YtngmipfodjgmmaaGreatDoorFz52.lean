/- Walks and plain laws of this claim, a part. -/
import Derived.Test.YtngmipfodjgmmaaGreatDoorFz42
import Derived.Test.YtngmipfodjgmmaaGreatDoorFz48
import Derived.Test.YtngmipfodjgmmaaGreatDoorFz49
set_option maxRecDepth 100000
set_option maxHeartbeats 4000000
set_option linter.unusedVariables false
set_option linter.unusedSimpArgs false
section
namespace Go.Proofs.YtngmipfodjgmmaaGreatDoor.Pure
open Go Go.RowKit Wa Wb Wc
theorem u64_small (z : Nat) (h : z < 18446744073709551616) : IntKind.u64.wrap (z : Int) = (z : Int) := by
 show (z : Int) % 18446744073709551616 = z
 omega
theorem i64_succ (i : Nat) (h : i < 1000000000) : wrap64 ((i : Int) + 1) = ((i + 1 : Nat) : Int) := by rw [wrap64_small _ (by omega) (by omega)]; rfl
theorem pow63 {n : Nat} (h : n ≤ 63) : 2 ^ n < 18446744073709551616 := Nat.pow_lt_pow_right (a := 2) (m := n) (n := 64) (by decide) (by omega)
theorem rpow_ev (n : Nat) (hn : n ≤ 63) : Ev (fun k => P.cleatref01_Power.f k (n : Int)) ((2 ^ n : Nat) : Int) := by
 have go : ∀ d i : Nat, i + d = n → Ev (fun k => P.cleatref01_Power.l0 k (n : Int) ((2 ^ i : Nat) : Int) (i : Int)) ((2 ^ n : Nat) : Int) := by
  intro d
  induction d with
  | zero =>
   intro i hi
   obtain rfl : i = n := by omega
   exact Ev.step (fun k => P.cleatref01_Power.l0.eq_2 _ _ _ _) (Ev.congr (fun k => if_neg (by omega)) (Ev.now _))
  | succ d ih =>
   intro i hi
   have e2 : IntKind.u64.wrap (2 * ((2 ^ i : Nat) : Int)) = ((2 ^ (i + 1) : Nat) : Int) := by
    rw [← u64_small _ (pow63 (n := i + 1) (by omega)), Nat.pow_succ]
    congr 1
    push_cast
    omega
   refine Ev.step (fun k => P.cleatref01_Power.l0.eq_2 _ _ _ _) (Ev.congr (fun k => if_pos (by omega)) ?_)
   rw [i64_succ i (by omega), e2]
   exact ih (i + 1) (by omega)
 exact go n 0 (by omega)
theorem pow_ne {n : Nat} : ¬ ((2 ^ n : Nat) : Int) = 0 := by have := Nat.two_pow_pos n; omega
theorem tdiv_nat (a b : Nat) : Int.tdiv (a : Int) (b : Int) = ((a / b : Nat) : Int) := (Int.ofNat_tdiv a b).symm
theorem tmod_nat (a b : Nat) : Int.tmod (a : Int) (b : Int) = ((a % b : Nat) : Int) := (Int.ofNat_tmod a b).symm
theorem rfield_ev (w a n : Nat) (hw : w < 4294967296) (hn : 1 ≤ n) (ha : a + n ≤ 32) : Ev (fun k => P.cleatref01_Field.f k (w : Int) (a : Int) (n : Int)) (((fdN w (a, n) : Nat) : Int), 0) := by
 have hr : P.cleatref01_Right.f (a : Int) (n : Int) = some true := by
  unfold P.cleatref01_Right.f
  rw [if_pos (by omega), if_pos (by omega), if_pos (by omega), wrap64_small _ (by omega) (by omega), dT_ (by omega)]
 unfold P.cleatref01_Field.f
 rw [hr]
 refine Ev.bind (Ev.now true) (Ev.congr (fun k => if_pos rfl) (Ev.bind (rpow_ev a (by omega)) (Ev.congr (fun k => if_neg pow_ne) (Ev.bind (rpow_ev n (by omega)) (Ev.congr (fun k => if_neg pow_ne) ?_)))))
 have e : Int.tmod (IntKind.u64.wrap (Int.tdiv (IntKind.u64.wrap (w : Int)) ((2 ^ a : Nat) : Int))) ((2 ^ n : Nat) : Int) % 4294967296 = ((fdN w (a, n) : Nat) : Int) := by
  have h1 : w / 2 ^ a ≤ w := Nat.div_le_self _ _
  have h2 : w / 2 ^ a % 2 ^ n ≤ w / 2 ^ a := Nat.mod_le _ _
  rw [u64_small w (by omega), tdiv_nat, u64_small _ (by omega), tmod_nat]
  unfold fdN
  show ((w / 2 ^ a % 2 ^ n : Nat) : Int) % 4294967296 = ((w / 2 ^ a % 2 ^ n : Nat) : Int)
  omega
 rw [e]
 exact Ev.now _
theorem rbit_ev (v n : Nat) (hn : n ≤ 63) (hv : v < 18446744073709551616) : Ev (fun k => P.cleatref01_Bit.f k (v : Int) (n : Int)) (v / 2 ^ n % 2 == 1) := by
 unfold P.cleatref01_Bit.f
 refine Ev.bind (rpow_ev n hn) (Ev.congr (fun k => if_neg pow_ne) ?_)
 have h1 : v / 2 ^ n ≤ v := Nat.div_le_self _ _
 rw [tdiv_nat, u64_small _ (by omega), show (2 : Int) = ((2 : Nat) : Int) from rfl, tmod_nat]
 have : ((((v / 2 ^ n % 2 : Nat) : Int) == 1) = (v / 2 ^ n % 2 == 1)) := by
  rw [Bool.eq_iff_iff, beq_iff_eq, beq_iff_eq]
  omega
 rw [this]
 exact Ev.now _
theorem rsigned_ev (v n : Nat) (hn : 1 ≤ n) (hn2 : n < 32) (hv : v < 2 ^ n) : Ev (fun k => P.cleatref05_signed.f k (v : Int) (n : Int)) (sgn n v) := by
 have hp := pow_lt32 hn2
 have hp2 : 2 ^ n = 2 * 2 ^ (n - 1) := by rw [← Nat.pow_succ']; congr 1; omega
 have hp1 : 1 ≤ 2 ^ (n - 1) := Nat.one_le_two_pow
 have hS : Ev (fun k => P.cleatref01_Signed.f k (v : Int) (n : Int)) (sgn n v, 0) := by
  unfold P.cleatref01_Signed.f
  rw [dF_ (by omega)]
  refine Ev.congr (fun k => if_neg (by omega)) (Ev.step (fun k => P.cleatref01_Signed.j0.eq_2 _ _ _ _) (Ev.congr (fun k => if_neg (by decide)) ?_))
  have hs : Ev (fun k => P.cleatref01_Small.f k (v : Int) (n : Int)) true := by
   unfold P.cleatref01_Small.f
   refine Ev.congr (fun k => if_neg (by omega)) (Ev.bind (rpow_ev n (by omega)) ?_)
   rw [dT_ (by omega)]
   exact Ev.now _
  have hu : IntKind.u64.wrap (v : Int) = (v : Int) := u64_small v (by omega)
  have e1 : wrap64 ((n : Int) - 1) = ((n - 1 : Nat) : Int) := by rw [wrap64_small _ (by omega) (by omega)]; omega
  rw [hu, e1, wrap64_small (v : Int) (by omega) (by omega)]
  refine Ev.bind hs (Ev.congr (fun k => if_pos rfl) (Ev.bind (rbit_ev v (n - 1) (by omega) (by omega)) ?_))
  unfold sgn
  by_cases c : v < 2 ^ (n - 1)
  ·rw [if_pos c, Nat.div_eq_of_lt c]
   exact Ev.congr (fun k => if_neg (by decide)) (Ev.now _)
  rw [if_neg c]
  have e5 : v / 2 ^ (n - 1) = 1 := by
   rw [Nat.div_eq_iff (Nat.two_pow_pos _)]
   omega
  rw [e5]
  refine Ev.congr (fun k => if_pos (by decide)) (Ev.bind (rpow_ev n (by omega)) ?_)
  have e6 : wrap64 ((v : Int) - wrap64 ((2 ^ n : Nat) : Int)) = (v : Int) - 2 ^ n := by
   rw [wrap64_small ((2 ^ n : Nat) : Int) (by omega) (by omega), wrap64_small _ (by omega) (by omega)]
   push_cast
   rfl
  rw [e6]
  exact Ev.now _
 unfold P.cleatref05_signed.f
 exact Ev.bind hS (Ev.now _)
theorem u64_is (z : Int) : U64 (IntKind.u64.wrap z) := ⟨(z % 18446744073709551616).toNat, by show z % 18446744073709551616 = _; omega, by omega⟩
theorem rbit_ends (v n : Int) (hn : 0 ≤ n) (hn2 : n ≤ 63) (hv : U64 v) : Ends (fun k => P.cleatref01_Bit.f k v n) := by
 obtain ⟨m, rfl, hm⟩ := hv
 obtain ⟨j, rfl⟩ : ∃ j : Nat, n = (j : Int) := ⟨n.toNat, by omega⟩
 exact ⟨_, rbit_ev m j (by omega) hm⟩
theorem rpow_ends (n : Int) (hn : 0 ≤ n) (hn2 : n ≤ 63) : Ends (fun k => P.cleatref01_Power.f k n) := by
 obtain ⟨j, rfl⟩ : ∃ j : Nat, n = (j : Int) := ⟨n.toNat, by omega⟩
 exact ⟨_, rpow_ev j (by omega)⟩
theorem tmod_in (a n : Int) (ha : 0 ≤ a) (hn : 0 < n) (h : n ≤ 64) : 0 ≤ Int.tmod a n ∧ Int.tmod a n ≤ 63 := by
 rw [Int.tmod_eq_emod_of_nonneg ha]
 have h1 := Int.emod_nonneg a (show n ≠ 0 by omega)
 have h2 := Int.emod_lt_of_pos a hn
 omega
theorem ragain_ends (v n : Int) (hv : U64 v) (hn : Six n) : EndsP (fun k => P.cleatref02_again.f k v n) U64 := by
 have hnp : 0 < n ∧ n ≤ 64 := by rcases hn with h | h | h | h | h | h <;> omega
 have go : ∀ (d : Nat) (i c : Int), 0 ≤ i → i + d = 64 → U64 c → EndsP (fun k => P.cleatref02_again.l0 k v n c i) U64 := by
  intro d
  induction d with
  | zero => intro i c h0 h1 hc; exact EndsP.step (fun k => P.cleatref02_again.l0.eq_2 _ _ _ _ _) (EndsP.ite (fun h => absurd h (by omega)) fun _ => EndsP.now _ hc)
  | succ d ih =>
   intro i c h0 h1 hc
   have e : wrap64 (i + 1) = i + 1 := wrap64_small _ (by omega) (by omega)
   refine EndsP.step (fun k => P.cleatref02_again.l0.eq_2 _ _ _ _ _) (EndsP.ite (fun _ => EndsP.ite (fun h => absurd h (by omega)) fun _ => ?_) fun h => absurd (by omega) h)
   obtain ⟨a, b⟩ := tmod_in i n h0 hnp.1 hnp.2
   refine EndsP.bind (rbit_ends v _ a b hv).plain fun t _ _ => ?_
   rw [e]
   exact EndsP.ite (fun _ => EndsP.bind (rpow_ends i h0 (by omega)).plain fun p _ _ => ih _ _ (by omega) (by omega) (u64_is _)) fun _ => ih _ _ (by omega) (by omega) hc
 exact go 64 0 0 (by decide) (by decide) u64_zero
theorem rsmall_ends (v n : Int) (hn : 0 ≤ n) : Ends (fun k => P.cleatref01_Small.f k v n) :=
 Ends.ite (fun _ => Ends.now _) fun h => Ends.bind (rpow_ends n hn (by omega)) fun _ _ => Ends.now _
theorem rrot_ends (v b n : Int) (hv : U64 v) (hb : 0 ≤ b) (hn : Six n) : EndsP (fun k => P.cleatref01_Rotate.f k v b n) (fun t => U64 t.1) := by
 have hnp : 0 < n ∧ n ≤ 64 := by rcases hn with h | h | h | h | h | h <;> omega
 have go : ∀ (d : Nat) (i c : Int), 0 ≤ i → i + d = n → b < n → U64 c → EndsP (fun k => P.cleatref01_Rotate.l0 k v b n c i) (fun t => U64 t.1) := by
  intro d
  induction d with
  | zero => intro i c h0 h1 hbn hc; exact EndsP.step (fun k => P.cleatref01_Rotate.l0.eq_2 _ _ _ _ _ _) (EndsP.ite (fun h => absurd h (by omega)) fun _ => EndsP.now _ hc)
  | succ d ih =>
   intro i c h0 h1 hbn hc
   have e : wrap64 (i + 1) = i + 1 := wrap64_small _ (by omega) (by omega)
   have e2 : wrap64 (i + b) = i + b := wrap64_small _ (by omega) (by omega)
   refine EndsP.step (fun k => P.cleatref01_Rotate.l0.eq_2 _ _ _ _ _ _) (EndsP.ite (fun _ => EndsP.ite (fun h => absurd h (by omega)) fun _ => ?_) fun h => absurd (by omega) h)
   obtain ⟨x, y⟩ := tmod_in (i + b) n (by omega) hnp.1 hnp.2
   rw [e, e2]
   refine EndsP.bind (rbit_ends v _ x y hv).plain fun t _ _ => ?_
   exact EndsP.ite (fun _ => EndsP.bind (rpow_ends i h0 (by omega)).plain fun p _ _ => ih _ _ (by omega) (by omega) hbn (u64_is _)) fun _ => ih _ _ (by omega) (by omega) hbn hc
 have j0 : ∀ x : Bool, (x = false → b < n) → EndsP (fun k => P.cleatref01_Rotate.j0 k v b n x) (fun t => U64 t.1) := fun x hx =>
  EndsP.step (fun k => P.cleatref01_Rotate.j0.eq_2 _ _ _ _ _) (EndsP.ite (fun _ => EndsP.now _ u64_zero) fun h => EndsP.bind (rsmall_ends v n (by omega)).plain fun t _ _ => EndsP.ite (fun _ => go n.toNat 0 0 (by decide) (by omega) (hx (by simpa using h)) u64_zero) fun _ => EndsP.now _ u64_zero)
 have j1 : EndsP (fun k => if b < 0 then P.cleatref01_Rotate.j0 k v b n true else P.cleatref01_Rotate.j0 k v b n (decide (b ≥ n))) (fun t => U64 t.1) :=
  EndsP.ite (fun _ => j0 _ (fun h => by cases h)) fun _ => j0 _ (fun h => by have := of_decide_eq_false h; omega)
 unfold P.cleatref01_Rotate.f
 exact EndsP.ite (fun _ => j1) fun _ => EndsP.ite (fun _ => j1) fun _ => EndsP.ite (fun _ => j1) fun _ => EndsP.ite (fun _ => j1) fun _ => EndsP.ite (fun _ => j1) fun _ => EndsP.ite (fun _ => j1) fun _ => j0 _ (fun h => by cases h)
theorem rrow_ends (m b n : Int) (hm : m ≤ 64) (hb : 0 ≤ b) (hn : Six n) : EndsP (fun k => P.cleatref02_row.f k m b n) U64 := by
 have go : ∀ (d : Nat) (i c : Int), 0 ≤ i → m ≤ i + d → U64 c → EndsP (fun k => P.cleatref02_row.l0 k m b n c i) U64 := by
  intro d
  induction d with
  | zero => intro i c h0 h1 hc; exact EndsP.step (fun k => P.cleatref02_row.l0.eq_2 _ _ _ _ _ _) (EndsP.ite (fun h => absurd h (by omega)) fun _ => EndsP.bind (rrot_ends c b n hc hb hn) fun t _ ht => EndsP.now _ ht)
  | succ d ih =>
   intro i c h0 h1 hc
   refine EndsP.step (fun k => P.cleatref02_row.l0.eq_2 _ _ _ _ _ _) (EndsP.ite (fun _ => ?_) fun _ => EndsP.bind (rrot_ends c b n hc hb hn) fun t _ ht => EndsP.now _ ht)
   have e : wrap64 (i + 1) = i + 1 := wrap64_small _ (by omega) (by omega)
   rw [e]
   exact EndsP.bind (rpow_ends i h0 (by omega)).plain fun p _ _ => ih _ _ (by omega) (by omega) (u64_is _)
 exact go m.toNat 0 0 (by decide) (by omega) u64_zero
theorem rdec_ends (n r s : Int) : EndsP (fun k => P.cleatref02_Decode.f k n r s) (fun t => U64 t.1) := by
 have l0 : 0 ≤ r → s ≤ 63 → ∀ (d : Nat) (z : Int), (Six z ∧ z * 2 ^ d = 128 ∨ (z = 128 ∧ d = 0)) → EndsP (fun k => P.cleatref02_Decode.l0 k n r s z) (fun t => U64 t.1) := by
  intro hr hs d
  induction d with
  | zero =>
   intro z hz
   have : z = 128 := by rcases hz with ⟨_, h⟩ | h <;> omega
   exact EndsP.step (fun k => P.cleatref02_Decode.l0.eq_2 _ _ _ _ _) (EndsP.ite (fun h => absurd h (by omega)) fun _ => EndsP.now _ u64_zero)
  | succ d ih =>
   intro z hz
   obtain ⟨h6, hd⟩ : Six z ∧ z * 2 ^ (d + 1) = 128 := hz.resolve_right (by omega)
   have hzz : 2 ≤ z ∧ z ≤ 64 := by rcases h6 with h | h | h | h | h | h <;> omega
   have e : wrap64 (2 * z) = 2 * z := wrap64_small _ (by omega) (by omega)
   have hd2 : 2 * z * 2 ^ d = 128 := by rw [← hd, Int.pow_succ, Int.mul_comm (2 ^ d) 2, ← Int.mul_assoc, Int.mul_comm z 2]
   have nxt : EndsP (fun k => P.cleatref02_Decode.l0 k n r s (2 * z)) (fun t => U64 t.1) := by
    refine ih (2 * z) ?_
    rcases h6 with h | h | h | h | h | h
    ·exact .inl ⟨.inr (.inl (by omega)), hd2⟩
    ·exact .inl ⟨.inr (.inr (.inl (by omega))), hd2⟩
    ·exact .inl ⟨.inr (.inr (.inr (.inl (by omega)))), hd2⟩
    ·exact .inl ⟨.inr (.inr (.inr (.inr (.inl (by omega))))), hd2⟩
    ·exact .inl ⟨.inr (.inr (.inr (.inr (.inr (by omega))))), hd2⟩
    refine .inr ⟨by omega, ?_⟩
    subst h
    cases d with
    | zero => rfl
    | succ d =>
     have : (2 : Int) * 64 * 2 ^ (d + 1) = 256 * 2 ^ d := by rw [Int.pow_succ]; omega
     rw [this] at hd2
     have := Int.pow_pos (n := 2) (m := d) (by decide)
     omega
   have j3 : ∀ (c : Int) (x : Bool), (x = true → c ≤ 64) → EndsP (fun k => P.cleatref02_Decode.j3 k n r s z c x) (fun t => U64 t.1) := fun c x hx =>
    EndsP.step (fun k => P.cleatref02_Decode.j3.eq_2 _ _ _ _ _ _ _) (EndsP.ite (fun h => EndsP.bind (rrow_ends c r z (hx h) hr h6) fun t _ ht => EndsP.bind (ragain_ends t z ht h6) fun u _ hu => EndsP.now _ hu) fun _ => by rw [e]; exact nxt)
   have j2 : ∀ c : Int, EndsP (fun k => P.cleatref02_Decode.j2 k n r s z c) (fun t => U64 t.1) := fun c =>
    EndsP.step (fun k => P.cleatref02_Decode.j2.eq_2 _ _ _ _ _ _) (EndsP.ite (fun _ => EndsP.ite (fun _ => EndsP.ite (fun h => j3 _ _ (fun _ => by omega)) fun _ => j3 _ _ (fun h => by cases h)) fun _ => j3 _ _ (fun h => by cases h)) fun _ => j3 _ _ (fun h => by cases h))
   exact EndsP.step (fun k => P.cleatref02_Decode.l0.eq_2 _ _ _ _ _) (EndsP.ite (fun _ => EndsP.ite (fun _ => j2 _) fun _ => j2 _) fun _ => EndsP.now _ u64_zero)
 have j0 : ∀ x : Bool, (x = false → 0 ≤ r ∧ s ≤ 63) → EndsP (fun k => P.cleatref02_Decode.j0 k n r s x) (fun t => U64 t.1) := fun x hx =>
  EndsP.step (fun k => P.cleatref02_Decode.j0.eq_2 _ _ _ _ _) (EndsP.ite (fun _ => EndsP.now _ u64_zero) fun h => by
   obtain ⟨a, b⟩ := hx (by simpa using h)
   exact l0 a b 6 2 (.inl ⟨.inl rfl, by decide⟩))
 unfold P.cleatref02_Decode.f
 exact EndsP.ite (fun _ => j0 _ (fun h => by cases h)) fun _ => EndsP.ite (fun _ => j0 _ (fun h => by cases h)) fun _ => EndsP.ite (fun _ => j0 _ (fun h => by cases h)) fun _ => EndsP.ite (fun _ => j0 _ (fun h => by cases h)) fun _ => EndsP.ite (fun _ => j0 _ (fun h => by cases h)) fun _ => j0 _ (fun h => ⟨by omega, by have := of_decide_eq_false h; omega⟩)
theorem rlow_ends (v n : Int) (hv : U64 v) : EndsP (fun k => P.cleatref01_Low.f k v n) U64 := by
 refine EndsP.ite (fun _ => EndsP.now _ u64_zero) fun h1 => EndsP.ite (fun _ => EndsP.now _ hv) fun h2 => ?_
 obtain ⟨j, rfl⟩ : ∃ j : Nat, n = (j : Int) := ⟨n.toNat, by omega⟩
 refine EndsP.bind (q := fun t => t = ((2 ^ j : Nat) : Int)) ⟨_, rpow_ev j (by omega), rfl⟩ fun t _ ht => ?_
 subst ht
 refine EndsP.ite (fun h => absurd h pow_ne) fun _ => EndsP.now _ ?_
 obtain ⟨m, rfl, hm⟩ := hv
 rw [tmod_nat]
 exact ⟨_, rfl, Nat.lt_of_le_of_lt (Nat.mod_le _ _) hm⟩
theorem rsize_ends (v : Int) (hv : U64 v) : EndsP (fun k => P.cleatref02_Size.f k v) Six := by
 have l0 : ∀ (d : Nat) (z : Int), Six z → z * 2 ^ d = 64 → EndsP (fun k => P.cleatref02_Size.l0 k v z) Six := by
  intro d
  induction d with
  | zero =>
   intro z hz h
   exact EndsP.step (fun k => P.cleatref02_Size.l0.eq_2 _ _ _) (EndsP.ite (fun h => absurd h (by omega)) fun _ => EndsP.now _ (.inr (.inr (.inr (.inr (.inr rfl))))))
  | succ d ih =>
   intro z hz h
   have hzz : 2 ≤ z ∧ z ≤ 64 := by rcases hz with h | h | h | h | h | h <;> omega
   have e : wrap64 (2 * z) = 2 * z := wrap64_small _ (by omega) (by omega)
   have hd2 : 2 * z * 2 ^ d = 64 := by rw [← h, Int.pow_succ, Int.mul_comm (2 ^ d) 2, ← Int.mul_assoc, Int.mul_comm z 2]
   refine EndsP.step (fun k => P.cleatref02_Size.l0.eq_2 _ _ _) (EndsP.ite (fun hlt => EndsP.bind (rlow_ends v z hv) fun t _ ht => EndsP.bind (ragain_ends t z ht hz) fun u _ hu => EndsP.ite (fun _ => EndsP.now _ hz) fun _ => ?_) fun _ => EndsP.now _ (.inr (.inr (.inr (.inr (.inr rfl))))))
   rw [e]
   refine ih (2 * z) ?_ hd2
   rcases hz with h | h | h | h | h | h
   ·exact .inr (.inl (by omega))
   ·exact .inr (.inr (.inl (by omega)))
   ·exact .inr (.inr (.inr (.inl (by omega))))
   ·exact .inr (.inr (.inr (.inr (.inl (by omega)))))
   ·exact .inr (.inr (.inr (.inr (.inr (by omega)))))
   omega
 exact l0 5 2 (.inl rfl) (by decide)
theorem rones_ends (v : Int) (hv : U64 v) : EndsP (fun k => P.cleatref02_Ones.f k v) (fun c => c ≤ 64) := by
 have go : ∀ (d : Nat) (c i : Int), 0 ≤ i → i + d = 64 → 0 ≤ c → c ≤ i → EndsP (fun k => P.cleatref02_Ones.l0 k v c i) (fun c => c ≤ 64) := by
  intro d
  induction d with
  | zero => intro c i h0 h1 h2 h3; exact EndsP.step (fun k => P.cleatref02_Ones.l0.eq_2 _ _ _ _) (EndsP.ite (fun h => absurd h (by omega)) fun _ => EndsP.now _ (by omega))
  | succ d ih =>
   intro c i h0 h1 h2 h3
   have e : wrap64 (i + 1) = i + 1 := wrap64_small _ (by omega) (by omega)
   have e2 : wrap64 (c + 1) = c + 1 := wrap64_small _ (by omega) (by omega)
   refine EndsP.step (fun k => P.cleatref02_Ones.l0.eq_2 _ _ _ _) (EndsP.ite (fun _ => EndsP.bind (rbit_ends v i h0 (by omega) hv).plain fun t _ _ => ?_) fun h => absurd (by omega) h)
   rw [e, e2]
   exact EndsP.ite (fun _ => ih _ _ (by omega) (by omega) (by omega) (by omega)) fun _ => ih _ _ (by omega) (by omega) h2 (by omega)
 exact go 64 0 0 (by decide) (by decide) (by decide) (by decide)
theorem rmask_ends (v : Int) (hv : U64 v) : Ends (fun k => P.cleatref02_Is.f k v) := by
 have l0 : ∀ (z m : Int), Six z → m ≤ 64 → ∀ (d : Nat) (i : Int), 0 ≤ i → z ≤ i + d → Ends (fun k => P.cleatref02_Encode.l0 k v z m i) := by
  intro z m hz hm d
  have hzz : 2 ≤ z ∧ z ≤ 64 := by rcases hz with h | h | h | h | h | h <;> omega
  induction d with
  | zero =>
   intro i h0 h1
   exact Ends.step (fun k => P.cleatref02_Encode.l0.eq_2 _ _ _ _ _) (Ends.ite (fun h => absurd h (by omega)) fun _ => Ends.step (fun k => P.cleatref02_Encode.j1.eq_2 _ _ _ _ _ _) (Ends.ite (fun h => by cases h) fun _ => Ends.now _))
  | succ d ih =>
   intro i h0 h1
   have j1 : ∀ x : Bool, (x = true → i < z) → Ends (fun k => P.cleatref02_Encode.j1 k v z m i x) := fun x hx =>
    Ends.step (fun k => P.cleatref02_Encode.j1.eq_2 _ _ _ _ _ _) (Ends.ite (fun h => Ends.bind (rrow_ends m i z hm h0 hz).ends fun t _ => Ends.bind (rlow_ends v z hv).ends fun u _ => Ends.ite (fun _ => Ends.ite (fun _ => Ends.now _) fun _ => Ends.now _) fun _ => by
     have := hx h
     rw [wrap64_small (i + 1) (by omega) (by omega)]
     exact ih (i + 1) (by omega) (by omega)) fun _ => Ends.now _)
   exact Ends.step (fun k => P.cleatref02_Encode.l0.eq_2 _ _ _ _ _) (Ends.ite (fun h => Ends.ite (fun _ => j1 _ (fun _ => h)) fun _ => j1 _ (fun _ => h)) fun _ => j1 _ (fun h => by cases h))
 unfold P.cleatref02_Is.f P.cleatref02_Encode.f
 obtain ⟨z, hz, h6⟩ := rsize_ends v hv
 obtain ⟨t, ht, htu⟩ := rlow_ends v z hv
 obtain ⟨m, hm, hm2⟩ := rones_ends t htu
 obtain ⟨r, hr⟩ := l0 z m h6 hm2 64 0 (by decide) (by rcases h6 with h | h | h | h | h | h <;> omega)
 exact ⟨_, Ev.bind (Ev.bind hz (Ev.bind ht (Ev.bind hm hr))) (Ev.now _)⟩
end Go.Proofs.YtngmipfodjgmmaaGreatDoor.Pure
end
section
namespace Go.Proofs.YtngmipfodjgmmaaGreatDoor.Pure
open Go Go.RowKit Go.Lib Go.Shelf Wa Wb Wc
def rowN (s : Nat) : List Nat := (plc s).flatMap fun p => [p.1, p.2]
def rowP (s : Nat) : List Value := (rowN s).map fun (n : Nat) => Value.int .i64 (n : Int)
def PlR (W : World) (v : Value) (s : Nat) : Prop := (plc s = [] ∧ v = .slice none 0 0) ∨ ∃ b, v = .slice (some ⟨b, 0, none⟩) (plc s).length (plc s).length ∧ W.heap[b]? = some (.cells (rowP s).toArray 138 (0, 0))
def PlPost (s : Nat) (w : World) (e : Ending) (w' : World) : Prop := ∃ v, e = .returned v ∧ PlR w' v s ∧ Below w.heap.size w w'
theorem places_0 (w : World) : Calls Tryz.prog 106 #[.int .i64 0] w (PlPost 0 w) := by
 go_enter Tryz.func106, Tryz.ntmps106
 go_wp2
 go_ret
 exact ⟨_, rfl, .inl ⟨rfl, rfl⟩, Below.refl _ _⟩
theorem places_1 (w : World) : Calls Tryz.prog 106 #[.int .i64 1] w (PlPost 1 w) := by
 go_enter Tryz.func106, Tryz.ntmps106
 go_wp2
 go_ret
 exact ⟨_, rfl, .inr ⟨_, rfl, blk_new _ _⟩, (Below.refl _ _).alloc (Nat.le_refl _) _⟩
theorem places_2 (w : World) : Calls Tryz.prog 106 #[.int .i64 2] w (PlPost 2 w) := by
 go_enter Tryz.func106, Tryz.ntmps106
 go_wp2
 go_ret
 exact ⟨_, rfl, .inr ⟨_, rfl, blk_new _ _⟩, (Below.refl _ _).alloc (Nat.le_refl _) _⟩
theorem places_3 (w : World) : Calls Tryz.prog 106 #[.int .i64 3] w (PlPost 3 w) := by
 go_enter Tryz.func106, Tryz.ntmps106
 go_wp2
 go_ret
 exact ⟨_, rfl, .inr ⟨_, rfl, blk_new _ _⟩, (Below.refl _ _).alloc (Nat.le_refl _) _⟩
theorem places_4 (w : World) : Calls Tryz.prog 106 #[.int .i64 4] w (PlPost 4 w) := by
 go_enter Tryz.func106, Tryz.ntmps106
 go_wp2
 go_ret
 exact ⟨_, rfl, .inr ⟨_, rfl, blk_new _ _⟩, (Below.refl _ _).alloc (Nat.le_refl _) _⟩
theorem places_5 (w : World) : Calls Tryz.prog 106 #[.int .i64 5] w (PlPost 5 w) := by
 go_enter Tryz.func106, Tryz.ntmps106
 go_wp2
 go_ret
 exact ⟨_, rfl, .inr ⟨_, rfl, blk_new _ _⟩, (Below.refl _ _).alloc (Nat.le_refl _) _⟩
theorem places_6 (w : World) : Calls Tryz.prog 106 #[.int .i64 6] w (PlPost 6 w) := by
 go_enter Tryz.func106, Tryz.ntmps106
 go_wp2
 go_ret
 exact ⟨_, rfl, .inr ⟨_, rfl, blk_new _ _⟩, (Below.refl _ _).alloc (Nat.le_refl _) _⟩
theorem places_7 (w : World) : Calls Tryz.prog 106 #[.int .i64 7] w (PlPost 7 w) := by
 go_enter Tryz.func106, Tryz.ntmps106
 go_wp2
 go_ret
 exact ⟨_, rfl, .inr ⟨_, rfl, blk_new _ _⟩, (Below.refl _ _).alloc (Nat.le_refl _) _⟩
theorem places_8 (w : World) : Calls Tryz.prog 106 #[.int .i64 8] w (PlPost 8 w) := by
 go_enter Tryz.func106, Tryz.ntmps106
 go_wp2
 go_ret
 exact ⟨_, rfl, .inr ⟨_, rfl, blk_new _ _⟩, (Below.refl _ _).alloc (Nat.le_refl _) _⟩
theorem places_9 (w : World) : Calls Tryz.prog 106 #[.int .i64 9] w (PlPost 9 w) := by
 go_enter Tryz.func106, Tryz.ntmps106
 go_wp2
 go_ret
 exact ⟨_, rfl, .inr ⟨_, rfl, blk_new _ _⟩, (Below.refl _ _).alloc (Nat.le_refl _) _⟩
theorem places_10 (w : World) : Calls Tryz.prog 106 #[.int .i64 10] w (PlPost 10 w) := by
 go_enter Tryz.func106, Tryz.ntmps106
 go_wp2
 go_ret
 exact ⟨_, rfl, .inr ⟨_, rfl, blk_new _ _⟩, (Below.refl _ _).alloc (Nat.le_refl _) _⟩
theorem places_11 (w : World) : Calls Tryz.prog 106 #[.int .i64 11] w (PlPost 11 w) := by
 go_enter Tryz.func106, Tryz.ntmps106
 go_wp2
 go_ret
 exact ⟨_, rfl, .inr ⟨_, rfl, blk_new _ _⟩, (Below.refl _ _).alloc (Nat.le_refl _) _⟩
theorem places_12 (w : World) : Calls Tryz.prog 106 #[.int .i64 12] w (PlPost 12 w) := by
 go_enter Tryz.func106, Tryz.ntmps106
 go_wp2
 go_ret
 exact ⟨_, rfl, .inr ⟨_, rfl, blk_new _ _⟩, (Below.refl _ _).alloc (Nat.le_refl _) _⟩
theorem places_13 (w : World) : Calls Tryz.prog 106 #[.int .i64 13] w (PlPost 13 w) := by
 go_enter Tryz.func106, Tryz.ntmps106
 go_wp2
 go_ret
 exact ⟨_, rfl, .inr ⟨_, rfl, blk_new _ _⟩, (Below.refl _ _).alloc (Nat.le_refl _) _⟩
theorem places_14 (w : World) : Calls Tryz.prog 106 #[.int .i64 14] w (PlPost 14 w) := by
 go_enter Tryz.func106, Tryz.ntmps106
 go_wp2
 go_ret
 exact ⟨_, rfl, .inr ⟨_, rfl, blk_new _ _⟩, (Below.refl _ _).alloc (Nat.le_refl _) _⟩
theorem places_15 (w : World) : Calls Tryz.prog 106 #[.int .i64 15] w (PlPost 15 w) := by
 go_enter Tryz.func106, Tryz.ntmps106
 go_wp2
 go_ret
 exact ⟨_, rfl, .inl ⟨rfl, rfl⟩, Below.refl _ _⟩
theorem places_16 (w : World) : Calls Tryz.prog 106 #[.int .i64 16] w (PlPost 16 w) := by
 go_enter Tryz.func106, Tryz.ntmps106
 go_wp2
 go_ret
 exact ⟨_, rfl, .inr ⟨_, rfl, blk_new _ _⟩, (Below.refl _ _).alloc (Nat.le_refl _) _⟩
theorem rplaces_any : ∀ (s : Nat), s ≤ 16 → ∀ (w : World), Calls Tryz.prog 106 #[.int .i64 (s : Int)] w (PlPost s w)
 | 0, _, w => places_0 w
 | 1, _, w => places_1 w
 | 2, _, w => places_2 w
 | 3, _, w => places_3 w
 | 4, _, w => places_4 w
 | 5, _, w => places_5 w
 | 6, _, w => places_6 w
 | 7, _, w => places_7 w
 | 8, _, w => places_8 w
 | 9, _, w => places_9 w
 | 10, _, w => places_10 w
 | 11, _, w => places_11 w
 | 12, _, w => places_12 w
 | 13, _, w => places_13 w
 | 14, _, w => places_14 w
 | 15, _, w => places_15 w
 | 16, _, w => places_16 w
 | n + 17, h, _ => absurd h (by omega)
theorem PlR.below {W W' : World} {v : Value} {s : Nat} (h : PlR W v s) (hb : Below W.heap.size W W') : PlR W' v s := by
 rcases h with h | ⟨b, h1, h2⟩
 ·exact .inl h
 exact .inr ⟨b, h1, kBB h2 hb⟩
theorem rowP_at : ((List.range 17).all fun s => (List.range (plc s).length).all fun k => decide ((rowN s)[2 * k]? = some (pAt s k).1 ∧ (rowN s)[2 * k + 1]? = some (pAt s k).2)) = true := by kernel_rfl
theorem PlR.get {W : World} {v : Value} {s k : Nat} (h : PlR W v s) (hs : s ≤ 16) (hk : k < (plc s).length) : ∃ b, v = .slice (some ⟨b, 0, none⟩) (plc s).length (plc s).length ∧ W.cell? ⟨b, k * 2, none⟩ = some (.int .i64 ((pAt s k).1 : Int)) ∧ W.cell? ⟨b, k * 2 + 1, none⟩ = some (.int .i64 ((pAt s k).2 : Int)) := by
 rcases h with ⟨h, _⟩ | ⟨b, h1, h2⟩
 ·rw [h] at hk
  exact absurd hk (Nat.not_lt_zero _)
 refine ⟨b, h1, ?_, ?_⟩
 all_goals
  have h := List.all_eq_true.1 (List.all_eq_true.1 rowP_at s (List.mem_range.2 (by omega))) k (List.mem_range.2 hk)
  obtain ⟨q1, q2⟩ := of_decide_eq_true h
  rw [kCC h2]
  unfold rowP
  simp only [List.getElem?_toArray, Nat.mul_comm k 2, List.getElem?_map]
  first | (rw [q1]; rfl) | (rw [q2]; rfl)
theorem PlR.slice {W : World} {v : Value} {s : Nat} (h : PlR W v s) : ∃ A, v = .slice A (plc s).length (plc s).length := by
 rcases h with ⟨h, h1⟩ | ⟨b, h1, _⟩
 ·exact ⟨none, by rw [h, h1]; rfl⟩
 exact ⟨_, h1⟩
theorem rbase_all : ((List.range 39).all fun i => P.cleatref05_Base.f ((i + 1 : Nat) : Int) == some ((baseN (i + 1) : Int), 0) && P.cleatref04_Shape.f ((i + 1 : Nat) : Int) == some (shapeN (i + 1) : Int)) = true := by kernel_rfl
theorem rbase {i : Nat} (h1 : 1 ≤ i) (h2 : i ≤ 39) : P.cleatref05_Base.f (i : Int) = some ((baseN i : Int), 0) ∧ P.cleatref04_Shape.f (i : Int) = some (shapeN i : Int) := by
 have h := List.all_eq_true.1 rbase_all (i - 1) (List.mem_range.2 (by omega))
 rw [show i - 1 + 1 = i by omega, Bool.and_eq_true, beq_iff_eq, beq_iff_eq] at h
 exact h
theorem opcode_none (n : Nat) (hn : n < 4294967296) (h : ∀ j, 1 ≤ j → j < 40 → an n (maskN j) ≠ baseN j) : P.code_Opcode.f (n : Int) = some 0 := by
 rcases opcode n hn with h0 | ⟨op, h1, h2, ho, han⟩
 ·exact h0
 exact absurd han (h op h1 (by omega))
def OpPost (n : Nat) (w : World) (e : Ending) (w' : World) : Prop := ∃ op : Nat, e = .returned (.int .i64 (op : Int)) ∧ op ≤ 39 ∧ P.code_Opcode.f (n : Int) = some (op : Int) ∧ (1 ≤ op → an n (maskN op) = baseN op) ∧ Below w.heap.size w w'
theorem rpow_calls (n : Nat) (hn : n ≤ 63) (W : World) : Calls Tryz.prog 90 #[.int .i64 (n : Int)] W fun e w' => e = .returned (.int .u64 ((2 ^ n : Nat) : Int)) ∧ Drawn0 W w' := by
 obtain ⟨K, hK⟩ := rpow_ev n hn
 exact P.cleatref01_Power.calls K _ _ W (hK K (Nat.le_refl _))
theorem rfield_calls (w a n : Nat) (hw : w < 4294967296) (hn : 1 ≤ n) (ha : a + n ≤ 32) (W : World) : Calls Tryz.prog 108 #[.int .u32 (w : Int), .int .i64 (a : Int), .int .i64 (n : Int)] W fun e w' => e = .returned (.tuple #[.int .u32 ((fdN w (a, n) : Nat) : Int), .int .i64 0]) ∧ Drawn0 W w' := by
 obtain ⟨K, hK⟩ := rfield_ev w a n hw hn ha
 exact P.cleatref01_Field.calls K _ _ _ _ _ W (hK K (Nat.le_refl _))
theorem ropcode_any (n : Nat) (hn : n < 4294967296) (w : World) : Calls Tryz.prog 105 #[.int .u32 (n : Int)] w (OpPost n w) := by
 have HN0 := Azz.mk hn
 clear hn
 go_enter Tryz.func105, Tryz.ntmps105
 go_wp2
 go_loopw [3] (fun v wr => ∃ i : Nat, 1 ≤ i ∧ i ≤ 40 ∧ v = .int .i64 i ∧ Azz (∀ j, 1 ≤ j → j < i → an n (maskN j) ≠ baseN j) ∧ Azz (Below w.heap.size w wr)) (fun v _ => 40 - (RowKit.intOf v).toNat)
 case atStart => exact ⟨1, by omega, by omega, rfl, ⟨fun j a b => by omega⟩, ⟨Below.refl _ _⟩⟩
 case round =>
  obtain ⟨i, h1, h40, rfl, HN, HB⟩ := hrel
  by_cases hlt : i ≤ 39
  rotate_left
  ·obtain rfl : i = 40 := by omega
   go_wp2
   go_ret
   exact ⟨0, rfl, by omega, opcode_none n HN0.out HN.out, fun h => absurd h (by omega), HB.out⟩
  obtain ⟨hb1, hs1⟩ := rbase h1 hlt
  obtain ⟨_, _, t3, t4, _, _, _⟩ := tables i hlt
  have HBa := Azz.mk (fun W => P.cleatref05_Base.calls (i : Int) _ _ W hb1)
  have HSh := Azz.mk (fun W => P.cleatref04_Shape.calls (i : Int) _ W hs1)
  have HBn := Azz.mk t3
  obtain ⟨s, hs⟩ : ∃ s, shapeN i = s := ⟨_, rfl⟩
  obtain ⟨bn, hbn⟩ : ∃ bn, baseN i = bn := ⟨_, rfl⟩
  have HSe := Azz.mk hs
  have HBe := Azz.mk hbn
  rw [hs] at HSh t4
  rw [hbn] at HBa HBn
  have HS4 := Azz.mk t4
  clear hb1 hs1 t3 t4 hs hbn
  go_wp2_with fail
  (with_reducible refine (HBa.out _).mono ?_)
  rintro e w1 ⟨rfl, hb⟩
  have HB1 := Azz.mk (bTT HB.out hb)
  clear hb HB
  go_wp2_with fail
  (with_reducible refine (HSh.out _).mono ?_)
  rintro e w2 ⟨rfl, hb⟩
  have HB2 := Azz.mk (bTT HB1.out hb)
  clear hb HB1
  go_wp2_with fail
  (with_reducible refine (rplaces_any s HS4.out _).mono ?_)
  rintro e w3 ⟨pv, rfl, hp, hb⟩
  have HB3 := Azz.mk (bTT HB2.out hb)
  obtain ⟨A, rfl⟩ := hp.slice
  have HP := Azz.mk hp
  clear hb HB2 hp
  have hl5 := plc_len s
  obtain ⟨m, hm⟩ : ∃ m, (plc s).length = m := ⟨_, rfl⟩
  have HM := Azz.mk hm
  rw [hm] at HP hl5 ⊢
  clear hm
  go_wp2
  go_loopw [6, 8] (fun v6 v8 wr => ∃ k : Nat, k ≤ m ∧ v8 = .int .i64 k ∧ v6 = .int .u64 (an n (mkL ((plc s).take k)) : Nat) ∧ Drawn0 w3 wr) (fun _ v _ => m - (RowKit.intOf v).toNat)
  case atStart => exact ⟨0, Nat.zero_le _, rfl, by simp [mkL, an_zero]; exact u64_small n (by have := HN0.out; omega), Drawn0.refl _⟩
  case round =>
   obtain ⟨k, hk, rfl, rfl, nd, rfl⟩ := hrel
   by_cases hkl : k < m
   rotate_left
   ·obtain rfl : k = m := by omega
    have hL : an n (mkL ((plc s).take k)) = an n (maskN i) := by
     rw [← HM.out, an_all n s HS4.out, ← HSe.out]
     rfl
    rw [hL]
    have hu := u64_small bn (by have := HBn.out; omega)
    have HB4 := Azz.mk (bNN HB3.out nd)
    by_cases c : an n (maskN i) = bn
    ·have e0 : (((an n (maskN i) : Nat) : Int) == IntKind.u64.wrap (bn : Int)) = true := by rw [hu, c]; simp
     clear hu hL
     go_wp2
     go_ret
     exact ⟨i, rfl, hlt, opcode_of n i HN0.out h1 hlt (by rw [c, HBe.out]), fun _ => by rw [c, HBe.out], HB4.out⟩
    have e0 : (((an n (maskN i) : Nat) : Int) == IntKind.u64.wrap (bn : Int)) = false := by rw [hu]; exact bF_ (by omega)
    clear hu hL
    go_wp2
    go_roundw
    case rel =>
     refine ⟨i + 1, by omega, by omega, by go_num, ⟨fun j a b => ?_⟩, HB4⟩
     rcases Nat.eq_or_lt_of_le (Nat.le_of_lt_succ b) with rfl | b
     ·rw [HBe.out]; exact c
     exact HN.out j a b
    case measure => simp [RowKit.intOf]; omega
   obtain ⟨b, e, x0, x1⟩ := HP.out.get HS4.out (k := k) (by rw [HM.out]; exact hkl)
   obtain rfl : A = some ⟨b, 0, none⟩ := by injection e
   clear e
   obtain ⟨f1, f2, f3, f4⟩ := plc_facts (k := k) HS4.out (by rw [HM.out]; exact hkl)
   have hst := an_step n s k HS4.out (by rw [HM.out]; exact hkl)
   obtain ⟨⟨a, q⟩, hp⟩ : ∃ p, pAt s k = p := ⟨_, rfl⟩
   rw [hp] at x0 x1 f1 f2 f3 f4 hst
   have x0 : (w3.drewN nd).cell? ⟨b, k * 2, none⟩ = some (.int .i64 (a : Int)) := x0
   have x1 : (w3.drewN nd).cell? ⟨b, k * 2 + 1, none⟩ = some (.int .i64 (q : Int)) := x1
   have HF := Azz.mk (rfield_calls n a q HN0.out f2 f4)
   have HPw := Azz.mk (rpow_calls a (by have : a + q ≤ 32 := f4; have : 1 ≤ q := f2; omega))
   have HSt := Azz.mk (And.intro hst (And.intro f2 f4))
   have k0 : (0 : Int) ≤ (k : Int) := by omega
   have k1 : (k : Int) < m := by omega
   clear hst hp f1 f2 f3 f4
   go_wp2
   go_region_held3 (fun w' => w'.cell? ⟨b, k * 2, none⟩ = some (.int .i64 (a : Int)) ∧ w'.cell? ⟨b, k * 2 + 1, none⟩ = some (.int .i64 (q : Int))) (go_keep) (first | (go_at_call 108; (with_reducible refine (HF.out _).mono ?_); rintro e w' ⟨rfl, ⟨nd, rfl⟩⟩))
   go_wp2_with (first | (go_at_call 90; (with_reducible refine (HPw.out _).mono ?_); rintro e w' ⟨rfl, ⟨nd, rfl⟩⟩))
   go_roundw
   case rel =>
    obtain ⟨hst, f2, f4⟩ := HSt.out
    refine ⟨k + 1, by omega, by go_num, congrArg _ ?_, d0S⟩
    have hn := HN0.out
    have hle := an_le n (mkL ((plc s).take k))
    obtain ⟨F, hF⟩ : ∃ F, fdN n (a, q) = F := ⟨_, rfl⟩
    have hX : F * 2 ^ a = an n (mkL ((plc s).take k)) - an n (mkL ((plc s).take (k + 1))) := by
     rw [← hF]
     have h2 : an n (mkL ((plc s).take (k + 1))) + fdN n (a, q) * 2 ^ a = an n (mkL ((plc s).take k)) := hst
     omega
    have h2 : an n (mkL ((plc s).take (k + 1))) ≤ an n (mkL ((plc s).take k)) := Nat.le.intro hst
    have hFl : F < 4294967296 := by
     have := fd_lt n (a, q)
     rw [hF] at this
     have f4 : a + q ≤ 32 := f4
     exact Nat.lt_of_lt_of_le this (Nat.pow_le_pow_right (n := 2) (by decide) (show q ≤ 32 by omega))
    rw [hF, u64_small F (by omega)]
    have e1 : (F : Int) * 2 ^ a = ((F * 2 ^ a : Nat) : Int) := by push_cast; rfl
    rw [e1, hX]
    obtain ⟨x, hx⟩ : ∃ x, an n (mkL ((plc s).take k)) = x := ⟨_, rfl⟩
    obtain ⟨y, hy⟩ : ∃ y, an n (mkL ((plc s).take (k + 1))) = y := ⟨_, rfl⟩
    rw [hx] at hle h2 ⊢
    rw [hy] at h2 ⊢
    rw [u64_small (x - y) (by omega), show (x : Int) - ((x - y : Nat) : Int) = (y : Int) by omega, u64_small y (by omega)]
   case measure => simp [RowKit.intOf]; omega
end Go.Proofs.YtngmipfodjgmmaaGreatDoor.Pure
end
