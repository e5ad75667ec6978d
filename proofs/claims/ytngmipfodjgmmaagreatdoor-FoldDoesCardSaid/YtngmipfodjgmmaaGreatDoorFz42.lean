/- Walks and plain laws of this claim, a part. -/
import Derived.Test.YtngmipfodjgmmaaGreatDoorFz39
set_option linter.unusedVariables false
set_option linter.unusedSimpArgs false
section
namespace Go.Proofs.YtngmipfodjgmmaaGreatDoor.Pure
open Go Go.RowKit Wa Wb Wc
def Ends {α : Type} (g : Nat → Option α) : Prop := ∃ r, Ev g r
theorem Ends.now {α : Type} (r : α) : Ends (fun _ => some r) := ⟨r, Ev.now r⟩
theorem Ends.const {α : Type} {c : Option α} (h : ∃ r, c = some r) : Ends (fun _ => c) := by
 obtain ⟨r, rfl⟩ := h
 exact ⟨r, Ev.now r⟩
theorem Ends.ite {α : Type} {c : Prop} [Decidable c] {g f : Nat → Option α} (h : c → Ends g) (k : ¬c → Ends f) : Ends (fun n => if c then g n else f n) := by
 by_cases hc : c
 ·simp only [if_pos hc]; exact h hc
 simp only [if_neg hc]; exact k hc
theorem Ends.bind {α β : Type} {g : Nat → Option α} {f : Nat → α → Option β} (h : Ends g) (k : ∀ a, Ev g a → Ends (fun n => f n a)) : Ends (fun n => (g n).bind (f n)) := by
 obtain ⟨a, ha⟩ := h
 obtain ⟨r, hr⟩ := k a ha
 exact ⟨r, ha.bind hr⟩
theorem Ends.step {α : Type} {g f : Nat → Option α} (h : ∀ k, g (k + 1) = f k) (k : Ends f) : Ends g := by
 obtain ⟨r, hr⟩ := k
 exact ⟨r, Ev.step h hr⟩
theorem Ev.one {α : Type} {g : Nat → Option α} {a b : α} (h : Ev g a) (k : Ev g b) : a = b := by
 obtain ⟨K, h⟩ := h
 obtain ⟨K', k⟩ := k
 have h1 := h (max K K') (by omega)
 rw [k _ (by omega)] at h1
 exact (Option.some.inj h1).symm
theorem within_some (a l h b : Int) (hb : b ≠ 0) : ∃ r, P.inst_within.f a l h b = some r := by
 unfold P.inst_within.f
 repeat' split
 all_goals first | exact ⟨_, rfl⟩ | contradiction
theorem register_some (a : Int) (b : Bool) : ∃ r, P.inst_register.f a b = some r := by
 unfold P.inst_register.f
 repeat' split
 all_goals exact ⟨_, rfl⟩
theorem amount_some (s a b : Int) : ∃ r, P.inst_amount.f s a b = some r := by
 unfold P.inst_amount.f
 repeat' split
 ·obtain ⟨r, h⟩ := within_some b 0 48 16 (by decide); rw [h]; exact ⟨_, rfl⟩
 ·exact ⟨_, rfl⟩
 ·obtain ⟨r, h⟩ := within_some b 0 12 12 (by decide); rw [h]; exact ⟨_, rfl⟩
 ·exact ⟨_, rfl⟩
 ·obtain ⟨r, h⟩ := within_some a 0 2 1 (by decide); rw [h]
  obtain ⟨q, h'⟩ := within_some b 0 63 1 (by decide); rw [h']
  cases r <;> exact ⟨_, rfl⟩
 ·obtain ⟨r, h⟩ := within_some a 0 3 1 (by decide); rw [h]
  obtain ⟨q, h'⟩ := within_some b 0 63 1 (by decide); rw [h']
  cases r <;> exact ⟨_, rfl⟩
 ·exact ⟨_, rfl⟩
 exact ⟨_, rfl⟩
theorem cond_some (s a : Int) : ∃ r, P.inst_cond.f s a = some r := by
 unfold P.inst_cond.f
 obtain ⟨r, h⟩ := within_some a 0 13 1 (by decide)
 rw [h]
 repeat' split
 all_goals exact ⟨_, rfl⟩
theorem low_some (v n : Int) : ∃ r, P.bits_Low.f v n = some r := by
 unfold P.bits_Low.f
 repeat' split
 all_goals first | exact ⟨_, rfl⟩ | omega
theorem has_ends (s : Int) : Ends (fun k => P.inst_has.f k s) := by
 have h2 : ∀ (x : Int) (b : Bool), Ends (fun k => P.inst_has.j2 k x b) := fun x b =>
  Ends.step (fun k => P.inst_has.j2.eq_2 _ _ _) (Ends.ite (fun _ => Ends.now _) fun _ => Ends.ite (fun _ => Ends.now _) fun _ => Ends.ite (fun _ => Ends.now _) fun _ => Ends.now _)
 have h1 : ∀ (x : Int) (b : Bool), Ends (fun k => P.inst_has.j1 k x b) := fun x b =>
  Ends.step (fun k => P.inst_has.j1.eq_2 _ _ _) (Ends.ite (fun _ => Ends.now _) fun _ => Ends.ite (fun _ => h2 _ _) fun _ => Ends.ite (fun _ => h2 _ _) fun _ => h2 _ _)
 have h0 : ∀ (x : Int) (b : Bool), Ends (fun k => P.inst_has.j0 k x b) := fun x b =>
  Ends.step (fun k => P.inst_has.j0.eq_2 _ _ _) (Ends.ite (fun _ => Ends.now _) fun _ => Ends.ite (fun _ => h1 _ _) fun _ => Ends.ite (fun _ => h1 _ _) fun _ => Ends.ite (fun _ => h1 _ _) fun _ => h1 _ _)
 exact Ends.ite (fun _ => h0 _ _) fun _ => Ends.ite (fun _ => h0 _ _) fun _ => h0 _ _
theorem number_ends (s v : Int) : Ends (fun k => P.inst_number.f k s v) := by
 have hw : ∀ l h b : Int, b ≠ 0 → Ends (fun _ : Nat => (P.inst_within.f v l h b).bind fun t => some t) := fun l h b hb =>
  Ends.bind (Ends.const (within_some v l h b hb)) fun _ _ => Ends.now _
 have h2 : ∀ (x : Int) (b : Bool), Ends (fun k => P.inst_number.j2 k v x b) := fun x b =>
  Ends.step (fun k => P.inst_number.j2.eq_2 _ _ _ _) (Ends.ite (fun _ => hw _ _ _ (by decide)) fun _ => Ends.ite (fun _ => hw _ _ _ (by decide)) fun _ => Ends.ite (fun _ => hw _ _ _ (by decide)) fun _ => Ends.now _)
 have h1 : ∀ (x : Int) (b : Bool), Ends (fun k => P.inst_number.j1 k v x b) := fun x b =>
  Ends.step (fun k => P.inst_number.j1.eq_2 _ _ _ _) (Ends.ite (fun _ => hw _ _ _ (by decide)) fun _ => Ends.ite (fun _ => hw _ _ _ (by decide)) fun _ => Ends.ite (fun _ => h2 _ _) fun _ => h2 _ _)
 have h0 : ∀ (x : Int) (b : Bool), Ends (fun k => P.inst_number.j0 k v x b) := fun x b =>
  Ends.step (fun k => P.inst_number.j0.eq_2 _ _ _ _) (Ends.ite (fun _ => hw _ _ _ (by decide)) fun _ => Ends.ite (fun _ => h1 _ _) fun _ => h1 _ _)
 exact Ends.ite (fun _ => h0 _ _) fun _ => h0 _ _
def Six (n : Int) : Prop := n = 2 ∨ n = 4 ∨ n = 8 ∨ n = 16 ∨ n = 32 ∨ n = 64
theorem rotate_ends (v r n : Int) (hn : Six n) : Ends (fun k => P.bits_Rotate.f k v r n) := by
 have hb : 2 ≤ n ∧ n ≤ 64 := by unfold Six at hn; omega
 have h1 : ∀ b : Bool, (b = false → 0 ≤ r ∧ r < n) → Ends (fun k => P.bits_Rotate.j1 k v r n b) := fun b hb2 =>
  Ends.step (fun k => P.bits_Rotate.j1.eq_2 _ _ _ _ _) (Ends.ite (fun _ => Ends.now _) fun h => Ends.bind (Ends.const (low_some _ _)) fun _ _ => Ends.ite (fun _ => by
   obtain ⟨p, q⟩ := hb2 (by simpa using h)
   refine Ends.ite (fun _ => Ends.ite (fun _ => Ends.bind (Ends.const (low_some _ _)) fun _ _ => Ends.now _) fun h3 => ?_) fun h3 => absurd p h3
   rw [wrap64_small _ (by omega) (by omega)] at h3
   exact absurd (show 0 ≤ n - r by omega) h3) fun _ => Ends.now _)
 have h0 : Ends (fun k => P.bits_Rotate.j0 k v r n) :=
  Ends.step (fun k => P.bits_Rotate.j0.eq_2 _ _ _ _) (Ends.ite (fun _ => h1 _ (fun h => by cases h)) fun h => h1 _ (fun h' => by have := of_decide_eq_false h'; omega))
 exact Ends.ite (fun _ => h0) fun _ => Ends.ite (fun _ => h0) fun _ => Ends.ite (fun _ => h0) fun _ => Ends.ite (fun _ => h0) fun _ => Ends.ite (fun _ => h0) fun _ => Ends.ite (fun _ => h0) fun _ => Ends.now _
theorem mask_part_ends (n r s : Int) (hn : Six n) : Ends (fun k => P.mask_part.f k n r s) :=
 Ends.bind (Ends.const (low_some _ _)) fun _ _ => Ends.bind (rotate_ends _ r n hn) fun _ _ => Ends.now _
theorem rotate3_some (v r : Int) : ∃ t, P.bits_Rotate.f 3 v r 64 = some t := by
 unfold P.bits_Rotate.f
 simp only [P.bits_Rotate.j0, P.bits_Rotate.j1, (by decide : ¬ ((64 : Int) = 2)), (by decide : ¬ ((64 : Int) = 4)), (by decide : ¬ ((64 : Int) = 8)), (by decide : ¬ ((64 : Int) = 16)), (by decide : ¬ ((64 : Int) = 32)), if_false, if_true]
 obtain ⟨t, ht⟩ := low_some v 64
 rw [ht]
 split
 ·exact ⟨_, rfl⟩
 rename_i h
 by_cases h64 : r ≥ 64
 ·rw [dT_ h64]; exact ⟨_, rfl⟩
 rw [dF_ h64, if_neg (by simp), Option.bind_some]
 split
 ·rw [if_pos (by omega), if_pos (by rw [wrap64_small _ (by omega) (by omega)]; omega)]
  obtain ⟨q, hq⟩ := low_some (Go.bits .or .u64 (shr .u64 v r) (shl .u64 v (wrap64 (64 - r)))) 64
  rw [hq]
  exact ⟨_, rfl⟩
 exact ⟨_, rfl⟩
theorem size_some (v : Int) : ∃ n, P.mask_Size.f v = some n ∧ Six n := by
 have go : ∀ (j k : Nat) (x : Int), j + 1 ≤ k → x * 2 ^ j = 64 → Six x → ∃ n, P.mask_Size.l0 k v x = some n ∧ Six n := by
  intro j
  induction j with
  | zero =>
   intro k x hk hx hs
   obtain ⟨k, rfl⟩ : ∃ m, k = m + 1 := ⟨k - 1, by omega⟩
   have : x = 64 := by simpa using hx
   subst this
   exact ⟨64, by rw [P.mask_Size.l0, if_neg (by decide)], hs⟩
  | succ j ih =>
   intro k x hk hx hs
   obtain ⟨k, rfl⟩ : ∃ m, k = m + 1 := ⟨k - 1, by omega⟩
   rw [P.mask_Size.l0]
   obtain ⟨t, ht⟩ := rotate3_some v x
   split
   ·rename_i h64
    rw [ht, Option.bind_some]
    split
    ·exact ⟨x, rfl, hs⟩
    refine ih k (x * 2) (by omega) ?_ ?_
    ·rw [Int.mul_assoc, ← Int.pow_succ']; exact hx
    unfold Six at hs ⊢; omega
   exact ⟨x, rfl, hs⟩
 exact go 5 7 2 (by decide) (by decide) (.inl rfl)
theorem u64_nat (a : Nat) (h : a < 18446744073709551616) : (BitVec.ofInt 64 (a : Int)).toNat = a := by
 simp
 omega
theorem bits_and64 (a b : Nat) (ha : a < 18446744073709551616) (hb : b < 18446744073709551616) : Go.bits .and .u64 (a : Int) (b : Int) = ((a &&& b : Nat) : Int) := by
 show IntKind.u64.wrap ((BitVec.ofInt 64 (a : Int) &&& BitVec.ofInt 64 (b : Int)).toNat : Int) = _
 rw [BitVec.toNat_and, u64_nat a ha, u64_nat b hb]
 show (((a &&& b : Nat) : Int)) % 18446744073709551616 = _
 have := Nat.and_le_right (n := a) (m := b)
 omega
theorem ones_ends : ∀ (n x : Nat) (c : Int), x ≤ n → x < 18446744073709551616 → Ends (fun k => P.mask_Ones.l0 k (x : Int) c)
 | 0, x, c, hx, h => Ends.step (fun k => P.mask_Ones.l0.eq_2 _ _ _) (Ends.ite (fun _ => Ends.now _) fun h0 => absurd (by omega) h0)
 | n + 1, x, c, hx, h => Ends.step (fun k => P.mask_Ones.l0.eq_2 _ _ _) (Ends.ite (fun _ => Ends.now _) fun h0 => by
  have e : IntKind.u64.wrap ((x : Int) - 1) = ((x - 1 : Nat) : Int) := by
   show ((x : Int) - 1) % 18446744073709551616 = _
   omega
  have le := Nat.and_le_right (n := x) (m := x - 1)
  rw [e, bits_and64 x (x - 1) h (by omega)]
  exact ones_ends n _ _ (by omega) (by omega))
theorem low_range (v : Nat) (n : Int) (h : v < 18446744073709551616) : ∃ m : Nat, P.bits_Low.f (v : Int) n = some (m : Int) ∧ m < 18446744073709551616 := by
 unfold P.bits_Low.f
 split
 ·exact ⟨0, rfl, by decide⟩
 split
 ·exact ⟨v, rfl, h⟩
 rw [if_pos (by omega)]
 obtain ⟨b, hb⟩ : ∃ b : Nat, IntKind.u64.wrap ((shl .u64 1 n) - 1) = (b : Int) := ⟨(IntKind.u64.wrap ((shl .u64 1 n) - 1)).toNat, by
  have : 0 ≤ IntKind.u64.wrap ((shl .u64 1 n) - 1) := Int.emod_nonneg _ (by decide)
  omega⟩
 have hb2 : b < 18446744073709551616 := by
  have : IntKind.u64.wrap ((shl .u64 1 n) - 1) < 18446744073709551616 := Int.emod_lt_of_pos _ (by decide)
  omega
 rw [hb, bits_and64 v b h hb2]
 have le := Nat.and_le_left (n := v) (m := b)
 exact ⟨_, rfl, by omega⟩
theorem find_l0_ends (n v s : Int) (hn : Six n) : ∀ (j : Nat) (x : Int), 0 ≤ x → x + j = n → Ends (fun k => P.mask_find.l0 k n v s n x)
 | 0, x, h0, hx => Ends.step (fun k => P.mask_find.l0.eq_2 _ _ _ _ _ _) (Ends.ite (fun h => absurd h (by omega)) fun _ => Ends.now _)
 | j + 1, x, h0, hx => Ends.step (fun k => P.mask_find.l0.eq_2 _ _ _ _ _ _) (Ends.ite (fun h => Ends.bind (mask_part_ends n x s hn) fun _ _ => Ends.ite (fun _ => Ends.now _) fun _ => by
  have hb : n ≤ 64 := by unfold Six at hn; omega
  rw [wrap64_small (x + 1) (by omega) (by omega)]
  exact find_l0_ends n v s hn j (x + 1) (by omega) (by omega)) fun _ => Ends.now _)
theorem find_ends (v : Nat) (h : v < 18446744073709551616) : Ends (fun k => P.mask_find.f k (v : Int)) := by
 obtain ⟨n, hn, hs⟩ := size_some (v : Int)
 obtain ⟨m, hm, hm2⟩ := low_range v n h
 have hb : 2 ≤ n ∧ n ≤ 64 := by unfold Six at hs; omega
 have h0 : ∀ (s : Int) (b : Bool), Ends (fun k => P.mask_find.j0 k n (m : Int) s b) := fun s b =>
  Ends.step (fun k => P.mask_find.j0.eq_2 _ _ _ _ _) (Ends.ite (fun _ => Ends.now _) fun _ => find_l0_ends n m s hs n.toNat 0 (by omega) (by omega))
 unfold P.mask_find.f
 rw [hn]
 simp only [Option.bind_some]
 rw [hm]
 simp only [Option.bind_some]
 exact Ends.bind (ones_ends m m 0 (Nat.le_refl _) hm2) fun _ _ => Ends.ite (fun _ => h0 _ _) fun _ => h0 _ _
theorem mask_Is_ends (v : Nat) (h : v < 18446744073709551616) : Ends (fun k => P.mask_Is.f k (v : Int)) :=
 Ends.bind (find_ends v h) fun _ _ => Ends.now _
def EndsP {α : Type} (g : Nat → Option α) (p : α → Prop) : Prop := ∃ r, Ev g r ∧ p r
theorem EndsP.now {α : Type} {p : α → Prop} (r : α) (h : p r) : EndsP (fun _ => some r) p := ⟨r, Ev.now r, h⟩
theorem EndsP.ite {α : Type} {c : Prop} [Decidable c] {g f : Nat → Option α} {p : α → Prop} (h : c → EndsP g p) (k : ¬c → EndsP f p) : EndsP (fun n => if c then g n else f n) p := by
 by_cases hc : c
 ·simp only [if_pos hc]; exact h hc
 simp only [if_neg hc]; exact k hc
theorem EndsP.bind {α β : Type} {g : Nat → Option α} {f : Nat → α → Option β} {q : α → Prop} {p : β → Prop} (h : EndsP g q) (k : ∀ a, Ev g a → q a → EndsP (fun n => f n a) p) : EndsP (fun n => (g n).bind (f n)) p := by
 obtain ⟨a, ha, qa⟩ := h
 obtain ⟨r, hr, hp⟩ := k a ha qa
 exact ⟨r, ha.bind hr, hp⟩
theorem EndsP.step {α : Type} {g f : Nat → Option α} {p : α → Prop} (h : ∀ k, g (k + 1) = f k) (k : EndsP f p) : EndsP g p := by
 obtain ⟨r, hr, hp⟩ := k
 exact ⟨r, Ev.step h hr, hp⟩
theorem Ends.plain {α : Type} {g : Nat → Option α} (h : Ends g) : EndsP g (fun _ => True) := by
 obtain ⟨r, hr⟩ := h
 exact ⟨r, hr, trivial⟩
theorem EndsP.ends {α : Type} {g : Nat → Option α} {p : α → Prop} (h : EndsP g p) : Ends g := by
 obtain ⟨r, hr, _⟩ := h
 exact ⟨r, hr⟩
def U64 (z : Int) : Prop := ∃ m : Nat, z = (m : Int) ∧ m < 18446744073709551616
theorem u64_bits (op : BinOp) (x y : Int) : U64 (Go.bits op .u64 x y) := by
 obtain ⟨z, hz⟩ : ∃ z : Int, Go.bits op .u64 x y = IntKind.u64.wrap z := ⟨_, rfl⟩
 rw [hz]
 refine ⟨(z % 18446744073709551616).toNat, ?_, ?_⟩
 ·show z % 18446744073709551616 = _
  omega
 omega
theorem read_some (n r s : Int) (hr : 0 ≤ r) (hs : 0 ≤ s) (hs2 : s ≤ 63) : ∃ t, P.mask_read.f n r s = some t ∧ (t = (0, 0, 0) ∨ Six t.1 ∧ 0 ≤ t.2.1 ∧ t.2.1 < t.1) := by
 have go : ∀ (j k : Nat) (x : Int), j + 1 ≤ k → x * 2 ^ j = 128 → (x ≤ 64 → Six x) → ∃ t, P.mask_read.l0 k n r s x = some t ∧ (t = (0, 0, 0) ∨ Six t.1 ∧ 0 ≤ t.2.1 ∧ t.2.1 < t.1) := by
  intro j
  induction j with
  | zero =>
   intro k x hk hx hs
   obtain ⟨k, rfl⟩ : ∃ m, k = m + 1 := ⟨k - 1, by omega⟩
   have : x = 128 := by simpa using hx
   subst this
   exact ⟨(0, 0, 0), by rw [P.mask_read.l0, if_neg (by decide)], .inl rfl⟩
  | succ j ih =>
   intro k x hk hx hs
   obtain ⟨k, rfl⟩ : ∃ m, k = m + 1 := ⟨k - 1, by omega⟩
   have nx := fun h64 : x ≤ 64 => ih k (x * 2) (by omega) (by rw [Int.mul_assoc, ← Int.pow_succ']; exact hx) (fun h => by have := hs h64; unfold Six at this ⊢; omega)
   rw [P.mask_read.l0]
   split
   ·rename_i h64
    repeat' split
    all_goals first
     | exact nx h64
     | exact ⟨_, rfl, .inr ⟨hs h64, hr, by assumption⟩⟩
   exact ⟨_, rfl, .inl rfl⟩
 unfold P.mask_read.f
 rw [if_pos ⟨hs, hs2⟩]
 exact go 6 7 2 (by decide) (by decide) (fun _ => .inl rfl)
theorem spread_ends (v n a b : Int) (hn : Six n) : ∀ (j : Nat) (x c : Int), 0 ≤ x → x ≤ 64 + n → 64 ≤ x + j → U64 c → EndsP (fun k => P.mask_Decode.l0 k v c x n a b) (fun t => U64 t.1)
 | 0, x, c, h0, hb, hx, hc => EndsP.step (fun k => P.mask_Decode.l0.eq_2 _ _ _ _ _ _ _) (EndsP.ite (fun h => absurd h (by omega)) fun _ => EndsP.now _ hc)
 | j + 1, x, c, h0, hb, hx, hc => EndsP.step (fun k => P.mask_Decode.l0.eq_2 _ _ _ _ _ _ _) (EndsP.ite (fun h => EndsP.ite (fun _ => by
  have hb2 : 2 ≤ n ∧ n ≤ 64 := by unfold Six at hn; omega
  rw [wrap64_small (x + n) (by omega) (by omega)]
  exact spread_ends v n a b hn j (x + n) _ (by omega) (by omega) (by omega) (u64_bits _ _ _)) fun h' => absurd h0 h') fun _ => EndsP.now _ hc)
theorem u64_zero : U64 0 := ⟨0, rfl, by decide⟩
theorem mask_Decode_ends (n r s : Int) (hr : 0 ≤ r) (hs : 0 ≤ s) : EndsP (fun k => P.mask_Decode.f k n r s) (fun t => U64 t.1) := by
 have h0 : ∀ b : Bool, (b = false → s ≤ 63) → EndsP (fun k => P.mask_Decode.j0 k n r s b) (fun t => U64 t.1) := fun b hb =>
  EndsP.step (fun k => P.mask_Decode.j0.eq_2 _ _ _ _ _) (EndsP.ite (fun _ => EndsP.now _ u64_zero) fun h => by
   obtain ⟨t, ht, hp⟩ := read_some n r s hr hs (hb (by simpa using h))
   rw [ht]
   simp only [Option.bind_some]
   refine EndsP.ite (fun _ => EndsP.now _ u64_zero) fun hz => ?_
   rcases hp with rfl | ⟨hx, h1, h2⟩
   ·exact absurd (by decide) hz
   have hb2 : 2 ≤ t.1 ∧ t.1 ≤ 64 := by unfold Six at hx; omega
   exact EndsP.bind (mask_part_ends t.1 t.2.1 t.2.2 hx).plain fun v _ _ => spread_ends v t.1 t.2.1 t.2.2 hx 64 0 0 (by omega) (by omega) (by omega) u64_zero)
 exact EndsP.ite (fun _ => h0 _ (fun h => by cases h)) fun _ => EndsP.ite (fun _ => h0 _ (fun h => by cases h)) fun _ => EndsP.ite (fun _ => h0 _ (fun h => by cases h)) fun _ =>
  EndsP.ite (fun _ => h0 _ (fun h => by cases h)) fun _ => EndsP.ite (fun _ => h0 _ (fun h => by cases h)) fun _ => h0 _ (fun h => by have := of_decide_eq_false h; omega)
theorem part_ok (w a n : Nat) (hw : w < 4294967296) (hn : 1 ≤ n) (hn2 : n < 32) (ha : a + n ≤ 32) : P.code_part.f (w : Int) (a : Int) (n : Int) = some (P.fld (w : Int) (a : Int) (n : Int)) := by
 rw [fld_ok w a n hw hn hn2 ha]
 unfold P.code_part.f
 rw [field_ok w a n hw hn hn2 ha]
 have h1 : w / 2 ^ a % 2 ^ n < 2 ^ n := Nat.mod_lt _ (Nat.two_pow_pos n)
 have h2 := pow_lt32 hn2
 rw [Option.bind_some]
 exact congrArg some (wrap64_small _ (by omega) (by omega))
theorem fld_nonneg (w a n : Nat) (hw : w < 4294967296) (hn : 1 ≤ n) (hn2 : n < 32) (ha : a + n ≤ 32) : 0 ≤ P.fld (w : Int) (a : Int) (n : Int) := by
 rw [fld_ok w a n hw hn hn2 ha]
 omega
theorem shape_some (op : Nat) (h1 : 1 ≤ op) (h2 : op ≤ 39) : P.inst_Shape.f (op : Int) = some (shapeN op : Int) := by
 unfold P.inst_Shape.f
 rw [if_neg (by omega), if_neg (by omega), (tables op h2).1]
theorem signed_some (v n : Int) (hn : 1 ≤ n) (hn2 : n ≤ 32) : ∃ t, P.bits_Signed.f 1 v n = some t := by
 unfold P.bits_Signed.f
 rw [if_neg (by omega), dF_ (by omega), P.bits_Signed.j0, if_neg (by simp), if_pos (by omega)]
 split
 ·rw [if_pos (by rw [wrap64_small _ (by omega) (by omega)]; omega)]
  split <;> exact ⟨_, rfl⟩
 exact ⟨_, rfl⟩
theorem is_ends (o d n m a v mk sh am c : Int) (hm : U64 mk) (ho : ∃ s, P.inst_Shape.f o = some s) : Ends (fun k => P.inst_Is.f k o d n m a v mk sh am c) := by
 obtain ⟨mn, rfl, hmn⟩ := hm
 have tail : ∀ s : Int, Ends (fun k => (P.inst_number.f k s v).bind fun t => if t = true then (P.inst_amount.f s sh am).bind fun t => if t = true then (P.inst_cond.f s c).bind fun t => some t else some false else some false) := fun s =>
  Ends.bind (number_ends s v) fun _ _ => Ends.ite (fun _ => Ends.bind (Ends.const (amount_some s sh am)) fun _ _ => Ends.ite (fun _ => Ends.bind (Ends.const (cond_some s c)) fun _ _ => Ends.now _) fun _ => Ends.now _) fun _ => Ends.now _
 have h0 : ∀ (s : Int) (b : Bool), Ends (fun k => P.inst_Is.j0 k s b o d n m a v (mn : Int) sh am c) := fun s b =>
  Ends.step (fun k => P.inst_Is.j0.eq_2 _ _ _ _ _ _ _ _ _ _ _ _ _) (Ends.ite (fun _ => Ends.now _) fun _ => Ends.ite (fun _ => Ends.bind (mask_Is_ends mn hmn) fun _ _ => Ends.ite (fun _ => tail s) fun _ => Ends.now _) fun _ =>
   Ends.ite (fun _ => tail s) fun _ => Ends.now _)
 exact Ends.bind (Ends.const ho) fun s _ => Ends.ite (fun _ => Ends.now _) fun _ => Ends.bind (has_ends s) fun r _ => Ends.bind (Ends.const (register_some _ _)) fun _ _ => Ends.ite (fun _ =>
  Ends.bind (Ends.const (register_some _ _)) fun _ _ => Ends.ite (fun _ => Ends.bind (Ends.const (register_some _ _)) fun _ _ => Ends.ite (fun _ => Ends.bind (Ends.const (register_some _ _)) fun _ _ => h0 _ _) fun _ => h0 _ _) fun _ => h0 _ _) fun _ => h0 _ _
theorem read_ends (w : Nat) (hw : w < 4294967296) (o s : Int) (h1 : 1 ≤ s) (h2 : s ≤ 16) (h3 : s = 3 → Ends (fun k => P.code_masked.f k (w : Int)) ∧ ∀ m, Ev (fun k => P.code_masked.f k (w : Int)) m → U64 m) :
 EndsP (fun k => P.code_read.of k (w : Int) o s) (fun i => i.1 = o ∧ U64 i.2.2.2.2.2.2.1) :=
 EndsP.ite (fun _ => EndsP.now _ ⟨rfl, u64_zero⟩) fun _ => EndsP.ite (fun _ => EndsP.now _ ⟨rfl, u64_zero⟩) fun _ =>
 EndsP.ite (fun h => EndsP.bind (h3 h).1.plain fun m hm _ => EndsP.now _ ⟨rfl, (h3 h).2 m hm⟩) fun _ =>
 EndsP.ite (fun _ => EndsP.now _ ⟨rfl, u64_zero⟩) fun _ => EndsP.ite (fun _ => EndsP.now _ ⟨rfl, u64_zero⟩) fun _ => EndsP.ite (fun _ => EndsP.now _ ⟨rfl, u64_zero⟩) fun _ =>
 EndsP.ite (fun _ => EndsP.now _ ⟨rfl, u64_zero⟩) fun _ => EndsP.ite (fun _ => EndsP.now _ ⟨rfl, u64_zero⟩) fun _ => EndsP.ite (fun _ => EndsP.now _ ⟨rfl, u64_zero⟩) fun _ =>
 EndsP.ite (fun _ => EndsP.bind (Ends.const (signed_some _ 21 (by decide) (by decide))).plain fun _ _ _ => EndsP.now _ ⟨rfl, u64_zero⟩) fun _ =>
 EndsP.ite (fun _ => EndsP.now _ ⟨rfl, u64_zero⟩) fun _ => EndsP.ite (fun _ => EndsP.now _ ⟨rfl, u64_zero⟩) fun _ => EndsP.ite (fun _ => EndsP.now _ ⟨rfl, u64_zero⟩) fun _ =>
 EndsP.ite (fun _ => EndsP.now _ ⟨rfl, u64_zero⟩) fun _ => EndsP.ite (fun _ => EndsP.now _ ⟨rfl, u64_zero⟩) fun _ => EndsP.ite (fun _ => EndsP.now _ ⟨rfl, u64_zero⟩) fun _ => by omega
theorem part_22 (w : Nat) (hw : w < 4294967296) : P.code_part.f (w : Int) 22 1 = some (P.fld (w : Int) 22 1) ∧ P.code_part.f (w : Int) 16 6 = some (P.fld (w : Int) 16 6) ∧ P.code_part.f (w : Int) 10 6 = some (P.fld (w : Int) 10 6) ∧ 0 ≤ P.fld (w : Int) 16 6 ∧ 0 ≤ P.fld (w : Int) 10 6 :=
 ⟨part_ok w 22 1 hw (by decide) (by decide) (by decide), part_ok w 16 6 hw (by decide) (by decide) (by decide), part_ok w 10 6 hw (by decide) (by decide) (by decide), fld_nonneg w 16 6 hw (by decide) (by decide) (by decide), fld_nonneg w 10 6 hw (by decide) (by decide) (by decide)⟩
theorem masked_eq (k w : Nat) (hw : w < 4294967296) : P.code_masked.f k (w : Int) = (P.mask_Decode.f k (P.fld (w : Int) 22 1) (P.fld (w : Int) 16 6) (P.fld (w : Int) 10 6)).bind fun bt => if bt.2 = 0 then some bt.1 else none := by
 obtain ⟨p1, p2, p3, _⟩ := part_22 w hw
 rw [P.code_masked.f, p1, Option.bind_some, p2, Option.bind_some, p3, Option.bind_some]
theorem masked_ev (w : Nat) (hw : w < 4294967296) (mt : Int × Int) (hmt : Ev (fun k => P.mask_Decode.f k (P.fld (w : Int) 22 1) (P.fld (w : Int) 16 6) (P.fld (w : Int) 10 6)) mt) (e : mt.2 = 0) : Ev (fun k => P.code_masked.f k (w : Int)) mt.1 := by
 refine Ev.congr (fun k => masked_eq k w hw) (Ev.bind hmt ?_)
 simp only [if_pos e]
 exact Ev.now mt.1
def Good (w : Nat) (r : Int × Int × Int × Int × Int × Int × Int × Int × Int × Int × Int) : Prop :=
 r.2.2.2.2.2.2.2.2.2.2 = 0 → ∃ op : Nat, 1 ≤ op ∧ op ≤ 39 ∧ an w (maskN op) = baseN op ∧ ∃ i : Int × Int × Int × Int × Int × Int × Int × Int × Int × Int, Ev (fun k => P.code_read.of k (w : Int) (op : Int) (shapeN op : Int)) i ∧ i.1 = (op : Int) ∧
  r = (i.1, i.2.1, i.2.2.1, i.2.2.2.1, i.2.2.2.2.1, i.2.2.2.2.2.1, i.2.2.2.2.2.2.1, i.2.2.2.2.2.2.2.1, i.2.2.2.2.2.2.2.2.1, i.2.2.2.2.2.2.2.2.2, 0) ∧
  Ev (fun k => P.inst_Is.f k i.1 i.2.1 i.2.2.1 i.2.2.2.1 i.2.2.2.2.1 i.2.2.2.2.2.1 i.2.2.2.2.2.2.1 i.2.2.2.2.2.2.2.1 i.2.2.2.2.2.2.2.2.1 i.2.2.2.2.2.2.2.2.2) true
theorem bad (w : Nat) : Good w (0, 0, 0, 0, 0, 0, 0, 0, 0, 0, 11) := fun h => absurd (show (11 : Int) = 0 from h) (by decide)
theorem decode_full (w : Nat) (hw : w < 4294967296) : EndsP (fun k => P.code_Decode.f k (w : Int)) (Good w) := by
 unfold P.code_Decode.f
 rcases opcode w hw with h0 | ⟨op, h1, h2, ho, han⟩
 ·rw [h0]
  have hs : P.inst_Shape.f 0 = some 0 := by
   unfold P.inst_Shape.f
   rw [if_pos (by decide)]
  have hp : ∀ k, P.code_Decode.pan k (w : Int) 0 = some true := fun k => by
   unfold P.code_Decode.pan
   rw [if_pos rfl]
  simp only [Option.bind_some, hs, hp, if_true]
  exact EndsP.now _ (bad w)
 obtain ⟨_, _, _, t4, _, _, t7⟩ := tables op h2
 have t7 := t7 h1
 rw [ho]
 simp only [Option.bind_some]
 rw [shape_some op h1 h2]
 simp only [Option.bind_some]
 have md := mask_Decode_ends (P.fld (w : Int) 22 1) (P.fld (w : Int) 16 6) (P.fld (w : Int) 10 6) (part_22 w hw).2.2.2.1 (part_22 w hw).2.2.2.2
 obtain ⟨mt, hmt, hmu⟩ := md
 have hpan : Ends (fun k => P.code_Decode.pan k (w : Int) (shapeN op : Int)) :=
  Ends.ite (fun _ => Ends.now _) fun _ => Ends.ite (fun _ => Ends.bind ⟨mt, hmt⟩ fun _ _ => Ends.now _) fun _ => Ends.now _
 refine EndsP.bind hpan.plain fun p hp _ => EndsP.ite (fun _ => EndsP.now _ (bad w)) fun hnp => ?_
 have h3 : ((shapeN op : Nat) : Int) = 3 → Ends (fun k => P.code_masked.f k (w : Int)) ∧ ∀ m, Ev (fun k => P.code_masked.f k (w : Int)) m → U64 m := by
  intro e3
  have e : mt.2 = 0 := by
   have hp2 : Ev (fun k => P.code_Decode.pan k (w : Int) (shapeN op : Int)) (!(mt.2 == 0)) := by
    unfold P.code_Decode.pan
    simp only [e3, (by decide : ¬ ((3 : Int) = 0)), if_false, if_true]
    exact hmt.bind (Ev.now _)
   have := Ev.one hp hp2
   subst this
   simpa using hnp
  have hk : Ev (fun k => P.code_masked.f k (w : Int)) mt.1 := masked_ev w hw mt hmt e
  exact ⟨⟨_, hk⟩, fun m hm => Ev.one hk hm ▸ hmu⟩
 obtain ⟨i, hi, hio, hiu⟩ := read_ends w hw op (shapeN op) (by omega) (by omega) h3
 exact EndsP.bind (Ends.plain ⟨i, hi⟩) fun j hj _ => by
  obtain rfl := Ev.one hi hj
  exact EndsP.bind (is_ends _ _ _ _ _ _ _ _ _ _ hiu (by rw [hio]; exact ⟨_, shape_some op h1 h2⟩)).plain fun b hb _ => EndsP.ite (fun e => EndsP.now _ fun _ => by
   subst e
   exact ⟨op, h1, h2, han, i, hi, hio, rfl, hb⟩) fun _ => EndsP.now _ (bad w)
theorem decode_ends (w : Nat) (hw : w < 4294967296) : Ends (fun k => P.code_Decode.f k (w : Int)) := (decode_full w hw).ends
theorem fits_ends (kind : Int) (w : Nat) (hw : w < 4294967296) : Ends (fun k => P.part_Fits.f k kind (w : Int)) :=
 Ends.ite (fun _ => Ends.now _) fun _ => Ends.ite (fun _ => Ends.now _) fun _ => Ends.bind (decode_ends w hw) fun _ _ => Ends.now _
def plc : Nat → List (Nat × Nat)
 | 1 => [(0, 5), (5, 16), (21, 2)]
 | 2 => [(0, 5), (5, 5), (10, 12), (22, 1)]
 | 3 => [(0, 5), (5, 5), (10, 6), (16, 6), (22, 1)]
 | 4 => [(0, 5), (5, 5), (10, 6), (16, 5), (22, 2)]
 | 5 => [(0, 5), (5, 5), (10, 6), (16, 5), (22, 2)]
 | 6 => [(0, 5), (5, 5), (10, 5), (16, 5)]
 | 7 => [(0, 5), (5, 5), (10, 12)]
 | 8 => [(0, 5), (5, 5), (10, 12)]
 | 9 => [(0, 5), (5, 19)]
 | 10 => [(0, 5), (5, 19), (29, 2)]
 | 11 => [(0, 26)]
 | 12 => [(0, 4), (5, 19)]
 | 13 => [(5, 5)]
 | 14 => [(5, 16)]
 | 16 => [(0, 5), (5, 5), (12, 4), (16, 5)]
 | _ => []
def mk1 (p : Nat × Nat) : Nat := 2 ^ p.1 * (2 ^ p.2 - 1)
def mkL : List (Nat × Nat) → Nat
 | [] => 0
 | p :: l => mk1 p ||| mkL l
def fdN (w : Nat) (p : Nat × Nat) : Nat := w / 2 ^ p.1 % 2 ^ p.2
def pAt (s k : Nat) : Nat × Nat := (plc s).getD k (0, 1)
theorem plc_mask : ((List.range 17).all fun s => mkL (plc s) == fieldN s) = true := by kernel_rfl
theorem plc_apart : ((List.range 17).all fun s => (List.range (plc s).length).all fun k => (mkL ((plc s).take k) &&& mk1 (pAt s k)) == 0 && decide (1 ≤ (pAt s k).2) && decide ((pAt s k).2 ≤ 26) && decide ((pAt s k).1 + (pAt s k).2 ≤ 32) && decide ((plc s).length ≤ 5)) = true := by kernel_rfl
theorem plc_facts {s k : Nat} (hs : s ≤ 16) (hk : k < (plc s).length) : (mkL ((plc s).take k) &&& mk1 (pAt s k)) = 0 ∧ 1 ≤ (pAt s k).2 ∧ (pAt s k).2 ≤ 26 ∧ (pAt s k).1 + (pAt s k).2 ≤ 32 := by
 have h := List.all_eq_true.1 (List.all_eq_true.1 plc_apart s (List.mem_range.2 (by omega))) k (List.mem_range.2 hk)
 simp only [Bool.and_eq_true, beq_iff_eq, decide_eq_true_eq] at h
 exact ⟨h.1.1.1.1, h.1.1.1.2, h.1.1.2, h.1.2⟩
theorem plc_len (s : Nat) : (plc s).length ≤ 5 := by
 rcases Nat.lt_or_ge s 17 with h | h
 ·exact (by decide : ∀ s : Nat, s < 17 → (plc s).length ≤ 5) s h
 have : plc s = [] := by
  unfold plc
  split <;> first | omega | rfl
 rw [this]
 exact Nat.zero_le _
theorem mkL_append (a b : List (Nat × Nat)) : mkL (a ++ b) = mkL a ||| mkL b := by
 induction a with
 | nil => simp [mkL]
 | cons x a ih => rw [List.cons_append, mkL, mkL, ih, Nat.or_assoc]
theorem take_at (s k : Nat) (hk : k < (plc s).length) : (plc s).take (k + 1) = (plc s).take k ++ [pAt s k] := by
 rw [List.take_succ_eq_append_getElem hk]
 congr 1
 unfold pAt
 rw [List.getD_eq_getElem?_getD, List.getElem?_eq_getElem hk]
 rfl
theorem an_or (w a b : Nat) : an w (a ||| b) = an (an w a) b := by
 refine Nat.eq_of_testBit_eq fun j => ?_
 simp only [an_bit, Nat.testBit_or]
 cases w.testBit j <;> cases a.testBit j <;> cases b.testBit j <;> rfl
theorem an_mk1 (v a n : Nat) : an v (mk1 (a, n)) + fdN v (a, n) * 2 ^ a = v := by
 have hl : v % 2 ^ a < 2 ^ a := Nat.mod_lt _ (Nat.two_pow_pos a)
 have e1 : v = 2 ^ a * (v / 2 ^ a) + v % 2 ^ a := (Nat.div_add_mod v (2 ^ a)).symm
 have hf : v / 2 ^ a % 2 ^ n < 2 ^ n := Nat.mod_lt _ (Nat.two_pow_pos n)
 have e2 : an (v / 2 ^ a) (2 ^ n - 1) + v / 2 ^ a % 2 ^ n = v / 2 ^ a := by
  obtain ⟨q, hq⟩ : ∃ q, v / 2 ^ a = q := ⟨_, rfl⟩
  rw [hq] at hf ⊢
  have e3 : q = 2 ^ n * (q / 2 ^ n) + q % 2 ^ n := (Nat.div_add_mod q (2 ^ n)).symm
  have e4 : an q (2 ^ n - 1) = 2 ^ n * (q / 2 ^ n) := by
   have h := seg_an n (q / 2 ^ n) (q % 2 ^ n) 0 (2 ^ n - 1) hf (by have := Nat.two_pow_pos n; omega)
   rw [← e3, Nat.mul_zero, Nat.zero_add, an_zero, an_full hf, Nat.add_zero] at h
   exact h
  rw [e4]
  exact e3.symm
 have e5 : an v (mk1 (a, n)) = 2 ^ a * an (v / 2 ^ a) (2 ^ n - 1) + v % 2 ^ a := by
  have h := seg_an a (v / 2 ^ a) (v % 2 ^ a) (2 ^ n - 1) 0 hl (Nat.two_pow_pos a)
  rw [← e1, Nat.add_zero, an_zero] at h
  exact h
 rw [e5]
 show 2 ^ a * an (v / 2 ^ a) (2 ^ n - 1) + v % 2 ^ a + v / 2 ^ a % 2 ^ n * 2 ^ a = v
 obtain ⟨x, hx⟩ : ∃ x, an (v / 2 ^ a) (2 ^ n - 1) = x := ⟨_, rfl⟩
 obtain ⟨y, hy⟩ : ∃ y, v / 2 ^ a % 2 ^ n = y := ⟨_, rfl⟩
 rw [hx, hy] at e2 ⊢
 have : 2 ^ a * (x + y) = 2 ^ a * x + y * 2 ^ a := by rw [Nat.mul_add, Nat.mul_comm y]
 have e6 : 2 ^ a * (x + y) + v % 2 ^ a = v := by rw [e2]; exact e1.symm
 omega
theorem fd_an (w M : Nat) (p : Nat × Nat) (h : (M &&& mk1 p) = 0) : fdN (an w M) p = fdN w p := by
 unfold fdN
 refine Nat.eq_of_testBit_eq fun j => ?_
 rw [Nat.testBit_mod_two_pow, Nat.testBit_mod_two_pow, Nat.testBit_div_two_pow, Nat.testBit_div_two_pow]
 by_cases hj : j < p.2
 ·have h2 : (M &&& mk1 p).testBit (j + p.1) = false := by rw [h]; exact Nat.zero_testBit _
  rw [Nat.testBit_and] at h2
  have h3 : (mk1 p).testBit (j + p.1) = true := by
   unfold mk1
   have := Nat.testBit_two_pow_mul_add (2 ^ p.2 - 1) (Nat.two_pow_pos p.1) (j + p.1)
   rw [Nat.add_zero] at this
   rw [this, if_neg (by omega), Nat.add_sub_cancel, Nat.testBit_two_pow_sub_one]
   simpa using hj
  rw [h3, Bool.and_true] at h2
  rw [an_bit, h2]
  simp
 simp [hj]
theorem an_step (w s k : Nat) (hs : s ≤ 16) (hk : k < (plc s).length) : an w (mkL ((plc s).take (k + 1))) + fdN w (pAt s k) * 2 ^ (pAt s k).1 = an w (mkL ((plc s).take k)) := by
 obtain ⟨h1, h2, h3, h4⟩ := plc_facts hs hk
 rw [take_at s k hk, mkL_append, an_or]
 have e := an_mk1 (an w (mkL ((plc s).take k))) (pAt s k).1 (pAt s k).2
 rw [show ((pAt s k).1, (pAt s k).2) = pAt s k from rfl, fd_an _ _ _ h1] at e
 have : mkL [pAt s k] = mk1 (pAt s k) := by simp [mkL]
 rw [this]
 exact e
theorem an_all (w s : Nat) (hs : s ≤ 16) : an w (mkL ((plc s).take (plc s).length)) = an w (fieldN s) := by
 rw [List.take_length]
 have h := List.all_eq_true.1 plc_mask s (List.mem_range.2 (by omega))
 rw [beq_iff_eq.1 h]
theorem fd_lt (w : Nat) (p : Nat × Nat) : fdN w p < 2 ^ p.2 := Nat.mod_lt _ (Nat.two_pow_pos _)
end Go.Proofs.YtngmipfodjgmmaaGreatDoor.Pure
end
