/- 'Load', 'Text', 'Word' of a machine's memory: the number, the text that the bytes are. -/
import Derived.Test.YtjllhcfcdimbfaaMp31
namespace Go.Proofs.Ytjllhcfcdimbfaa.P
open Go Go.RowKit Go.Sort Go.Lib Go.Shelf Go.Proofs.YtjllhcfcdimbfaaW.PrintWords Go.Proofs.YtjllhcfcdimbfaaW.PrintLast Go.Proofs.YtjllhcfcdimbfaaW.PrintMore
set_option linter.unusedVariables false
set_option linter.unusedSimpArgs false
def numv : List Nat → Nat
  | [] => 0
  | x :: r => x + 256 * numv r
theorem numv_snoc (l : List Nat) (x : Nat) : numv (l ++ [x]) = numv l + 2 ^ (8 * l.length) * x := by
  induction l with
  | nil => simp [numv]
  | cons a l ih =>
    have e : 2 ^ (8 * (l.length + 1)) = 256 * 2 ^ (8 * l.length) := by
      rw [Nat.mul_add, Nat.pow_add, Nat.mul_comm]
    simp only [List.cons_append, numv, ih, List.length_cons]
    rw [e, Nat.mul_add, Nat.mul_assoc]
    omega
theorem numv_lt (l : List Nat) (h : ∀ x ∈ l, x < 256) : numv l < 2 ^ (8 * l.length) := by
  induction l with
  | nil => simp [numv]
  | cons a l ih =>
    have h1 := ih (fun x hx => h x (List.mem_cons_of_mem _ hx))
    have h2 := h a List.mem_cons_self
    simp only [numv, List.length_cons]
    rw [Nat.mul_add 8, Nat.pow_add]
    omega
theorem u64_wrap (z : Int) : IntKind.u64.wrap z = z % 18446744073709551616 := rfl
theorem u64_nat (a : Nat) (h : a < 18446744073709551616) : (BitVec.ofInt 64 (a : Int)).toNat = a := by
  simp
  omega
theorem shl64_nat (v a : Nat) (ha : a ≤ 64) (h : 2 ^ a * v < 18446744073709551616) : shl .u64 (v : Int) (a : Int) = ((2 ^ a * v : Nat) : Int) := by
  unfold shl
  rw [Int.toNat_natCast, Nat.min_eq_left (by show a ≤ 64; omega)]
  have e : (v : Int) * 2 ^ a = ((2 ^ a * v : Nat) : Int) := by rw [Nat.mul_comm]; push_cast; rfl
  rw [e, u64_wrap]
  omega
theorem or64 (a b : Nat) (ha : a < 18446744073709551616) (hb : b < 18446744073709551616) : Go.bits .or .u64 (a : Int) (b : Int) = ((a ||| b : Nat) : Int) := by
  show IntKind.u64.wrap ((BitVec.ofInt 64 (a : Int) ||| BitVec.ofInt 64 (b : Int)).toNat : Int) = _
  rw [BitVec.toNat_or, u64_nat a ha, u64_nat b hb, u64_wrap]
  have := Nat.or_lt_two_pow (n := 64) ha hb
  omega
theorem or_add (k a b : Nat) (hb : b < 2 ^ k) : b ||| 2 ^ k * a = 2 ^ k * a + b := by
  rw [Nat.or_comm, ← Nat.two_pow_add_eq_or_of_lt hb]
theorem num_step (acc b n : Nat) (hn : n ≤ 56) (hacc : acc < 2 ^ n) (hb : b < 256) : Go.bits .or .u64 (acc : Int) (shl .u64 (IntKind.u64.wrap (b : Int)) (n : Int)) = ((acc + 2 ^ n * b : Nat) : Int) := by
  have h1 : 2 ^ n * b + 2 ^ n ≤ 2 ^ n * 256 := by
    rw [← Nat.mul_succ]
    exact Nat.mul_le_mul_left _ hb
  have h2 : 2 ^ n * 256 ≤ 18446744073709551616 := by
    rw [show 256 = 2 ^ 8 by decide, ← Nat.pow_add]
    exact Nat.pow_le_pow_right (n := 2) (by decide) (show n + 8 ≤ 64 by omega)
  rw [show IntKind.u64.wrap (b : Int) = (b : Int) by rw [u64_wrap]; omega, shl64_nat b n (by omega) (by omega), or64 _ _ (by omega) (by omega), or_add n b acc hacc, Nat.add_comm]
def ints (l : List Nat) : List Int := l.map fun x : Nat => (x : Int)
theorem rd_ints (l : List Nat) (i : Nat) (hi : i < l.length) : rd (ints l) (i : Int) = (l[i] : Int) := by
  unfold rd ints
  simp [hi]
theorem number_eq (l : List Nat) (h8 : l.length ≤ 8) (hb : ∀ x ∈ l, x < 256) : mem_number.f (l.length + 1) (ints l) = some ((numv l : Nat) : Int) := by
  have hl : (ints l).length = l.length := by simp [ints]
  have go : ∀ (j i : Nat), i + j = l.length → mem_number.l0 (j + 1) ((numv (l.take i) : Nat) : Int) (ints l) (l.length : Int) (i : Int) = some ((numv l : Nat) : Int) := by
    intro j
    induction j with
    | zero =>
      intro i hi
      rw [mem_number.l0, if_neg (by omega), List.take_of_length_le (by omega)]
    | succ j ih =>
      intro i hi
      have hx : l[i]'(by omega) < 256 := hb _ (List.getElem_mem _)
      have hn := numv_lt (l.take i) (fun x hx => hb x (List.mem_of_mem_take hx))
      rw [List.length_take, Nat.min_eq_left (by omega)] at hn
      have e8 : wrap64 (8 * (i : Int)) = ((8 * i : Nat) : Int) := by unfold wrap64; omega
      have e1 : wrap64 ((i : Int) + 1) = ((i + 1 : Nat) : Int) := by unfold wrap64; omega
      rw [mem_number.l0, if_pos (by omega), if_pos (by omega), if_pos (by omega), e8, if_pos (by omega), rd_ints l i (by omega), num_step _ _ (8 * i) (by omega) hn hx, e1, ← ih (i + 1) (by omega)]
      congr 2
      rw [List.take_succ_eq_append_getElem (by omega), numv_snoc, List.length_take, Nat.min_eq_left (by omega)]
  have := go l.length 0 (by omega)
  unfold mem_number.f
  rw [hl]
  simpa [numv] using this
theorem addr_add (b o j : Nat) : (⟨b, o, none⟩ : Addr).add j = ⟨b, o + j, none⟩ := by
  unfold Addr.add
  split
  · rename_i h
    subst h
    rfl
  · rfl
theorem number_any (w : World) (blk f c : Nat) (l : List Nat) (h8 : l.length ≤ 8) (hb : ∀ x ∈ l, x < 256) (hc : l.length ≤ c) (h : ∀ j, j < l.length → w.cell? ⟨blk, f + j, none⟩ = some (.int .u8 (l.getD j 0 : Nat))) :
    Calls Try.prog 17 #[.slice (some ⟨blk, f, none⟩) l.length c] w fun e w' => e = .returned (.int .u64 (numv l : Nat)) ∧ Drawn0 w w' := by
  have hl : (ints l).length = l.length := by simp [ints]
  have hC : Kd.C (Kd.int .u8) w (some ⟨blk, f, none⟩) (ints l).length (ints l) := by
    refine Kd.C_of_reads (d := (0 : Int)) ⟨rfl, by omega, fun hn => ⟨_, rfl, fun j hj => ?_⟩⟩
    have := h j (by omega)
    rw [hl] at hj
    have e : (ints l).getD j 0 = ((l.getD j 0 : Nat) : Int) := by simp [ints, hj]
    rw [e, addr_add]
    exact this
  have := mem_number.calls (l.length + 1) (some ⟨blk, f, none⟩) c (ints l) _ w hC (by omega) (number_eq l h8 hb)
  rw [hl] at this
  exact this
def cut (r : Rg) (f n : Nat) : List Nat := (r.bytes.drop f).take n
theorem cut_length (r : Rg) (f n : Nat) (h : f + n ≤ r.bytes.length) : (cut r f n).length = n := by
  simp [cut]
  omega
theorem cut_get (r : Rg) (f n j : Nat) (h : f + n ≤ r.bytes.length) (hj : j < n) : (cut r f n).getD j 0 = r.bytes.getD (f + j) 0 := by
  unfold cut
  rw [List.getD_eq_getElem?_getD, List.getD_eq_getElem?_getD, List.getElem?_take, if_pos hj, List.getElem?_drop]
theorem cut_mem (r : Rg) (f n x : Nat) (hx : x ∈ cut r f n) : x ∈ r.bytes := List.mem_of_mem_drop (List.mem_of_mem_take hx)
theorem MemS.cut_cells {B : Nat} {w : World} {pm bp : Nat} {d : Array Rg} (h : MemS B w pm bp d) {k f n : Nat} (hk : k < d.size) (hf : f + n ≤ d[k]!.bytes.length) :
    ∀ j, j < (cut d[k]! f n).length → w.cell? ⟨d[k]!.blk, f + j, none⟩ = some (.int .u8 ((cut d[k]! f n).getD j 0 : Nat)) := by
  intro j hj
  rw [cut_length _ _ _ hf] at hj
  rw [cut_get _ _ _ _ hf hj]
  exact (h.bytes k hk (f + j) (by omega)).1
def ld (d : Array Rg) (at_ : Int) (n : Nat) : Int × Int := match hit d at_ n with
  | none => (0, 4)
  | some (k, f) => ((numv (cut d[k]! f n) : Nat), 0)
set_option maxHeartbeats 1000000 in
theorem load_any (B : Nat) (w : World) (pm bp : Nat) (d : Array Rg) (at_ : Int) (n : Nat) (hM : MemS B w pm bp d) (hg : Good d) (a0 : 0 ≤ at_) (a1 : at_ ≤ 18446744073709551615) (hn : n = 1 ∨ n = 8) :
    Calls Try.prog 9 #[.pointer (some ⟨pm, 0, none⟩), .int .u64 at_, .int .i64 n] w fun e w' => e = .returned (.tuple #[.int .u64 (ld d at_ n).1, .int .i64 (ld d at_ n).2]) ∧ Below w.heap.size w w' := by
  unfold ld
  cases h : hit d at_ n with
  | none =>
    dsimp only
    have HF := Aside0.mk (find_none B w pm bp d at_ n hM hg a0 a1 (by omega) (by omega) h)
    clear hM hg h
    rcases hn with rfl | rfl
    all_goals
      push_cast at HF ⊢
      go_enter Try.func9, Try.ntmps9
      go_wp2_with (go_at_call 16; (with_reducible refine HF.out.mono ?_); rintro e w1 ⟨rfl, hb⟩; have HB := Aside0.mk hb; clear hb)
      go_ret2
      exact ⟨rfl, HB.out⟩
  | some t =>
    obtain ⟨k, f⟩ := t
    dsimp only
    obtain ⟨kl, he, hf⟩ := hit_some hg h
    have HF := Aside0.mk (find_some B w pm bp d at_ n k f hM hg (by omega) (by omega) h)
    have HN := Aside0.mk (fun (W : World) hM1 => number_any W d[k]!.blk f (d[k]!.bytes.length - f) (cut d[k]! f n) (by rw [cut_length _ _ _ hf]; omega) (fun x hx => (hg.one k kl).2.2.2.2.2.2 x (cut_mem _ _ _ _ hx)) (by rw [cut_length _ _ _ hf]; omega) (MemS.cut_cells (B := B) (w := W) (pm := pm) (bp := bp) hM1 kl hf))
    rw [cut_length _ _ _ hf] at HN
    have HM := Aside0.mk hM
    clear hM hg h he hf kl
    generalize numv (cut d[k]! f n) = v at HN ⊢
    generalize d[k]!.blk = blk at HN HF
    generalize d[k]!.bytes.length - f = c at HN HF
    rcases hn with rfl | rfl
    all_goals
      push_cast at HF ⊢
      go_enter Try.func9, Try.ntmps9
      go_wp2_with (first | (go_at_call 16; (with_reducible refine HF.out.mono ?_); rintro e w1 ⟨rfl, hb⟩; have HB := Aside0.mk hb; have HM1 := Aside0.mk (HM.out.below hb); clear hb) | (go_at_call 17; (with_reducible refine (HN.out _ HM1.out).mono ?_); rintro e w2 ⟨rfl, q, rfl⟩))
      go_ret2
      exact ⟨rfl, pw_below_drewN HB.out _⟩
end Go.Proofs.Ytjllhcfcdimbfaa.P
