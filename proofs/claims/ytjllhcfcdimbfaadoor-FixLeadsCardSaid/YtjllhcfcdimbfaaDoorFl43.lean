/- Words and instructions of the kinds that relocations turn: read and written, there and back. -/
import Derived.Test.YtjllhcfcdimbfaaDoorFl42
import Derived.Test.YtjllhcfcdimbfaaDoorFl32
import Derived.Test.YtjllhcfcdimbfaaDoorFl36
import Derived.Test.YtjllhcfcdimbfaaDoorFl23
namespace Go.Proofs.YtjllhcfcdimbfaaDoor.Pure
open Go Go.RowKit Go.Proofs.YtjllhcfcdimbfaaDoorW.PrintWords Go.Proofs.YtjllhcfcdimbfaaDoorW.PrintLast Go.Proofs.YtjllhcfcdimbfaaDoorW.PrintMore
set_option linter.unusedVariables false
set_option linter.unusedSimpArgs false
theorem an_low (w k : Nat) : an w (2 ^ k - 1) = 2 ^ k * (w / 2 ^ k) := by
  have hp := Nat.two_pow_pos k
  have e := seg_an k (w / 2 ^ k) (w % 2 ^ k) 0 (2 ^ k - 1) (Nat.mod_lt _ hp) (by omega)
  rw [Nat.div_add_mod, Nat.mul_zero, Nat.zero_add, an_zero, an_full (Nat.mod_lt _ hp), Nat.add_zero] at e
  exact e
theorem an_split (w k c d : Nat) (hd : d < 2 ^ k) : an w (2 ^ k * c + d) = 2 ^ k * an (w / 2 ^ k) c + an (w % 2 ^ k) d := by
  have hp := Nat.two_pow_pos k
  have e := seg_an k (w / 2 ^ k) (w % 2 ^ k) c d (Nat.mod_lt _ hp) hd
  rw [Nat.div_add_mod] at e
  exact e
theorem shr_nat (v n : Nat) (hn : n ≤ 32) : shr .u32 (v : Int) (n : Int) = ((v / 2 ^ n : Nat) : Int) := by
  unfold shr
  rw [Int.toNat_natCast, Nat.min_eq_left (by show n ≤ 32; omega)]
  push_cast
  rfl
theorem shl_nat (v a : Nat) (ha : a ≤ 32) (h : 2 ^ a * v < 4294967296) : shl .u32 (v : Int) (a : Int) = ((2 ^ a * v : Nat) : Int) := by
  unfold shl
  rw [Int.toNat_natCast, Nat.min_eq_left (by show a ≤ 32; omega)]
  have e : (v : Int) * 2 ^ a = ((2 ^ a * v : Nat) : Int) := by rw [Nat.mul_comm]; push_cast; rfl
  rw [e, wrap_u32 _ h]
theorem l2_step (k acc : Nat) (L : List P.S84) (len i a n v : Nat) (hL : P.rd_T84 L (i : Int) = ⟨(a : Int), (n : Int), (v : Int)⟩) (hi : i < len) (hlen : L.length = len) (hv : v < 2 ^ n) (ha : a + n ≤ 32) (hacc : acc < 2 ^ a) (hlen2 : len < 100) :
    P.bits_Word.l2 (k + 1) (acc : Int) L (len : Int) (i : Int) = P.bits_Word.l2 k ((acc + 2 ^ a * v : Nat) : Int) L (len : Int) ((i + 1 : Nat) : Int) := by
  have hb : 2 ^ a * v + acc < 4294967296 := by
    have h1 : 2 ^ a * v + 2 ^ a ≤ 2 ^ a * 2 ^ n := by
      rw [← Nat.mul_succ]
      exact Nat.mul_le_mul_left _ hv
    have h2 : 2 ^ a * 2 ^ n ≤ 4294967296 := by
      rw [← Nat.pow_add]
      exact Nat.pow_le_pow_right (n := 2) (by decide) ha
    omega
  rw [P.bits_Word.l2, hL, hlen, if_pos (by omega), if_pos (by omega), if_pos (by omega)]
  simp only []
  rw [shr_nat v n (by omega), Nat.div_eq_of_lt hv, shl_nat v a (by omega) (by omega), bits_or acc _ (by omega) (by omega), or_add a v acc hacc, wrap64_small ((i : Int) + 1) (by omega) (by omega)]
  rw [if_pos (by omega), if_pos (show ((0 : Nat) : Int) = 0 from rfl), if_pos (by omega), Nat.add_comm (2 ^ a * v) acc]
  rfl
theorem l2_end (k acc : Nat) (L : List P.S84) (len : Nat) : P.bits_Word.l2 (k + 1) (acc : Int) L (len : Int) (len : Int) = some ((acc : Int), 0) := by
  rw [P.bits_Word.l2, if_neg (by omega)]
theorem fd_nat (a n v : Nat) (hv : v < 4294967296) : P.fd (a : Int) (n : Int) (v : Int) = ⟨(a : Int), (n : Int), (v : Int)⟩ := by
  unfold P.fd
  have : (v : Int) % 4294967296 = v := by omega
  rw [this]
theorem word_one (F a n v : Nat) (h : v < 2 ^ n) (ha : a + n ≤ 32) (start : P.bits_Word.f F [⟨(a : Int), (n : Int), (v : Int)⟩] = P.bits_Word.l2 10 0 [⟨(a : Int), (n : Int), (v : Int)⟩] 1 0) :
    P.code_word.f F [⟨(a : Int), (n : Int), (v : Int)⟩] = some ((2 ^ a * v : Nat) : Int) := by
  unfold P.code_word.f
  rw [start]
  have e1 := l2_step 9 0 [⟨(a : Int), (n : Int), (v : Int)⟩] 1 0 a n v rfl (by decide) rfl h ha (Nat.two_pow_pos a) (by decide)
  have e2 := l2_end 8 (0 + 2 ^ a * v) [⟨(a : Int), (n : Int), (v : Int)⟩] 1
  rw [Nat.zero_add] at e1 e2
  exact (congrArg (fun z => Option.bind z fun bt => some bt.1) (e1.trans e2))
theorem word_two (F a n v a' n' v' : Nat) (h : v < 2 ^ n) (ha : a + n ≤ a') (h' : v' < 2 ^ n') (ha' : a' + n' ≤ 32)
    (start : P.bits_Word.f F [⟨(a : Int), (n : Int), (v : Int)⟩, ⟨(a' : Int), (n' : Int), (v' : Int)⟩] = P.bits_Word.l2 10 0 [⟨(a : Int), (n : Int), (v : Int)⟩, ⟨(a' : Int), (n' : Int), (v' : Int)⟩] 2 0) :
    P.code_word.f F [⟨(a : Int), (n : Int), (v : Int)⟩, ⟨(a' : Int), (n' : Int), (v' : Int)⟩] = some ((2 ^ a * v + 2 ^ a' * v' : Nat) : Int) := by
  unfold P.code_word.f
  rw [start]
  have hb : 2 ^ a * v < 2 ^ a' := by
    have h1 : 2 ^ a * v < 2 ^ a * 2 ^ n := Nat.mul_lt_mul_of_pos_left h (Nat.two_pow_pos a)
    have h2 : 2 ^ a * 2 ^ n ≤ 2 ^ a' := by
      rw [← Nat.pow_add]
      exact Nat.pow_le_pow_right (n := 2) (by decide) ha
    omega
  have e1 := l2_step 9 0 [⟨(a : Int), (n : Int), (v : Int)⟩, ⟨(a' : Int), (n' : Int), (v' : Int)⟩] 2 0 a n v rfl (by decide) rfl h (by omega) (Nat.two_pow_pos a) (by decide)
  rw [Nat.zero_add] at e1
  have e2 := l2_step 8 (2 ^ a * v) [⟨(a : Int), (n : Int), (v : Int)⟩, ⟨(a' : Int), (n' : Int), (v' : Int)⟩] 2 1 a' n' v' rfl (by decide) rfl h' ha' hb (by decide)
  have e3 := l2_end 7 (2 ^ a * v + 2 ^ a' * v') [⟨(a : Int), (n : Int), (v : Int)⟩, ⟨(a' : Int), (n' : Int), (v' : Int)⟩] 2
  exact (congrArg (fun z => Option.bind z fun bt => some bt.1) (e1.trans (e2.trans e3)))
theorem word_three (F a n v a' n' v' b m u : Nat) (h : v < 2 ^ n) (ha : a + n ≤ a') (h' : v' < 2 ^ n') (ha' : a' + n' ≤ b) (hu : u < 2 ^ m) (hb : b + m ≤ 32)
    (start : P.bits_Word.f F [⟨(a : Int), (n : Int), (v : Int)⟩, ⟨(a' : Int), (n' : Int), (v' : Int)⟩, ⟨(b : Int), (m : Int), (u : Int)⟩] = P.bits_Word.l2 10 0 [⟨(a : Int), (n : Int), (v : Int)⟩, ⟨(a' : Int), (n' : Int), (v' : Int)⟩, ⟨(b : Int), (m : Int), (u : Int)⟩] 3 0) :
    P.code_word.f F [⟨(a : Int), (n : Int), (v : Int)⟩, ⟨(a' : Int), (n' : Int), (v' : Int)⟩, ⟨(b : Int), (m : Int), (u : Int)⟩] = some ((2 ^ a * v + 2 ^ a' * v' + 2 ^ b * u : Nat) : Int) := by
  unfold P.code_word.f
  rw [start]
  have lt : ∀ {a n v a' : Nat}, v < 2 ^ n → a + n ≤ a' → 2 ^ a * v + 2 ^ a ≤ 2 ^ a' := by
    intro a n v a' h ha
    have h1 : 2 ^ a * v + 2 ^ a ≤ 2 ^ a * 2 ^ n := by
      rw [← Nat.mul_succ]
      exact Nat.mul_le_mul_left _ h
    have h2 : 2 ^ a * 2 ^ n ≤ 2 ^ a' := by
      rw [← Nat.pow_add]
      exact Nat.pow_le_pow_right (n := 2) (by decide) ha
    omega
  have b1 := lt h ha
  have b2 := lt h' ha'
  have p1 := Nat.two_pow_pos a
  have e1 := l2_step 9 0 [⟨(a : Int), (n : Int), (v : Int)⟩, ⟨(a' : Int), (n' : Int), (v' : Int)⟩, ⟨(b : Int), (m : Int), (u : Int)⟩] 3 0 a n v rfl (by decide) rfl h (by omega) (Nat.two_pow_pos a) (by decide)
  rw [Nat.zero_add] at e1
  have e2 := l2_step 8 (2 ^ a * v) [⟨(a : Int), (n : Int), (v : Int)⟩, ⟨(a' : Int), (n' : Int), (v' : Int)⟩, ⟨(b : Int), (m : Int), (u : Int)⟩] 3 1 a' n' v' rfl (by decide) rfl h' (by omega) (by omega) (by decide)
  have e3 := l2_step 7 (2 ^ a * v + 2 ^ a' * v') [⟨(a : Int), (n : Int), (v : Int)⟩, ⟨(a' : Int), (n' : Int), (v' : Int)⟩, ⟨(b : Int), (m : Int), (u : Int)⟩] 3 2 b m u rfl (by decide) rfl hu hb (by omega) (by decide)
  have e4 := l2_end 6 (2 ^ a * v + 2 ^ a' * v' + 2 ^ b * u) [⟨(a : Int), (n : Int), (v : Int)⟩, ⟨(a' : Int), (n' : Int), (v' : Int)⟩, ⟨(b : Int), (m : Int), (u : Int)⟩] 3
  exact (congrArg (fun z => Option.bind z fun bt => some bt.1) (e1.trans (e2.trans (e3.trans e4))))
theorem word_four (F a n v a' n' v' b m u c q t : Nat) (h : v < 2 ^ n) (ha : a + n ≤ a') (h' : v' < 2 ^ n') (ha' : a' + n' ≤ b) (hu : u < 2 ^ m) (hb : b + m ≤ c) (ht : t < 2 ^ q) (hc : c + q ≤ 32)
    (start : P.bits_Word.f F [⟨(a : Int), (n : Int), (v : Int)⟩, ⟨(a' : Int), (n' : Int), (v' : Int)⟩, ⟨(b : Int), (m : Int), (u : Int)⟩, ⟨(c : Int), (q : Int), (t : Int)⟩] = P.bits_Word.l2 10 0 [⟨(a : Int), (n : Int), (v : Int)⟩, ⟨(a' : Int), (n' : Int), (v' : Int)⟩, ⟨(b : Int), (m : Int), (u : Int)⟩, ⟨(c : Int), (q : Int), (t : Int)⟩] 4 0) :
    P.code_word.f F [⟨(a : Int), (n : Int), (v : Int)⟩, ⟨(a' : Int), (n' : Int), (v' : Int)⟩, ⟨(b : Int), (m : Int), (u : Int)⟩, ⟨(c : Int), (q : Int), (t : Int)⟩] = some ((2 ^ a * v + 2 ^ a' * v' + 2 ^ b * u + 2 ^ c * t : Nat) : Int) := by
  unfold P.code_word.f
  rw [start]
  have lt : ∀ {a n v a' : Nat}, v < 2 ^ n → a + n ≤ a' → 2 ^ a * v + 2 ^ a ≤ 2 ^ a' := by
    intro a n v a' h ha
    have h1 : 2 ^ a * v + 2 ^ a ≤ 2 ^ a * 2 ^ n := by
      rw [← Nat.mul_succ]
      exact Nat.mul_le_mul_left _ h
    have h2 : 2 ^ a * 2 ^ n ≤ 2 ^ a' := by
      rw [← Nat.pow_add]
      exact Nat.pow_le_pow_right (n := 2) (by decide) ha
    omega
  have b1 := lt h ha
  have b2 := lt h' ha'
  have b3 := lt hu hb
  have p1 := Nat.two_pow_pos a
  generalize hL : ([⟨(a : Int), (n : Int), (v : Int)⟩, ⟨(a' : Int), (n' : Int), (v' : Int)⟩, ⟨(b : Int), (m : Int), (u : Int)⟩, ⟨(c : Int), (q : Int), (t : Int)⟩] : List P.S84) = L
  have e1 := l2_step 9 0 L 4 0 a n v (by subst hL; rfl) (by decide) (by subst hL; rfl) h (by omega) (Nat.two_pow_pos a) (by decide)
  rw [Nat.zero_add] at e1
  have e2 := l2_step 8 (2 ^ a * v) L 4 1 a' n' v' (by subst hL; rfl) (by decide) (by subst hL; rfl) h' (by omega) (by omega) (by decide)
  have e3 := l2_step 7 (2 ^ a * v + 2 ^ a' * v') L 4 2 b m u (by subst hL; rfl) (by decide) (by subst hL; rfl) hu (by omega) (by omega) (by decide)
  have e4 := l2_step 6 (2 ^ a * v + 2 ^ a' * v' + 2 ^ b * u) L 4 3 c q t (by subst hL; rfl) (by decide) (by subst hL; rfl) ht hc (by omega) (by decide)
  have e5 := l2_end 5 (2 ^ a * v + 2 ^ a' * v' + 2 ^ b * u + 2 ^ c * t) L 4
  exact (congrArg (fun z => Option.bind z fun bt => some bt.1) (e1.trans (e2.trans (e3.trans (e4.trans e5)))))
theorem enc_of (op wd x : Nat) (d n v c : Int) (h1 : 1 ≤ op) (h2 : op ≤ 39) (his : P.inst_Is.f 60 (op : Int) d n 0 0 v 0 0 0 c = some true) (hof : P.code_filled.of 60 (shapeN op : Int) (op : Int) d n 0 0 v 0 0 0 c = some (wd : Int))
    (hwd : wd < 4294967296) (hx : baseN op ||| wd = x) : P.code_Encode.f 60 (op : Int) d n 0 0 v 0 0 0 c = some ((x : Int), 0) := by
  obtain ⟨t1, t2, t3, t4, t5, t6, t7⟩ := tables op h2
  unfold P.code_Encode.f P.code_filled.f
  rw [his, Option.bind_some, if_pos (by decide), if_pos (by omega), shape_some op h1 h2, Option.bind_some, hof, Option.bind_some, t2, bits_or _ _ t3 hwd, hx]
theorem dec_of (op x : Nat) (d n v c : Int) (h1 : 1 ≤ op) (h2 : op ≤ 39) (hx : x < 4294967296) (han : an x (maskN op) = baseN op) (h3 : shapeN op ≠ 3) (his : P.inst_Is.f 60 (op : Int) d n 0 0 v 0 0 0 c = some true)
    (hr : P.code_read.of 60 (x : Int) (op : Int) (shapeN op : Int) = some ((op : Int), d, n, 0, 0, v, 0, 0, 0, c)) : P.code_Decode.f 60 (x : Int) = some ((op : Int), d, n, 0, 0, v, 0, 0, 0, c, 0) := by
  obtain ⟨t1, t2, t3, t4, t5, t6, t7⟩ := tables op h2
  have t7 := t7 h1
  unfold P.code_Decode.f P.code_Decode.pan
  rw [opcode_of x op hx h1 h2 han, Option.bind_some, shape_some op h1 h2, Option.bind_some, if_neg (by omega), if_neg (by omega), Option.bind_some, if_neg (by decide), hr, Option.bind_some]
  simp only []
  rw [his, Option.bind_some, if_pos (by decide)]
theorem more_word {F : Nat} {L : List P.S84} {r : Int} (h : P.code_word.f F L = some r) (hF : F ≤ 60) : P.code_word.f 60 L = some r := at_rounds (fun k => P.code_word.mono L k) hF h
/-- What an instruction of these kinds is. -/
structure Turns (op x : Nat) (d n v c : Int) : Prop where
  lt : x < 4294967296
  enc : P.code_Encode.f 60 (op : Int) d n 0 0 v 0 0 0 c = some ((x : Int), 0)
  dec : P.code_Decode.f 60 (x : Int) = some ((op : Int), d, n, 0, 0, v, 0, 0, 0, c, 0)
theorem is2 (o d n v : Int) (ho : P.inst_Shape.f o = some 2) (hd : 0 ≤ d ∧ d ≤ 31) (hn : 0 ≤ n ∧ n ≤ 31) (hv : 0 ≤ v ∧ v ≤ 4095) : P.inst_Is.f 60 o d n 0 0 v 0 0 0 0 = some true := by
  have ht : Int.tmod v 1 = 0 := by exact Int.tmod_one v
  skip
  unfold P.inst_Is.f
  rw [ho]
  simp [P.inst_has.f, P.inst_has.j0, P.inst_has.j1, P.inst_has.j2, P.inst_register.f, P.inst_Is.j0, P.inst_number.f, P.inst_number.j0, P.inst_number.j1, P.inst_number.j2, P.inst_within.f, P.inst_amount.f, P.inst_cond.f, hd, hn, hv.1, hv.2, ht]
theorem is7 (o d n v : Int) (ho : P.inst_Shape.f o = some 7) (hd : 0 ≤ d ∧ d ≤ 31) (hn : 0 ≤ n ∧ n ≤ 31) (hv : 0 ≤ v ∧ v ≤ 32760) (hm : v % 8 = 0) : P.inst_Is.f 60 o d n 0 0 v 0 0 0 0 = some true := by
  have ht : Int.tmod v 8 = 0 := Int.tmod_eq_zero_of_dvd (Int.dvd_of_emod_eq_zero hm)
  skip
  unfold P.inst_Is.f
  rw [ho]
  simp [P.inst_has.f, P.inst_has.j0, P.inst_has.j1, P.inst_has.j2, P.inst_register.f, P.inst_Is.j0, P.inst_number.f, P.inst_number.j0, P.inst_number.j1, P.inst_number.j2, P.inst_within.f, P.inst_amount.f, P.inst_cond.f, hd, hn, hv.1, hv.2, ht]
theorem is8 (o d n v : Int) (ho : P.inst_Shape.f o = some 8) (hd : 0 ≤ d ∧ d ≤ 31) (hn : 0 ≤ n ∧ n ≤ 31) (hv : 0 ≤ v ∧ v ≤ 4095) : P.inst_Is.f 60 o d n 0 0 v 0 0 0 0 = some true := by
  have ht : Int.tmod v 1 = 0 := by exact Int.tmod_one v
  skip
  unfold P.inst_Is.f
  rw [ho]
  simp [P.inst_has.f, P.inst_has.j0, P.inst_has.j1, P.inst_has.j2, P.inst_register.f, P.inst_Is.j0, P.inst_number.f, P.inst_number.j0, P.inst_number.j1, P.inst_number.j2, P.inst_within.f, P.inst_amount.f, P.inst_cond.f, hd, hn, hv.1, hv.2, ht]
theorem is9 (o d v : Int) (ho : P.inst_Shape.f o = some 9) (hd : 0 ≤ d ∧ d ≤ 31) (hv : (-1048576) ≤ v ∧ v ≤ 1048572) (hm : v % 4 = 0) : P.inst_Is.f 60 o d 0 0 0 v 0 0 0 0 = some true := by
  have ht : Int.tmod v 4 = 0 := Int.tmod_eq_zero_of_dvd (Int.dvd_of_emod_eq_zero hm)
  skip
  unfold P.inst_Is.f
  rw [ho]
  simp [P.inst_has.f, P.inst_has.j0, P.inst_has.j1, P.inst_has.j2, P.inst_register.f, P.inst_Is.j0, P.inst_number.f, P.inst_number.j0, P.inst_number.j1, P.inst_number.j2, P.inst_within.f, P.inst_amount.f, P.inst_cond.f, hd, hv.1, hv.2, ht]
theorem is10 (o d v : Int) (ho : P.inst_Shape.f o = some 10) (hd : 0 ≤ d ∧ d ≤ 31) (hv : (-1048576) ≤ v ∧ v ≤ 1048575) : P.inst_Is.f 60 o d 0 0 0 v 0 0 0 0 = some true := by
  have ht : Int.tmod v 1 = 0 := by exact Int.tmod_one v
  skip
  unfold P.inst_Is.f
  rw [ho]
  simp [P.inst_has.f, P.inst_has.j0, P.inst_has.j1, P.inst_has.j2, P.inst_register.f, P.inst_Is.j0, P.inst_number.f, P.inst_number.j0, P.inst_number.j1, P.inst_number.j2, P.inst_within.f, P.inst_amount.f, P.inst_cond.f, hd, hv.1, hv.2, ht]
theorem is11 (o d v : Int) (ho : P.inst_Shape.f o = some 11) (hd : 0 ≤ d ∧ d ≤ 31) (hd0 : d = 0) (hv : (-134217728) ≤ v ∧ v ≤ 134217724) (hm : v % 4 = 0) : P.inst_Is.f 60 o d 0 0 0 v 0 0 0 0 = some true := by
  have ht : Int.tmod v 4 = 0 := Int.tmod_eq_zero_of_dvd (Int.dvd_of_emod_eq_zero hm)
  skip
  unfold P.inst_Is.f
  rw [ho]
  simp [P.inst_has.f, P.inst_has.j0, P.inst_has.j1, P.inst_has.j2, P.inst_register.f, P.inst_Is.j0, P.inst_number.f, P.inst_number.j0, P.inst_number.j1, P.inst_number.j2, P.inst_within.f, P.inst_amount.f, P.inst_cond.f, hd, hd0, hv.1, hv.2, ht]
theorem is12 (o d v c : Int) (ho : P.inst_Shape.f o = some 12) (hd : 0 ≤ d ∧ d ≤ 31) (hd0 : d = 0) (hc : 0 ≤ c ∧ c ≤ 13) (hv : (-1048576) ≤ v ∧ v ≤ 1048572) (hm : v % 4 = 0) : P.inst_Is.f 60 o d 0 0 0 v 0 0 0 c = some true := by
  have ht : Int.tmod v 4 = 0 := Int.tmod_eq_zero_of_dvd (Int.dvd_of_emod_eq_zero hm)
  have ht1 : Int.tmod c 1 = 0 := Int.tmod_one c
  unfold P.inst_Is.f
  rw [ho]
  simp [P.inst_has.f, P.inst_has.j0, P.inst_has.j1, P.inst_has.j2, P.inst_register.f, P.inst_Is.j0, P.inst_number.f, P.inst_number.j0, P.inst_number.j1, P.inst_number.j2, P.inst_within.f, P.inst_amount.f, P.inst_cond.f, hd, hd0, hc, ht1, hv.1, hv.2, ht]
end Go.Proofs.YtjllhcfcdimbfaaDoor.Pure
