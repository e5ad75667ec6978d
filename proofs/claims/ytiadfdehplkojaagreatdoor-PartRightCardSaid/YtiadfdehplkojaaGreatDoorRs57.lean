/- A word, a quad put behind a section: what it becomes is right. -/
import Derived.Test.YtiadfdehplkojaaGreatDoorRs54
import Derived.Test.YtiadfdehplkojaaGreatDoorRs51
import Derived.Test.YtiadfdehplkojaaGreatDoorRs56
namespace Go.Proofs.YtiadfdehplkojaaGreatDoor.Pure
open Go Go.RowKit Go.Proofs.YtiadfdehplkojaaGreatDoorW.PrintWords Go.Proofs.YtiadfdehplkojaaGreatDoorW.PrintLast Go.Proofs.YtiadfdehplkojaaGreatDoorW.PrintMore
set_option linter.unusedVariables false
set_option linter.unusedSimpArgs false
def lb (v i : Nat) : UInt8 := UInt8.ofNat (v / 2 ^ (8 * i) % 256)
theorem lb_nat (v i : Nat) : (lb v i).toNat = v / 2 ^ (8 * i) % 256 := by
 unfold lb
 rw [UInt8.toNat_ofNat']
 have := Nat.mod_lt (v / 2 ^ (8 * i)) (show 0 < 256 by decide)
 omega
theorem shr_nat (v n : Nat) (hn : n ≤ 64) : shr .u64 (v : Int) (n : Int) = ((v / 2 ^ n : Nat) : Int) := by
 unfold shr
 rw [Int.toNat_natCast, Nat.min_eq_left (by show n ≤ 64; omega)]
 rw [Int.natCast_ediv, Int.natCast_pow]
 rfl
def lbs (v n : Nat) : List UInt8 := (List.range n).map (lb v)
theorem little_ev (v n : Nat) (hn : n ≤ 8) : Ev (fun k => P.part_little.f k (v : Int) (n : Int)) ⟨(lbs v n).toArray⟩ := by
 have go : ∀ (j i : Nat), i + j = n → Ev (fun k => P.part_little.l0 k (v : Int) (n : Int) (i : Int) (lbs v i)) ⟨(lbs v n).toArray⟩ := by
  intro j
  induction j with
  | zero =>
   intro i hi
   obtain rfl : i = n := by omega
   exact Ev.step (fun k => P.part_little.l0.eq_2 _ _ _ _ _) (Ev.congr (fun k => if_neg (by omega)) (Ev.now _))
  | succ j ih =>
   intro i hi
   refine Ev.step (fun k => P.part_little.l0.eq_2 _ _ _ _ _) (Ev.congr (fun k => if_pos (by omega)) ?_)
   have e1 : (8 * (i : Int)) = ((8 * i : Nat) : Int) := by omega
   have e2 : UInt8.ofNat ((shr .u64 (v : Int) (8 * (i : Int))) % 256).toNat = lb v i := by
    rw [e1, shr_nat v (8 * i) (by omega)]
    unfold lb
    congr 1
   have e3 : lbs v i ++ [lb v i] = lbs v (i + 1) := by
    unfold lbs
    rw [List.range_succ, List.map_append]
    rfl
   rw [e2, e3]
   exact ih (i + 1) (by omega)
 unfold P.part_little.f
 exact Ev.congr (fun k => if_pos (by omega)) (go n 0 (by omega))
def wbytes (v n : Nat) : ByteArray := ⟨(lbs v n).toArray⟩
theorem wbytes_size (v n : Nat) : (wbytes v n).size = n := by
 show (lbs v n).toArray.size = n
 simp [lbs]
theorem wbytes_bt (v n i : Nat) (hi : i < n) : bt (wbytes v n) i = ((v / 2 ^ (8 * i) % 256 : Nat) : Int) := by
 have h : i < (wbytes v n).size := by rw [wbytes_size]; exact hi
 unfold bt
 rw [Int.toNat_natCast, dif_pos h]
 have e : (wbytes v n)[i] = lb v i := by
  show (lbs v n).toArray[i]'(by simpa [lbs] using hi) = _
  simp [lbs]
 rw [e, lb_nat]
theorem u32_nat' (a : Nat) (h : a < 4294967296) : (BitVec.ofInt 32 (a : Int)).toNat = a := by
 simp [BitVec.toNat_ofInt]
 omega
theorem or_step (v i : Nat) (hv : v < 4294967296) (hi : i < 4) : Go.bits .or .u32 ((v % 2 ^ (8 * i) : Nat) : Int) (shl .u32 (((v / 2 ^ (8 * i) % 256 : Nat) : Int) % 4294967296) ((8 * i : Nat) : Int)) = ((v % 2 ^ (8 * (i + 1)) : Nat) : Int) := by
 obtain ⟨a, ha⟩ : ∃ a, a = v % 2 ^ (8 * i) := ⟨_, rfl⟩
 obtain ⟨b, hb⟩ : ∃ b, b = v / 2 ^ (8 * i) % 256 := ⟨_, rfl⟩
 have hb256 : b < 256 := by rw [hb]; exact Nat.mod_lt _ (by decide)
 have hp : 0 < 2 ^ (8 * i) := Nat.pow_pos (by decide)
 have ha2 : a < 2 ^ (8 * i) := by rw [ha]; exact Nat.mod_lt _ hp
 have hmm : v % 2 ^ (8 * (i + 1)) = a + 2 ^ (8 * i) * b := by
  rw [ha, hb, Nat.mul_add 8, Nat.pow_add]
  exact Nat.mod_mul
 have hpow : 2 ^ (8 * i) * 256 ≤ 4294967296 := by
  rw [show (4294967296 : Nat) = 2 ^ 32 by decide, show 256 = 2 ^ 8 by decide, ← Nat.pow_add]
  exact Nat.pow_le_pow_right (by decide) (by omega)
 have hm1 : 2 ^ (8 * i) * b + 2 ^ (8 * i) ≤ 2 ^ (8 * i) * 256 := by
  rw [← Nat.mul_succ]
  exact Nat.mul_le_mul_left _ hb256
 rw [← ha, ← hb, hmm]
 have es : shl .u32 (((b : Nat) : Int) % 4294967296) ((8 * i : Nat) : Int) = ((2 ^ (8 * i) * b : Nat) : Int) := by
  unfold shl
  rw [Int.toNat_natCast, Nat.min_eq_left (by show 8 * i ≤ 32; omega), show ((b : Int) % 4294967296) = b by omega]
  have e : ((b : Nat) : Int) * 2 ^ (8 * i) = ((2 ^ (8 * i) * b : Nat) : Int) := by rw [Int.natCast_mul, Int.natCast_pow, Int.mul_comm]; rfl
  rw [e]
  show ((2 ^ (8 * i) * b : Nat) : Int) % 4294967296 = _
  omega
 rw [es]
 show IntKind.u32.wrap ((BitVec.ofInt 32 (a : Int) ||| BitVec.ofInt 32 ((2 ^ (8 * i) * b : Nat) : Int)).toNat : Int) = _
 rw [BitVec.toNat_or, u32_nat' a (by omega), u32_nat' _ (by omega), Nat.or_comm, ← Nat.two_pow_add_eq_or_of_lt ha2]
 show ((2 ^ (8 * i) * b + a : Nat) : Int) % 4294967296 = _
 omega
theorem fits_not_one (w : Nat) (hw : w < 4294967296) : ¬ Ev (fun k => P.part_Fits.f k 1 (w : Int)) true := by
 intro hf
 obtain ⟨r, hr, hgood⟩ := decode_full w hw
 have hof : P.part_Fits.of 1 r = true := by
  have e : Ev (fun k => P.part_Fits.f k 1 (w : Int)) (P.part_Fits.of 1 r) := by
   unfold P.part_Fits.f
   exact Ev.congr (fun k => if_neg (by decide)) (Ev.congr (fun k => if_neg (by decide)) (hr.bind (Ev.now _)))
  exact Ev.one e hf
 unfold P.part_Fits.of at hof
 split at hof
 case isFalse => cases hof
 rename_i herr
 have hg := hgood herr
 split at hof
 case isFalse => cases hof
 split at hof
 case isFalse => cases hof
 split at hof
 case isFalse => cases hof
 obtain ⟨op, h1, h2, _, i, _, hi, hrr, _⟩ := hg
 have hle := of_decide_eq_true hof
 have e0 : rd P.fittingL (2 * 1 + 1) = 0 := by decide
 rw [e0, hrr] at hle
 dsimp only at hle
 omega
theorem over_word (w : Nat) (hw : w < 4294967296) (at_ : Nat) (h4 : at_ % 4 = 0) (kind sym add : Int) (hf : Ev (fun k => P.part_Fits.f k kind (w : Int)) true) : OverB 1 ⟨(at_ : Int), kind, sym, add⟩ (wbytes w 4) true := by
 have hk : kind ≠ 1 := fun e => fits_not_one w hw (e ▸ hf)
 have go : ∀ (j i : Nat), i + j = 4 → Ev (fun k => P.part_over.l0 k (wbytes w 4) ((w % 2 ^ (8 * i) : Nat) : Int) (i : Int) (at_ : Int) kind sym add) true := by
  intro j
  induction j with
  | zero =>
   intro i hi
   obtain rfl : i = 4 := by omega
   refine Ev.step (fun k => P.part_over.l0.eq_2 _ _ _ _ _ _ _ _) (Ev.congr (fun k => if_neg (by omega)) ?_)
   rw [show w % 2 ^ (8 * 4) = w from Nat.mod_eq_of_lt (Nat.lt_of_lt_of_eq hw (by decide))]
   exact Ev.bind hf (Ev.now _)
  | succ j ih =>
   intro i hi
   have e1 : wrap64 ((i : Int) + 1) = ((i + 1 : Nat) : Int) := by rw [wrap64_small _ (by omega) (by omega)]; rfl
   have e8 : wrap64 (8 * (i : Int)) = ((8 * i : Nat) : Int) := by rw [wrap64_small _ (by omega) (by omega)]; omega
   refine Ev.step (fun k => P.part_over.l0.eq_2 _ _ _ _ _ _ _ _) (Ev.congr (fun k => if_pos (by omega)) (Ev.congr (fun k => if_pos (by omega)) (Ev.congr (fun k => if_pos (by rw [wbytes_size]; omega)) ?_)))
   rw [e8, wbytes_bt w 4 i (by omega), or_step w i hw (by omega), e1]
   exact Ev.congr (fun k => if_pos (by omega)) (ih (i + 1) (by omega))
 have ht : (Int.tmod (at_ : Int) 4 != 0) = false := by
  rw [Int.tmod_eq_emod_of_nonneg (by omega)]
  simp
  omega
 unfold OverB P.part_over.f
 refine Ev.congr (fun k => if_neg hk) (Ev.congr (fun k => if_pos rfl) ?_)
 rw [ht]
 have h0 := go 4 0 (by omega)
 rw [show w % 2 ^ (8 * 0) = 0 by simp [Nat.mod_one]] at h0
 exact Ev.step (fun k => P.part_over.j0.eq_2 _ _ _ _ _ _ _) (Ev.congr (fun k => if_neg (by decide)) h0)
theorem over_quad (kd : Int) (at_ sym add : Int) : OverB kd ⟨at_, 1, sym, add⟩ (wbytes 0 8) true := by
 have e : P.strings_Count.f (wbytes 0 8) (⟨#[0]⟩ : ByteArray) = some 8 := by decide
 unfold OverB P.part_over.f
 refine Ev.congr (fun k => if_pos rfl) ?_
 rw [e, wbytes_size]
 exact Ev.now true
def WordB (s : Sc) (w kind sym add : Int) (r : Sc) (e : Int) : Prop := Ev (fun k => P.part_Word.f k s.n s.kd s.keep s.al s.data s.rels w kind sym add) (r.n, r.kd, r.keep, r.al, r.data, r.rels, e)
def QuadB (s : Sc) (v sym add : Int) (r : Sc) (e : Int) : Prop := Ev (fun k => P.part_Quad.f k s.n s.kd s.keep s.al s.data s.rels v sym add) (r.n, r.kd, r.keep, r.al, r.data, r.rels, e)
/-- What a section has become: nothing, or a right one that begins as it did. -/
def Grows (s t : Sc) (e : Int) : Prop := (e ≠ 0 ∧ t = Sc.zero) ∨ (e = 0 ∧ Right t ∧ ∃ (more : ByteArray) (mr : List P.S61) (a : Int), s.al ≤ a ∧ t = { s with data := s.data ++ more, rels := s.rels ++ mr, al := a })
theorem grow_rel (s : Sc) (d : ByteArray) (r : P.S61) (hs : s.data.size ≤ 5000) (hr : s.rels.length ≤ 80) (hd : d.size ≤ 20000) :
 P.part_grow.f d [r] s.n s.kd s.keep s.al s.data s.rels = if 4096 < s.data.size + d.size ∨ 64 < s.rels.length + 1 then some (⟨#[]⟩, 0, false, 0, ⟨#[]⟩, [], 2) else some (s.n, s.kd, s.keep, s.al, s.data ++ d, s.rels ++ [r], 0) := by
 unfold P.part_grow.f
 have e1 : wrap64 (4096 - (s.data.size : Int)) = 4096 - (s.data.size : Int) := wrap64_small _ (by omega) (by omega)
 have e2 : wrap64 ((s.rels.length : Int) + (([r] : List P.S61).length : Int)) = (s.rels.length : Int) + 1 := by
  rw [show ((([r] : List P.S61).length : Nat) : Int) = 1 from rfl]
  exact wrap64_small _ (by omega) (by omega)
 rw [e1, e2]
 by_cases c1 : (d.size : Int) > 4096 - (s.data.size : Int)
 ·rw [if_pos c1, if_pos (show 4096 < s.data.size + d.size ∨ 64 < s.rels.length + 1 from .inl (by omega))]
 ·rw [if_neg c1]
  by_cases c2 : (s.rels.length : Int) + 1 > 64
  ·rw [if_pos c2, if_pos (show 4096 < s.data.size + d.size ∨ 64 < s.rels.length + 1 from .inr (by omega))]
  ·rw [if_neg c2, if_neg (show ¬ (4096 < s.data.size + d.size ∨ 64 < s.rels.length + 1) by omega), if_pos (show s.data.size + d.size ≤ 9223372036854775807 by omega), if_pos (show ([] : List P.S61).length + s.rels.length < 4398046511104 by simp; omega), Option.bind_some, if_pos (by simp; omega)]
   simp
theorem ends_cases (s : Sc) : (IsB s true ∧ Right s) ∨ (IsB s false ∧ ¬ Right s) := by
 obtain ⟨b, hb⟩ := isB_ends s
 cases b with
 | true => exact .inl ⟨hb, (is_iff s).1 hb⟩
 | false => exact .inr ⟨hb, fun h => absurd (isB_one hb ((is_iff s).2 h)) (by decide)⟩
theorem put_grows (s : Sc) (hs : Small s) (d : ByteArray) (hd : d.size ≤ 20000) : ∃ r e, PutB s d r e ∧ Grows s r e ∧ (¬ Right s → e = 1) := by
 rcases ends_cases s with ⟨hb, hR⟩ | ⟨hb, hR⟩
 ·have h := put_of s d hs.1 hs.2 hd true hb
  rw [if_pos rfl] at h
  by_cases c : 4096 < s.data.size + d.size ∨ 64 < s.rels.length
  ·rw [if_pos c] at h
   exact ⟨_, _, h, .inl ⟨by decide, rfl⟩, fun k => absurd hR k⟩
  ·rw [if_neg c] at h
   exact ⟨_, _, h, .inr ⟨rfl, right_more hR d (by omega), d, [], s.al, Int.le_refl _, by rw [List.append_nil]⟩, fun k => absurd hR k⟩
 ·have h := put_of s d hs.1 hs.2 hd false hb
  rw [if_neg (by decide)] at h
  exact ⟨_, _, h, .inl ⟨by decide, rfl⟩, fun _ => rfl⟩
theorem align_grows (s : Sc) (hs : Small s) (m : Int) : ∃ r e, AlignB s m r e ∧ Grows s r e ∧ (¬ Right s → e = 1) := by
 rcases ends_cases s with ⟨hb, hR⟩ | ⟨hb, hR⟩
 ·have h := align_of s hs m true hb
  rw [if_pos rfl] at h
  by_cases c : m < 0 ∨ 12 < m
  ·rw [if_pos c] at h
   exact ⟨_, _, h, .inl ⟨by decide, rfl⟩, fun k => absurd hR k⟩
  ·rw [if_neg c] at h
   by_cases c3 : 4096 < s.data.size + pad s m.toNat ∨ 64 < s.rels.length
   ·rw [if_pos c3] at h
    exact ⟨_, _, h, .inl ⟨by decide, rfl⟩, fun k => absurd hR k⟩
   ·rw [if_neg c3] at h
    have hmx : 0 ≤ mx s.al m ∧ mx s.al m ≤ 12 ∧ s.al ≤ mx s.al m := by have := hR.al; unfold mx; split <;> omega
    have hR2 := right_more hR (zeros (pad s m.toNat)) (by rw [zeros_size]; omega)
    have hR3 : Right { s with data := s.data ++ zeros (pad s m.toNat), al := mx s.al m } := ⟨hR2.name, hR2.kind, ⟨hmx.1, hmx.2.1⟩, hR2.data, hR2.rels, hR2.each⟩
    exact ⟨_, _, h, .inr ⟨rfl, hR3, _, [], _, hmx.2.2, by rw [List.append_nil]⟩, fun k => absurd hR k⟩
 ·have h := align_of s hs m false hb
  rw [if_neg (by decide)] at h
  exact ⟨_, _, h, .inl ⟨by decide, rfl⟩, fun _ => rfl⟩
theorem word_grows (s : Sc) (hs : Small s) (w : Nat) (hw : w < 4294967296) (kind sym add : Int) : ∃ r e, WordB s (w : Int) kind sym add r e ∧ Grows s r e ∧ (¬ Right s → e = 1) := by
 have ew : IntKind.u64.wrap (w : Int) = (w : Int) := by show (w : Int) % 18446744073709551616 = w; omega
 have hl := little_ev w 4 (by decide)
 rcases ends_cases s with ⟨hb, hR⟩ | ⟨hb, hR⟩
 ·have fell : ∀ e : Int, e ≠ 0 → WordB s (w : Int) kind sym add Sc.zero e → ∃ r e, WordB s (w : Int) kind sym add r e ∧ Grows s r e ∧ (¬ Right s → e = 1) := fun e he h => ⟨_, _, h, .inl ⟨he, rfl⟩, fun k => absurd hR k⟩
  by_cases c4 : ((s.data.size : Int) % 4) = 0
  case neg =>
   refine fell 5 (by decide) ?_
   unfold WordB P.part_Word.f
   exact Ev.bind hb (Ev.congr (fun k => if_pos rfl) (Ev.congr (fun k => if_neg c4) (Ev.now _)))
  have hl2 : Ev (fun k => P.part_little.f k (IntKind.u64.wrap (w : Int)) 4) (wbytes w 4) := by rw [ew]; exact hl
  by_cases c0 : kind = 0
  ·have hg := grow_plain s (wbytes w 4) hs.1 hs.2 (by rw [wbytes_size]; decide)
   rw [wbytes_size] at hg
   by_cases c : 4096 < s.data.size + 4 ∨ 64 < s.rels.length
   ·rw [if_pos c] at hg
    refine fell 2 (by decide) ?_
    unfold WordB P.part_Word.f
    refine Ev.bind hb (Ev.congr (fun k => if_pos rfl) (Ev.congr (fun k => if_pos c4) (Ev.bind hl2 (Ev.congr (fun k => if_pos c0) ?_))))
    rw [hg]
    exact Ev.now _
   ·rw [if_neg c] at hg
    have h : WordB s (w : Int) kind sym add { s with data := s.data ++ wbytes w 4 } 0 := by
     unfold WordB P.part_Word.f
     refine Ev.bind hb (Ev.congr (fun k => if_pos rfl) (Ev.congr (fun k => if_pos c4) (Ev.bind hl2 (Ev.congr (fun k => if_pos c0) ?_))))
     rw [hg]
     exact Ev.now _
    exact ⟨_, _, h, .inr ⟨rfl, right_more hR _ (by rw [wbytes_size]; omega), _, [], s.al, Int.le_refl _, by rw [List.append_nil]⟩, fun k => absurd hR k⟩
  ·by_cases c1 : s.kd = 1
   case neg =>
    refine fell 1 (by decide) ?_
    unfold WordB P.part_Word.f
    exact Ev.bind hb (Ev.congr (fun k => if_pos rfl) (Ev.congr (fun k => if_pos c4) (Ev.bind hl2 (Ev.congr (fun k => if_neg c0) (Ev.congr (fun k => if_neg c1) (Ev.now _))))))
   obtain ⟨f, hf⟩ := fits_ends kind w hw
   cases f with
   | false =>
    refine fell 1 (by decide) ?_
    unfold WordB P.part_Word.f
    exact Ev.bind hb (Ev.congr (fun k => if_pos rfl) (Ev.congr (fun k => if_pos c4) (Ev.bind hl2 (Ev.congr (fun k => if_neg c0) (Ev.congr (fun k => if_pos c1) (Ev.bind hf (Ev.congr (fun k => if_neg (by decide)) (Ev.now _))))))))
   | true =>
    by_cases cs : sym < 0
    ·refine fell 1 (by decide) ?_
     unfold WordB P.part_Word.f
     exact Ev.bind hb (Ev.congr (fun k => if_pos rfl) (Ev.congr (fun k => if_pos c4) (Ev.bind hl2 (Ev.congr (fun k => if_neg c0) (Ev.congr (fun k => if_pos c1) (Ev.bind hf (Ev.congr (fun k => if_pos rfl) (Ev.congr (fun k => if_pos cs) (Ev.now _)))))))))
    ·have hg := grow_rel s (wbytes w 4) ⟨(s.data.size : Int), kind, sym, add⟩ hs.1 hs.2 (by rw [wbytes_size]; decide)
     rw [wbytes_size] at hg
     by_cases c : 4096 < s.data.size + 4 ∨ 64 < s.rels.length + 1
     ·rw [if_pos c] at hg
      refine fell 2 (by decide) ?_
      unfold WordB P.part_Word.f
      refine Ev.bind hb (Ev.congr (fun k => if_pos rfl) (Ev.congr (fun k => if_pos c4) (Ev.bind hl2 (Ev.congr (fun k => if_neg c0) (Ev.congr (fun k => if_pos c1) (Ev.bind hf (Ev.congr (fun k => if_pos rfl) (Ev.congr (fun k => if_neg cs) ?_))))))))
      rw [hg]
      exact Ev.now _
     ·rw [if_neg c] at hg
      have h : WordB s (w : Int) kind sym add { s with data := s.data ++ wbytes w 4, rels := s.rels ++ [⟨(s.data.size : Int), kind, sym, add⟩] } 0 := by
       unfold WordB P.part_Word.f
       refine Ev.bind hb (Ev.congr (fun k => if_pos rfl) (Ev.congr (fun k => if_pos c4) (Ev.bind hl2 (Ev.congr (fun k => if_neg c0) (Ev.congr (fun k => if_pos c1) (Ev.bind hf (Ev.congr (fun k => if_pos rfl) (Ev.congr (fun k => if_neg cs) ?_))))))))
       rw [hg]
       exact Ev.now _
      have hk : kind ≠ 1 := fun e => fits_not_one w hw (e ▸ hf)
      have ho : OverB s.kd ⟨(s.data.size : Int), kind, sym, add⟩ (wbytes w 4) true := by rw [c1]; exact over_word w hw s.data.size (by omega) kind sym add hf
      exact ⟨_, _, h, .inr ⟨rfl, right_rel hR _ _ (by rw [wbytes_size]; omega) (by omega) rfl (by rw [wbytes_size]; unfold szR; rw [if_neg hk]; rfl) (by show 0 ≤ sym; omega) ho, _, _, s.al, Int.le_refl _, rfl⟩, fun k => absurd hR k⟩
 ·refine ⟨_, _, ?_, .inl ⟨(show (1 : Int) ≠ 0 by decide), rfl⟩, fun _ => rfl⟩
  unfold WordB P.part_Word.f
  exact Ev.bind hb (Ev.congr (fun k => if_neg (by decide)) (Ev.now _))
theorem quad_grows (s : Sc) (hs : Small s) (v : Nat) (hv : v < 18446744073709551616) (sym add : Int) : ∃ r e, QuadB s (v : Int) sym add r e ∧ Grows s r e ∧ (¬ Right s → e = 1) := by
 rcases ends_cases s with ⟨hb, hR⟩ | ⟨hb, hR⟩
 ·by_cases cs : sym < 0
  ·have hl := little_ev v 8 (by decide)
   have hg := grow_plain s (wbytes v 8) hs.1 hs.2 (by rw [wbytes_size]; decide)
   rw [wbytes_size] at hg
   by_cases c : 4096 < s.data.size + 8 ∨ 64 < s.rels.length
   ·rw [if_pos c] at hg
    refine ⟨_, _, ?_, .inl ⟨(show (2 : Int) ≠ 0 by decide), rfl⟩, fun k => absurd hR k⟩
    unfold QuadB P.part_Quad.f
    refine Ev.bind hb (Ev.congr (fun k => if_pos rfl) (Ev.congr (fun k => if_pos cs) (Ev.bind hl ?_)))
    show Ev (fun k => (P.part_grow.f (wbytes v 8) [] s.n s.kd s.keep s.al s.data s.rels).bind _) _
    rw [hg]
    exact Ev.now _
   ·rw [if_neg c] at hg
    refine ⟨{ s with data := s.data ++ wbytes v 8 }, 0, ?_, .inr ⟨rfl, right_more hR _ (by rw [wbytes_size]; omega), _, [], s.al, Int.le_refl _, by rw [List.append_nil]⟩, fun k => absurd hR k⟩
    unfold QuadB P.part_Quad.f
    refine Ev.bind hb (Ev.congr (fun k => if_pos rfl) (Ev.congr (fun k => if_pos cs) (Ev.bind hl ?_)))
    show Ev (fun k => (P.part_grow.f (wbytes v 8) [] s.n s.kd s.keep s.al s.data s.rels).bind _) _
    rw [hg]
    exact Ev.now _
  ·have hl := little_ev 0 8 (by decide)
   have hg := grow_rel s (wbytes 0 8) ⟨(s.data.size : Int), 1, sym, add⟩ hs.1 hs.2 (by rw [wbytes_size]; decide)
   rw [wbytes_size] at hg
   by_cases c : 4096 < s.data.size + 8 ∨ 64 < s.rels.length + 1
   ·rw [if_pos c] at hg
    refine ⟨_, _, ?_, .inl ⟨(show (2 : Int) ≠ 0 by decide), rfl⟩, fun k => absurd hR k⟩
    unfold QuadB P.part_Quad.f
    refine Ev.bind hb (Ev.congr (fun k => if_pos rfl) (Ev.congr (fun k => if_neg cs) (Ev.bind hl ?_)))
    show Ev (fun k => (P.part_grow.f (wbytes 0 8) [⟨(s.data.size : Int), 1, sym, add⟩] s.n s.kd s.keep s.al s.data s.rels).bind _) _
    rw [hg]
    exact Ev.now _
   ·rw [if_neg c] at hg
    refine ⟨{ s with data := s.data ++ wbytes 0 8, rels := s.rels ++ [⟨(s.data.size : Int), 1, sym, add⟩] }, 0, ?_, .inr ⟨rfl, right_rel hR _ _ (by rw [wbytes_size]; omega) (by omega) rfl (by rw [wbytes_size]; rfl) (by show 0 ≤ sym; omega) (over_quad _ _ _ _), _, _, s.al, Int.le_refl _, rfl⟩, fun k => absurd hR k⟩
    unfold QuadB P.part_Quad.f
    refine Ev.bind hb (Ev.congr (fun k => if_pos rfl) (Ev.congr (fun k => if_neg cs) (Ev.bind hl ?_)))
    show Ev (fun k => (P.part_grow.f (wbytes 0 8) [⟨(s.data.size : Int), 1, sym, add⟩] s.n s.kd s.keep s.al s.data s.rels).bind _) _
    rw [hg]
    exact Ev.now _
 ·refine ⟨_, _, ?_, .inl ⟨(show (1 : Int) ≠ 0 by decide), rfl⟩, fun _ => rfl⟩
  unfold QuadB P.part_Quad.f
  exact Ev.bind hb (Ev.congr (fun k => if_neg (by decide)) (Ev.now _))
end Go.Proofs.YtiadfdehplkojaaGreatDoor.Pure
