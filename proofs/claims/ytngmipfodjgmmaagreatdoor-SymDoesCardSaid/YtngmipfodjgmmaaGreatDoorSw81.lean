/- Walks and plain laws of this claim, a part. -/
import Derived.Test.YtngmipfodjgmmaaGreatDoorSw77
set_option maxRecDepth 100000
set_option maxHeartbeats 2000000
set_option linter.unusedVariables false
set_option linter.unusedSimpArgs false
section
namespace Go.Proofs.YtngmipfodjgmmaaGreatDoor.Pure
open Go Go.RowKit YtngmipfodjgmmaaGreatDoorW.PrintWords YtngmipfodjgmmaaGreatDoorW.PrintLast YtngmipfodjgmmaaGreatDoorW.PrintMore
theorem mem_ahead {os : List Ob} {i j o k : Nat} (hl : LexLt i j o k) (hj : j < nsy os i) : ((i, j, syN os i j) : Tg) ∈ preS os o k := by
 rw [mem_pre]
 rcases hl with c | ⟨rfl, c⟩
 ·exact .inl ⟨i, j, c, hj, rfl⟩
 ·exact .inr ⟨j, c, rfl⟩
theorem of_ahead {os : List Ob} {o k : Nat} {t : Tg} (h : t ∈ preS os o k) : ∃ i j, LexLt i j o k ∧ (i < o → j < nsy os i) ∧ t = (i, j, syN os i j) := by
 rcases mem_pre.1 h with ⟨i, j, h1, h2, h3⟩ | ⟨j, h1, h2⟩
 ·exact ⟨i, j, .inl h1, fun _ => h2, h3⟩
 ·exact ⟨o, j, .inr ⟨rfl, h1⟩, fun c => absurd c (Nat.lt_irrefl _), h2⟩
theorem strong_iff {s : Sy} : strongQ s = true ↔ s.f1 = 2 ∧ 0 ≤ s.f2 := decide_eq_true_iff
theorem weak_iff {s : Sy} : weakQ s = true ↔ s.f1 = 3 ∧ 0 ≤ s.f2 := decide_eq_true_iff
/-- How many of a kind and a name there are. -/
def cnt (q : Sy → Bool) (L : List Tg) (n : ByteArray) : Nat := L.countP (hit q n)
end Go.Proofs.YtngmipfodjgmmaaGreatDoor.Pure
end
section
namespace Go.Proofs.YtngmipfodjgmmaaGreatDoor.Pure
open Go Go.RowKit Go.Lib Go.Shelf Go.Maps YtngmipfodjgmmaaGreatDoorW.PrintWords YtngmipfodjgmmaaGreatDoorW.PrintLast YtngmipfodjgmmaaGreatDoorW.PrintMore
open P (Glob)
def ChkPost (os : List Ob) (w : World) (e : Ending) (w' : World) : Prop := ∃ n, e = .returned (.int .i64 n) ∧ ChkCode os n ∧ Below w.heap.size w w'
theorem tame_of {os : List Ob} (h : AllOkO os) (hf : FewL os) : Tame os := ⟨hf.1, fun i hi => ⟨(hf.2 i hi).syms, fun k hk => ⟨(hf.2 i hi).sym k hk, (h.2 i hi).bind hk⟩⟩⟩
theorem check_any (w : World) (A : Option Addr) (c : Nat) (os : List Ob) (hG : Glob w) (hos : OA w A os) (hc : os.length ≤ c) (hf : FewL os) :
 Calls Tryz.prog 26 #[.slice A os.length c] w (ChkPost os w) := by
 have HG := Azz.mk hG
 have HO := Azz.mk hos
 have HF := Azz.mk hf
 have hol := hf.1
 clear hG hos hf
 by_cases h8 : (8 : Int) < os.length
 ·go_enter Tryz.func26, Tryz.ntmps26
  go_wp2
  go_ret
  exact ⟨2, rfl, .inl ⟨by omega, rfl⟩, Below.refl _ _⟩
 go_enter Tryz.func26, Tryz.ntmps26
 go_wp2
 go_loopw [10] (fun v wr => ∃ i : Nat, i ≤ os.length ∧ v = .int .i64 i ∧ Azz (∀ k, k < i → ObOk (obN os k)) ∧ Azz (Below w.heap.size w wr)) (fun v _ => os.length - (RowKit.intOf v).toNat)
 case atStart => exact ⟨0, Nat.zero_le _, rfl, ⟨fun k h => absurd h (Nat.not_lt_zero _)⟩, ⟨Below.refl _ _⟩⟩
 case round =>
  obtain ⟨i, hi, rfl, HK, HB⟩ := hrel
  by_cases hlt : i < os.length
  ·obtain ⟨ad, A0, c0, A1, c1, e, x0, x1, l0, C0, l1, C1⟩ := P.at_T68 HO.out i (by omega) (by omega)
   subst e
   rw [Int.toNat_natCast] at x0 x1
   replace x0 := keepS x0 HB.out
   replace x1 := keepS x1 HB.out
   obtain ⟨o, ho⟩ : ∃ o, obN os i = o := ⟨_, rfl⟩
   have HSe := Azz.mk ho
   unfold obN at ho
   rw [ho] at x0 x1 l0 C0 l1 C1
   clear ho
   have HC := Azz.mk (And.intro C0 C1)
   have hFo := HF.out.2 i hlt
   rw [HSe.out] at hFo
   have HFo := Azz.mk hFo
   have hi0 : (0 : Int) ≤ (i : Int) := by omega
   have hi1 : (i : Int) < os.length := by omega
   clear C0 C1 hFo
   go_wp2_with fail
   (with_reducible refine (objIs_any _ A0 A1 c0 c1 o (HG.out.below (HB.out.alloc HB.out.size _)) (Kd.C_below HC.out.1 (HB.out.alloc HB.out.size _)) l0 (Kd.C_below HC.out.2 (HB.out.alloc HB.out.size _)) l1 HFo.out).mono ?_)
   rintro e w2 ⟨b, rfl, hb, hw⟩
   have HB2 := Azz.mk (bTT (HB.out.alloc HB.out.size _) hw)
   have HBi := Azz.mk hb
   clear hb hw HB x0 x1
   cases b with
   | false =>
    go_wp2
    go_ret
    exact ⟨1, rfl, .inr (.inl ⟨by omega, rfl, fun h => by have := h i hlt; rw [HSe.out] at this; exact absurd (HBi.out.2 this) (by decide)⟩), HB2.out⟩
   | true =>
    go_wp2
    go_roundw
    case rel => exact ⟨i + 1, by omega, by go_num, ⟨upto1 HK.out (by rw [HSe.out]; exact HBi.out.1 (by simp))⟩, HB2⟩
    case measure => simp [RowKit.intOf]; omega
  ·obtain rfl : i = os.length := by omega
   go_wp2
   go_ret
   exact ⟨0, rfl, .inr (.inr ⟨⟨by omega, HK.out⟩, rfl⟩), HB.out⟩
/-- What 'Find' tells. -/
def findS (os : List Ob) (n : ByteArray) (r : Option Pl) : Prop := (AllOkO os ∧ 0 < n.size ∧ r = placeS os n) ∨ (¬ (AllOkO os ∧ 0 < n.size) ∧ r = none)
def FindPost (os : List Ob) (n : ByteArray) (w : World) (e : Ending) (w' : World) : Prop := ∃ r, findS os n r ∧ e = .returned (.tuple #[plV (r.getD ⟨0, 0, 0⟩), .bool r.isSome]) ∧ Below w.heap.size w w'
theorem find_no {os : List Ob} {n : ByteArray} (h : ¬ (AllOkO os ∧ 0 < n.size)) {w w' : World} (hb : Below w.heap.size w w') : FindPost os n w (.returned (.tuple #[.agg #[.int .i64 0, .int .i64 0, .int .i64 0], .bool false])) w' := ⟨none, .inr ⟨h, rfl⟩, rfl, hb⟩
theorem set3_same (w : World) (g t : Nat) (a b c x y z : Value) (h : w.heap[g]? = some (.cells #[a, b, c] t (0, 0))) : (((w.setCell ⟨g, 0, none⟩ x).setCell ⟨g, 1, none⟩ y).setCell ⟨g, 2, none⟩ z).heap[g]? = some (.cells #[x, y, z] t (0, 0)) := by
 have one : ∀ (w : World) (cs : Array Value) (i : Nat) (v : Value), w.heap[g]? = some (.cells cs t (0, 0)) → (w.setCell ⟨g, i, none⟩ v).heap[g]? = some (.cells (cs.setIfInBounds i v) t (0, 0)) := by
  intro w cs i v h
  obtain ⟨hlt, hk2⟩ := Array.getElem?_eq_some_iff.1 h
  show (w.heap.modify g _)[g]? = _
  rw [Array.getElem?_eq_getElem (by rw [Array.size_modify]; exact hlt), Array.getElem_modify_self, hk2]
  simp
 exact one _ _ 2 z (one _ _ 1 y (one _ _ 0 x h))
theorem find_any (w : World) (A : Option Addr) (c : Nat) (os : List Ob) (n : ByteArray) (hG : Glob w) (hos : OA w A os) (hc : os.length ≤ c) (hf : FewL os) (hn : n.size ≤ 100) :
 Calls Tryz.prog 22 #[.slice A os.length c, .string n] w (FindPost os n w) := by
 have HG := Azz.mk hG
 have HO := Azz.mk hos
 have HF := Azz.mk hf
 clear hG hos hf
 have hb0 := (Below.refl w.heap.size w).alloc (Nat.le_refl _) (.cells #[.int .i64 0, .int .i64 0, .int .i64 0] 49)
 have HB0 := Azz.mk hb0
 clear hb0
 by_cases hz : n.toList = []
 ·have e0 : (n.toList == ([] : List UInt8)) = true := by rw [hz]; rfl
  have e1 : n.toList.isEmpty = true := by rw [hz]; rfl
  have hs := size_of_nil hz
  clear hz
  go_enter Tryz.func22, Tryz.ntmps22
  go_wp2
  refine bodyPost_ret (v := .tuple #[.agg #[.int .i64 0, .int .i64 0, .int .i64 0], .bool false]) (by simp [results, Tryz.results22, go_sem]) rfl (find_no (fun h => by omega) ?_)
  exact HB0.out
 ·have e0 : (n.toList == ([] : List UInt8)) = false := beq_eq_false_iff_ne.mpr hz
  have e1 : n.toList.isEmpty = false := by cases h : n.toList with | nil => exact absurd h hz | cons a b => rfl
  have hp : 0 < n.size := by
   rcases Nat.eq_zero_or_pos n.size with h | h
   ·exact absurd (nil_of_size h) hz
   ·exact h
  clear hz
  go_enter Tryz.func22, Tryz.ntmps22
  go_wp2_with fail
  (with_reducible refine (check_any _ A c os (HG.out.below HB0.out) (Kd.C_below HO.out HB0.out) hc HF.out).mono ?_)
  rintro e w2 ⟨m, rfl, hm, hw⟩
  have HB2 := Azz.mk (bTT HB0.out hw)
  have HK2 := Azz.mk (kBB (blk_new w _) hw)
  clear hw
  have bad : ¬ AllOkO os → ∀ w', Below w.heap.size w w' → FindPost os n w (.returned (.tuple #[.agg #[.int .i64 0, .int .i64 0, .int .i64 0], .bool false])) w' := fun h w' hb => find_no (fun k => h k.1) hb
  have HBad := Azz.mk bad
  clear bad
  have HM := Azz.mk hm
  rcases hm with ⟨_, rfl⟩ | ⟨_, rfl, _⟩ | ⟨hok, rfl⟩
  ·obtain ⟨y0, y1, y2⟩ := cq3 HK2.out
   have yf := frzq HK2.out
   go_wp2
   refine bodyPost_ret (v := .tuple #[.agg #[.int .i64 0, .int .i64 0, .int .i64 0], .bool false]) (by simp [results, Tryz.results22, go_sem, y0, y1, y2]) rfl (HBad.out (fun h => by have := HM.out.ok.2 h; omega) _ ?_)
   exact ((HB2.out.setCell (p := ⟨w.heap.size, 0, none⟩) (Nat.le_refl _) _).setCell (p := ⟨w.heap.size, 1, none⟩) (Nat.le_refl _) _).setCell (p := ⟨w.heap.size, 2, none⟩) (Nat.le_refl _) _
  ·obtain ⟨y0, y1, y2⟩ := cq3 HK2.out
   have yf := frzq HK2.out
   go_wp2
   refine bodyPost_ret (v := .tuple #[.agg #[.int .i64 0, .int .i64 0, .int .i64 0], .bool false]) (by simp [results, Tryz.results22, go_sem, y0, y1, y2]) rfl (HBad.out (fun h => by have := HM.out.ok.2 h; omega) _ ?_)
   exact ((HB2.out.setCell (p := ⟨w.heap.size, 0, none⟩) (Nat.le_refl _) _).setCell (p := ⟨w.heap.size, 1, none⟩) (Nat.le_refl _) _).setCell (p := ⟨w.heap.size, 2, none⟩) (Nat.le_refl _) _
  ·have HOk := Azz.mk hok
   clear hok HM
   go_wp2_with fail
   (with_reducible refine (places_any _ A c os (Kd.C_below HO.out HB2.out) hc (tame_of HOk.out HF.out)).mono ?_)
   rintro e w3 ⟨sm, k, rfl, hm3, hw3, _, _⟩
   have HB3 := Azz.mk (bTT HB2.out hw3)
   have HK3 := Azz.mk (kBB HK2.out hw3)
   have HM3 := Azz.mk hm3
   clear hw3 hm3 HK2 HB2
   obtain ⟨r, hr⟩ : ∃ r, placeS os n = r := ⟨_, rfl⟩
   have HR := Azz.mk hr
   obtain ⟨⟨q1, q2, q3⟩, hq⟩ : ∃ q : Pl, r.getD ⟨0, 0, 0⟩ = q := ⟨_, rfl⟩
   obtain ⟨y, hy⟩ : ∃ y, r.isSome = y := ⟨_, rfl⟩
   have HQ := Azz.mk (And.intro hq hy)
   have c3 := fun o => cq3 (kAA HK3.out o)
   have f3 := fun o => frzq (kAA HK3.out o)
   obtain ⟨y0, y1, y2⟩ := c3 (.cells #[.int .i64 q1, .int .i64 q2, .int .i64 q3] 49)
   clear hr hq hy
   go_wp2_with (at_lookup; refine wpl_plook _ rfl _ _ rfl sm _ _ n q1 q2 q3 y rfl HM3.out rfl hn (by rw [HR.out]; exact HQ.out.1) (by rw [HR.out]; exact HQ.out.2) ?_)
   refine bodyPost_ret (v := .tuple #[.agg #[.int .i64 q1, .int .i64 q2, .int .i64 q3], .bool y]) (by simp [results, Tryz.results22, go_sem, y0, y1, y2]) rfl ⟨r, .inl ⟨HOk.out, hp, HR.out.symm⟩, by rw [HQ.out.1, HQ.out.2]; rfl, ?_⟩
   exact (((HB3.out.alloc HB3.out.size _).setCell (p := ⟨w.heap.size, 0, none⟩) (Nat.le_refl _) _).setCell (p := ⟨w.heap.size, 1, none⟩) (Nat.le_refl _) _).setCell (p := ⟨w.heap.size, 2, none⟩) (Nat.le_refl _) _
/-- A fault's cells. -/
abbrev FB (W : World) (b : Nat) (c o k : Int) : Prop := W.heap[b]? = some (.cells #[.int .i64 c, .int .i64 o, .int .i64 k] 45 (0, 0))
def StrongIn (L : List Tg) (n : ByteArray) : Prop := ∃ u, firstS strongQ L n = some u
theorem strongIn_no {L : List Tg} {t : Tg} (h : strongQ t.2.2 = false) (n : ByteArray) : StrongIn L n ↔ StrongIn (L ++ [t]) n := by
 unfold StrongIn
 rw [firstS_snoc_no h]
theorem strongIn_new {L : List Tg} {t : Tg} (h : strongQ t.2.2 = true) (n : ByteArray) : (n = t.2.2.f0 ∨ StrongIn L n) ↔ StrongIn (L ++ [t]) n := by
 unfold StrongIn
 rw [firstS_snoc]
 constructor
 ·rintro (rfl | ⟨u, hu⟩)
  ·cases c : firstS strongQ L t.2.2.f0 with
   | some u => exact ⟨u, rfl⟩
   | none => exact ⟨t, by simp [hit, h]⟩
  ·exact ⟨u, by rw [hu]; rfl⟩
 ·rintro ⟨u, hu⟩
  cases c : firstS strongQ L n with
  | some v => exact .inr ⟨v, rfl⟩
  | none =>
   rw [c] at hu
   by_cases e : hit strongQ n t = true
   ·simp only [hit, Bool.and_eq_true, decide_eq_true_iff] at e
    exact .inl e.2.symm
   ·simp [e] at hu
structure R1 (B : Nat) (w0 : World) (os : List Ob) (sb fb sm : Nat) (o k : Nat) (W : World) : Prop where
 sbox : Boxed W sb 82 (.map (some sm))
 fblk : FB W fb 0 0 0
 smap : NMap W sm (preS os o k).length (StrongIn (preS os o k))
 notw : NoTw os o k
 below : Below B w0 W
 base : B ≤ sb ∧ B ≤ fb ∧ B ≤ sm
theorem box_ne_nmap {w : World} {b m : Nat} {cs : Array Value} {t : TypeId} {n : Nat} {S : ByteArray → Prop} (h : w.heap[b]? = some (.cells cs t (0, 0))) (hm : NMap w m n S) : b ≠ m := by
 rintro rfl
 obtain ⟨D, ⟨es, clock, h1, _⟩, _⟩ := hm
 rw [h] at h1
 cases h1
theorem R1.size {B w0 os sb fb sm o k W} (h : R1 B w0 os sb fb sm o k W) : B ≤ W.heap.size := by
 have := h.sbox.lt
 have := h.base
 omega
theorem R1.alloc {B w0 os sb fb sm o k W} (h : R1 B w0 os sb fb sm o k W) (x : Obj) : R1 B w0 os sb fb sm o k (W.alloc x) :=
 ⟨h.sbox.alloc x, kAA h.fblk x, h.smap.alloc x, h.notw, h.below.alloc h.size x, h.base⟩
theorem R1.next {B w0 os sb fb sm o W} (h : R1 B w0 os sb fb sm o (nsy os o) W) : R1 B w0 os sb fb sm (o + 1) 0 W := by
 obtain ⟨a, b, c, d, e, f⟩ := h
 exact ⟨a, b, by rw [preS_next]; exact c, lex_next d, e, f⟩
theorem R1.skip {B w0 os sb fb sm o k W} (h : R1 B w0 os sb fb sm o k W) (h1 : strongQ (syN os o k) = false) : R1 B w0 os sb fb sm o (k + 1) W := by
 obtain ⟨a, b, c, d, e, f⟩ := h
 refine ⟨a, b, ?_, lex_succ d (fun c => absurd (h1.symm.trans c.1) (by decide)), e, f⟩
 rw [preS_succ, List.length_append]
 exact (c.congr (strongIn_no (t := (o, k, syN os o k)) h1)).mono (Nat.le_add_right _ _)
theorem R1.new {B w0 os sb fb sm o k W W'} (h : R1 B w0 os sb fb sm o k W) (h1 : strongQ (syN os o k) = true) (h2 : ¬ StrongIn (preS os o k) (syN os o k).f0)
 (hm : NMap W' sm ((preS os o k).length + 1) (fun t => t = (syN os o k).f0 ∨ StrongIn (preS os o k) t)) (hg : W.grownBy W' (some sm)) : R1 B w0 os sb fb sm o (k + 1) W' := by
 have e1 := box_ne_nmap h.sbox h.smap
 have e2 := box_ne_nmap h.fblk h.smap
 have hz := h.size
 obtain ⟨a, b, c, d, e, f⟩ := h
 refine ⟨boxed_grown a hg (by simpa using e1), (hg.block fb (Array.getElem?_eq_some_iff.1 b).1 (by simpa using e2)).trans b, ?_, lex_succ d (fun c => h2 c.2), e.grown hg hz (fun q hq => by obtain rfl := Option.some.inj hq; exact f.2.2), f⟩
 rw [preS_succ, List.length_append]
 exact hm.congr (strongIn_new (t := (o, k, syN os o k)) h1)
def Stop1 (B : Nat) (w0 : World) (os : List Ob) (fb : Nat) (o k : Nat) (W : World) : Prop := FB W fb 7 o k ∧ Tw (preS os o k) (syN os o k) ∧ NoTw os o k ∧ Below B w0 W
theorem resolve1_any (B : Nat) (w0 : World) (os : List Ob) (sb fb sm o k : Nat) (W : World) (h : R1 B w0 os sb fb sm o k W) (hlen : (preS os o k).length ≤ 100000)
 (hs : (syN os o k).f0.size ≤ 100) (ho : o ≤ 100000) :
 Calls Tryz.prog 48 #[.int .i64 o, .int .i64 k, syV (syN os o k), .pointer (some ⟨sb, 0, none⟩), .pointer (some ⟨fb, 0, none⟩)] W fun e w' => (e = .returned (.bool true) ∧ R1 B w0 os sb fb sm o (k + 1) w') ∨ (e = .returned (.bool false) ∧ Stop1 B w0 os fb o k w') := by
 have HP := Azz.mk h
 have h1 := fun x => (h.sbox.alloc x).cell
 have hn : (preS os o k).length < maxLen := by unfold maxLen; omega
 have hwf := WalkArith.wf_i64 (n := (o : Int)) (by omega)
 have hF := Azz.mk h.fblk
 clear h
 obtain ⟨s, hse⟩ : ∃ s, syN os o k = s := ⟨_, rfl⟩
 have HSe := Azz.mk hse
 rw [hse] at hs ⊢
 clear hse
 obtain ⟨nm, bd, sc, off⟩ := s
 have hs : nm.size ≤ 100 := hs
 unfold syV
 dsimp only
 have HQs : Azz (strongQ (syN os o k) = decide (bd = 2 ∧ 0 ≤ sc)) := ⟨by rw [HSe.out]; rfl⟩
 have HNm : Azz ((syN os o k).f0 = nm) := ⟨by rw [HSe.out]⟩
 by_cases hb : bd = 2
 ·subst hb
  by_cases hsc : sc < 0
  ·go_enter Tryz.func48, Tryz.ntmps48
   go_wp2
   go_ret
   exact .inl ⟨rfl, (HP.out.skip (by rw [HQs.out]; exact decide_eq_false (by omega))).alloc _⟩
  ·have hq : strongQ (syN os o k) = true := by rw [HQs.out]; exact decide_eq_true ⟨rfl, by omega⟩
   have HQ := Azz.mk hq
   clear hq
   by_cases hd : StrongIn (preS os o k) nm
   ·have hc3 := fun x => cq3 (kAA hF.out x)
    have hf3 := fun x => frzq (kAA hF.out x)
    obtain ⟨y0, y1, y2⟩ := hc3 (.cells #[.string nm, .int .i64 2, .int .i64 sc, .int .i64 off] 85)
    clear hc3
    go_enter Tryz.func48, Tryz.ntmps48
    go_wp2_with (at_lookup; refine wpl_nlook _ rfl _ _ rfl sm _ _ nm rfl (HP.out.smap.alloc _) rfl hs ?_; intro cc yy hyy; obtain rfl : yy = true := hyy.2 hd; clear hyy)
    go_ret
    refine .inr ⟨rfl, set3_same _ _ _ _ _ _ _ _ _ (kAA hF.out _), ⟨HQ.out, by rw [HNm.out]; exact hd⟩, HP.out.notw, ?_⟩
    exact (((HP.out.below.alloc HP.out.size _).setCell (p := ⟨fb, 0, none⟩) HP.out.base.2.1 _).setCell (p := ⟨fb, 1, none⟩) HP.out.base.2.1 _).setCell (p := ⟨fb, 2, none⟩) HP.out.base.2.1 _
   ·go_enter Tryz.func48, Tryz.ntmps48
    go_wp2_with (first
     | (at_lookup; refine wpl_nlook _ rfl _ _ rfl sm _ _ nm rfl (HP.out.smap.alloc _) rfl hs ?_; intro cc yy hyy; obtain rfl : yy = false := (by cases yy; rfl; exact absurd (hyy.1 rfl) hd); clear hyy)
     | (at_mapUpdate; refine wpl_nstore _ rfl _ _ _ rfl sm _ _ nm o rfl (HP.out.smap.alloc _) hn rfl rfl hs hwf ?_; intro w1 hm1 ht1; have HT := Azz.mk (And.intro hm1 ht1.grown); clear hm1 ht1))
    go_ret
    exact .inl ⟨rfl, (HP.out.alloc _).new HQ.out (by rw [HNm.out]; exact hd) (by rw [HNm.out]; exact HT.out.1) HT.out.2⟩
 ·have hne : (bd != 2) = true := bne_iff_ne.mpr hb
  have hne2 : (bd == 2) = false := beq_eq_false_iff_ne.mpr hb
  go_enter Tryz.func48, Tryz.ntmps48
  go_wp2
  go_ret
  exact .inl ⟨rfl, (HP.out.skip (by rw [HQs.out]; exact decide_eq_false (by omega))).alloc _⟩
end Go.Proofs.YtngmipfodjgmmaaGreatDoor.Pure
end
section
namespace Go.Proofs.YtngmipfodjgmmaaGreatDoor.P
open Go.RowKit YtngmipfodjgmmaaGreatDoorW.PrintWords YtngmipfodjgmmaaGreatDoorW.PrintLast YtngmipfodjgmmaaGreatDoorW.PrintMore
attribute [local go_sem] max2_int min2_int max_two min_two max_three min_three max_four min_four   -- for this text's walks alone
theorem eqA49 (d : Nat) (w : World) (x0 y0 : Int) (x1 y1 : Int) (x2 y2 : Int) :
 (Op.equalIn (d + 2) 49 (.agg #[.int .i64 x0, .int .i64 x1, .int .i64 x2]) (.agg #[.int .i64 y0, .int .i64 y1, .int .i64 y2])).run Tryz.prog w = .ok (x0 == y0 && (x1 == y1 && (x2 == y2))) w := by
 refine eqA_of Tryz.underlying49 (by kernel_rfl) ?_
 refine eqf_cons (by rfl) (by go_simp; rfl) (by go_simp; rfl) (by go_simp) ?_
 refine eqf_cons (by rfl) (by go_simp; rfl) (by go_simp; rfl) (by go_simp) ?_
 exact eqf_last (by rfl) (by go_simp; rfl) (by go_simp; rfl) (by go_simp)
end Go.Proofs.YtngmipfodjgmmaaGreatDoor.P
end
