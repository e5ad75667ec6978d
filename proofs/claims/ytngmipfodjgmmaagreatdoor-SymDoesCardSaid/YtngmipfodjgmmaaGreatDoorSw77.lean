/- Walks and plain laws of this claim, a part. -/
import Derived.Test.YtngmipfodjgmmaaGreatDoorSw74
set_option maxRecDepth 100000
set_option maxHeartbeats 4000000
set_option linter.unusedVariables false
set_option linter.unusedSimpArgs false
section
namespace Go.Proofs.YtngmipfodjgmmaaGreatDoor.Pure
open Go Go.RowKit Go.Lib Go.Shelf Go.Maps YtngmipfodjgmmaaGreatDoorW.PrintWords YtngmipfodjgmmaaGreatDoorW.PrintLast YtngmipfodjgmmaaGreatDoorW.PrintMore
open P (Glob)
def syV (s : Sy) : Value := .agg #[.string s.f0, .int .i64 s.f1, .int .i64 s.f2, .int .i64 s.f3]
theorem each_any (w w0 : World) (A : Option Addr) (c : Nat) (os : List Ob) (F : Nat) (bs : Array Value) (I Stop : Nat → Nat → World → Prop)
 (hF : Enters Tryz.prog F) (hos : OA w0 A os) (hc : os.length ≤ c) (hol : os.length ≤ 100000) (hsl : ∀ i, i < os.length → nsy os i ≤ 100000)
 (hI : ∀ o k W, I o k W → Below w0.heap.size w0 W) (h0 : I 0 0 w) (hn : ∀ o W, o < os.length → I o (nsy os o) W → I (o + 1) 0 W) (ha : ∀ o k W x, I o k W → I o k (W.alloc x))
 (hs : ∀ o k W, o < os.length → k < nsy os o → I o k W → Calls Tryz.prog F (#[.int .i64 o, .int .i64 k, syV (syN os o k)] ++ bs) W fun e w' => (e = .returned (.bool true) ∧ I o (k + 1) w') ∨ (e = .returned (.bool false) ∧ Stop o k w')) :
 Calls Tryz.prog 47 #[.slice A os.length c, .func (.func F) #[] bs] w fun e w' => (∃ r, e = .returned r) ∧ (I os.length 0 w' ∨ ∃ o k, o < os.length ∧ k < nsy os o ∧ Stop o k w') := by
 have hen : ∀ (args : Array Value) (W : World), (callFunc F args).run Tryz.prog W = .ok (.enter F args) W := hF
 have HO := Azz.mk hos
 have HI := Azz.mk hI
 have H0 := Azz.mk h0
 have HN := Azz.mk hn
 have HA := Azz.mk ha
 have HS := Azz.mk hs
 have HL := Azz.mk hsl
 clear hF hos hI h0 hn ha hs hsl
 go_enter Tryz.func47, Tryz.ntmps47
 go_wp2
 go_loopw [9] (fun v wr => ∃ o : Nat, o ≤ os.length ∧ v = .int .i64 o ∧ Azz (I o 0 wr)) (fun v _ => os.length - (RowKit.intOf v).toNat)
 case atStart => exact ⟨0, Nat.zero_le _, rfl, H0⟩
 case round =>
  clear H0
  obtain ⟨o, ho, rfl, HW⟩ := hrel
  by_cases hlt : o < os.length
  ·obtain ⟨ad, A0, c0, A1, c1, e0, x0, x1, l0, C0, l1, C1⟩ := P.at_T68 HO.out o (by omega) (by omega)
   subst e0
   rw [Int.toNat_natCast] at x0 x1
   have HSy : Azz (SyA w0 A1 (obN os o).f1) := ⟨C1⟩
   have hnl : (P.rd_T68 os o).f1.length = nsy os o := rfl
   rw [hnl] at x1 l1
   have ho0 : (0 : Int) ≤ (o : Int) := by omega
   have ho1 : (o : Int) < os.length := by omega
   have hml := HL.out o hlt
   replace x1 := keepS x1 (HI.out _ _ _ HW.out)
   clear C0 C1 l0 x0
   go_wp2
   go_loopw [18] (fun v wx => ∃ k : Nat, k ≤ nsy os o ∧ v = .int .i64 k ∧ Azz (I o k wx)) (fun v _ => nsy os o - (RowKit.intOf v).toNat)
   case atStart => exact ⟨0, Nat.zero_le _, rfl, HW⟩
   case round =>
    clear HW x1
    obtain ⟨k, hk, rfl, HW⟩ := hrel
    by_cases hkl : k < nsy os o
    ·obtain ⟨ad1, e1, y0, y1, y2, y3⟩ := P.at_T85 (Kd.C_below HSy.out (HI.out _ _ _ HW.out)) k (by omega) (by show (k : Int) < (nsy os o : Int); omega)
     subst e1
     rw [Int.toNat_natCast] at y0 y1 y2 y3
     have HC := Azz.mk (fun W h => HS.out o k W hlt hkl h)
     unfold syV syN obN at HC
     obtain ⟨s, hs⟩ : ∃ s, P.rd_T85 (P.rd_T68 os o).f1 k = s := ⟨_, rfl⟩
     have HSe := Azz.mk hs
     unfold obN at y0 y1 y2 y3
     rw [hs] at y0 y1 y2 y3 HC
     clear hs
     go_wp2_with fail
     (with_reducible refine (HC.out _ (HA.out _ _ _ _ HW.out)).mono ?_)
     rintro e w2 (⟨rfl, hw⟩ | ⟨rfl, hw⟩)
     ·have HW2 := Azz.mk hw
      clear hw HC HW y0 y1 y2 y3
      go_wp2
      go_roundw
      case rel => exact ⟨k + 1, by omega, by go_num, HW2⟩
      case measure => simp [RowKit.intOf]; omega
     ·have HW2 := Azz.mk hw
      clear hw HC HW y0 y1 y2 y3
      go_wp2
      (try simp only [Exit.inBlock, Exit.then])
      refine bodyPost_ret (results_none rfl _ _ _) rfl ?_
      exact ⟨⟨_, rfl⟩, .inr ⟨o, k, hlt, hkl, HW2.out⟩⟩
    ·obtain rfl : k = nsy os o := by omega
     go_wp2
     go_roundw
     case rel => exact ⟨o + 1, by omega, by go_num, ⟨HN.out _ _ hlt HW.out⟩⟩
     case measure => simp [RowKit.intOf]; omega
  ·obtain rfl : o = os.length := by omega
   go_wp2
   go_end0
   exact ⟨⟨_, rfl⟩, .inl HW.out⟩
/-- What the symbols of L place, of kind q. -/
def fm (q : Sy → Bool) (L : List Tg) (n : ByteArray) : Option Pl := (firstS q L n).map plOf
theorem fm_no {q : Sy → Bool} {L : List Tg} {t : Tg} (h : q t.2.2 = false) (n : ByteArray) : fm q L n = fm q (L ++ [t]) n := by
 unfold fm
 rw [firstS_snoc_no h]
theorem fm_old {q : Sy → Bool} {L : List Tg} {t : Tg} {p : Pl} (h : fm q L t.2.2.f0 = some p) (n : ByteArray) : fm q L n = fm q (L ++ [t]) n := by
 by_cases e : t.2.2.f0 = n
 ·subst e
  unfold fm at h ⊢
  cases h1 : firstS q L t.2.2.f0 with
  | none => rw [h1] at h; cases h
  | some u => rw [firstS_snoc_old h1]
 ·unfold fm
  rw [firstS_snoc_other e]
theorem fm_new {q : Sy → Bool} {L : List Tg} {t : Tg} (h : fm q L t.2.2.f0 = none) (hq : q t.2.2 = true) (n : ByteArray) : upP (fm q L) t.2.2.f0 (plOf t) n = fm q (L ++ [t]) n := by
 unfold upP
 by_cases e : n = t.2.2.f0
 ·subst e
  rw [if_pos rfl]
  unfold fm at h ⊢
  rw [firstS_snoc_new (Option.map_eq_none_iff.1 h) hq]
  rfl
 ·rw [if_neg e]
  unfold fm
  rw [firstS_snoc_other (fun c => e c.symm)]
/-- The names that are looked at are short, and each is bound in one of three ways. -/
def Tame (os : List Ob) : Prop := os.length ≤ 12 ∧ ∀ i, i < os.length → nsy os i ≤ 140 ∧ ∀ k, k < nsy os i → (syN os i k).f0.size ≤ 100 ∧ ((syN os i k).f1 = 1 ∨ (syN os i k).f1 = 2 ∨ (syN os i k).f1 = 3)
theorem Tame.pre_le {os : List Ob} (h : Tame os) {o k : Nat} (ho : o < os.length) (hk : k ≤ nsy os o) : (preS os o k).length ≤ 100000 := by
 have h1 := preS_len (fun i hi => (h.2 i hi).1) o (by omega)
 have h2 := (h.2 o ho).1
 have h3 : (rowS os o k).length = k := by simp [rowS]
 have h4 : o * 140 ≤ 12 * 140 := Nat.mul_le_mul_right _ (by have := h.1; omega)
 unfold preS
 rw [List.length_append]
 omega
/-- Going on: what the two maps hold. -/
structure PI (B : Nat) (w0 : World) (os : List Ob) (sb wb sm wm : Nat) (o k : Nat) (W : World) : Prop where
 sbox : Boxed W sb 88 (.map (some sm))
 wbox : Boxed W wb 88 (.map (some wm))
 smap : PMap W sm (preS os o k).length (fm strongQ (preS os o k))
 wmap : PMap W wm (preS os o k).length (fm weakQ (preS os o k))
 below : Below B w0 W
 base : B ≤ sb ∧ B ≤ wb ∧ B ≤ sm ∧ B ≤ wm
 ne : sm ≠ wm
theorem PI.alloc {B w0 os sb wb sm wm o k W} (h : PI B w0 os sb wb sm wm o k W) (hB : B ≤ W.heap.size) (x : Obj) : PI B w0 os sb wb sm wm o k (W.alloc x) :=
 ⟨h.sbox.alloc x, h.wbox.alloc x, h.smap.alloc x, h.wmap.alloc x, h.below.alloc hB x, h.base, h.ne⟩
theorem PI.size {B w0 os sb wb sm wm o k W} (h : PI B w0 os sb wb sm wm o k W) : B ≤ W.heap.size := by
 have := h.sbox.lt
 have := h.base
 omega
theorem PI.next {B w0 os sb wb sm wm o W} (h : PI B w0 os sb wb sm wm o (nsy os o) W) : PI B w0 os sb wb sm wm (o + 1) 0 W := by
 obtain ⟨a, b, c, d, e, f, g⟩ := h
 exact ⟨a, b, by rw [preS_next]; exact c, by rw [preS_next]; exact d, e, f, g⟩
theorem boxed_grown {w w' : World} {b t : Nat} {v : Value} {row : Option Nat} (h : Boxed w b t v) (hg : w.grownBy w' row) (hn : some b ≠ row) : Boxed w' b t v := (hg.block b h.lt hn).trans h
theorem box_ne_map {w : World} {b m t : Nat} {v : Value} {n : Nat} {f : ByteArray → Option Pl} (h : Boxed w b t v) (hm : PMap w m n f) : b ≠ m := by
 rintro rfl
 obtain ⟨D, ⟨es, clock, h1, _⟩, _⟩ := hm
 rw [show w.heap[b]? = _ from h] at h1
 cases h1
/-- A symbol that is not placed. -/
theorem PI.skip {B w0 os sb wb sm wm o k W} (h : PI B w0 os sb wb sm wm o k W) (h1 : strongQ (syN os o k) = false) (h2 : weakQ (syN os o k) = false) : PI B w0 os sb wb sm wm o (k + 1) W := by
 obtain ⟨a, b, c, d, e, f, g⟩ := h
 refine ⟨a, b, ?_, ?_, e, f, g⟩
 ·rw [preS_succ, List.length_append]
  exact (c.congr (fm_no (t := (o, k, syN os o k)) h1)).mono (Nat.le_add_right _ _)
 ·rw [preS_succ, List.length_append]
  exact (d.congr (fm_no (t := (o, k, syN os o k)) h2)).mono (Nat.le_add_right _ _)
theorem PI.sold {B w0 os sb wb sm wm o k W} (h : PI B w0 os sb wb sm wm o k W) {p : Pl} (h1 : fm strongQ (preS os o k) (syN os o k).f0 = some p) (h2 : weakQ (syN os o k) = false) : PI B w0 os sb wb sm wm o (k + 1) W := by
 obtain ⟨a, b, c, d, e, f, g⟩ := h
 refine ⟨a, b, ?_, ?_, e, f, g⟩
 ·rw [preS_succ, List.length_append]
  exact (c.congr (fm_old (t := (o, k, syN os o k)) h1)).mono (Nat.le_add_right _ _)
 ·rw [preS_succ, List.length_append]
  exact (d.congr (fm_no (t := (o, k, syN os o k)) h2)).mono (Nat.le_add_right _ _)
theorem PI.wold {B w0 os sb wb sm wm o k W} (h : PI B w0 os sb wb sm wm o k W) {p : Pl} (h1 : fm weakQ (preS os o k) (syN os o k).f0 = some p) (h2 : strongQ (syN os o k) = false) : PI B w0 os sb wb sm wm o (k + 1) W := by
 obtain ⟨a, b, c, d, e, f, g⟩ := h
 refine ⟨a, b, ?_, ?_, e, f, g⟩
 ·rw [preS_succ, List.length_append]
  exact (c.congr (fm_no (t := (o, k, syN os o k)) h2)).mono (Nat.le_add_right _ _)
 ·rw [preS_succ, List.length_append]
  exact (d.congr (fm_old (t := (o, k, syN os o k)) h1)).mono (Nat.le_add_right _ _)
theorem PI.snew {B w0 os sb wb sm wm o k W W'} (h : PI B w0 os sb wb sm wm o k W) (h1 : fm strongQ (preS os o k) (syN os o k).f0 = none) (hq : strongQ (syN os o k) = true) (h2 : weakQ (syN os o k) = false)
 (hm : PMap W' sm ((preS os o k).length + 1) (upP (fm strongQ (preS os o k)) (syN os o k).f0 (plOf (o, k, syN os o k)))) (hg : W.grownBy W' (some sm)) : PI B w0 os sb wb sm wm o (k + 1) W' := by
 have e1 := box_ne_map h.sbox h.smap
 have e2 := box_ne_map h.wbox h.smap
 obtain ⟨a, b, c, d, e, f, g⟩ := h
 refine ⟨boxed_grown a hg (by simpa using e1), boxed_grown b hg (by simpa using e2), ?_, ?_, e.grown hg (PI.size ⟨a, b, c, d, e, f, g⟩) (fun q hq => by obtain rfl := Option.some.inj hq; exact f.2.2.1), f, g⟩
 ·rw [preS_succ, List.length_append]
  exact hm.congr (fm_new (t := (o, k, syN os o k)) h1 hq)
 ·rw [preS_succ, List.length_append]
  exact ((d.kept hg (by simpa using g.symm)).congr (fm_no (t := (o, k, syN os o k)) h2)).mono (Nat.le_add_right _ _)
theorem PI.wnew {B w0 os sb wb sm wm o k W W'} (h : PI B w0 os sb wb sm wm o k W) (h1 : fm weakQ (preS os o k) (syN os o k).f0 = none) (hq : weakQ (syN os o k) = true) (h2 : strongQ (syN os o k) = false)
 (hm : PMap W' wm ((preS os o k).length + 1) (upP (fm weakQ (preS os o k)) (syN os o k).f0 (plOf (o, k, syN os o k)))) (hg : W.grownBy W' (some wm)) : PI B w0 os sb wb sm wm o (k + 1) W' := by
 have e1 := box_ne_map h.sbox h.wmap
 have e2 := box_ne_map h.wbox h.wmap
 obtain ⟨a, b, c, d, e, f, g⟩ := h
 refine ⟨boxed_grown a hg (by simpa using e1), boxed_grown b hg (by simpa using e2), ?_, ?_, e.grown hg (PI.size ⟨a, b, c, d, e, f, g⟩) (fun q hq => by obtain rfl := Option.some.inj hq; exact f.2.2.2), f, g⟩
 ·rw [preS_succ, List.length_append]
  exact ((c.kept hg (by simpa using g)).congr (fm_no (t := (o, k, syN os o k)) h2)).mono (Nat.le_add_right _ _)
 ·rw [preS_succ, List.length_append]
  exact hm.congr (fm_new (t := (o, k, syN os o k)) h1 hq)
theorem places1_any (B : Nat) (w0 : World) (os : List Ob) (sb wb sm wm o k : Nat) (W : World) (h : PI B w0 os sb wb sm wm o k W) (hB : B ≤ W.heap.size) (hlen : (preS os o k).length ≤ 100000)
 (hs : (syN os o k).f0.size ≤ 100) (hb : (syN os o k).f1 = 1 ∨ (syN os o k).f1 = 2 ∨ (syN os o k).f1 = 3) :
 Calls Tryz.prog 63 #[.int .i64 o, .int .i64 k, syV (syN os o k), .pointer (some ⟨sb, 0, none⟩), .pointer (some ⟨wb, 0, none⟩)] W fun e w' => e = .returned (.bool true) ∧ PI B w0 os sb wb sm wm o (k + 1) w' := by
 have HP := Azz.mk h
 have h1 := fun o => (h.sbox.alloc o).cell
 have h2 := fun o => (h.wbox.alloc o).cell
 have hn : (preS os o k).length < maxLen := by unfold maxLen; omega
 clear h
 obtain ⟨s, hse⟩ : ∃ s, syN os o k = s := ⟨_, rfl⟩
 have HSe := Azz.mk hse
 rw [hse] at hs hb ⊢
 clear hse
 obtain ⟨nm, bd, sc, off⟩ := s
 have hs : nm.size ≤ 100 := hs
 have hb : bd = 1 ∨ bd = 2 ∨ bd = 3 := hb
 unfold syV
 dsimp only
 have HQs : Azz (strongQ (syN os o k) = decide (bd = 2 ∧ 0 ≤ sc)) := ⟨by rw [HSe.out]; rfl⟩
 have HQw : Azz (weakQ (syN os o k) = decide (bd = 3 ∧ 0 ≤ sc)) := ⟨by rw [HSe.out]; rfl⟩
 have HNm : Azz ((syN os o k).f0 = nm) := ⟨by rw [HSe.out]⟩
 have HPl : Azz (plOf (o, k, syN os o k) = ⟨(o : Int), sc, off⟩) := ⟨by unfold plOf; rw [HSe.out]⟩
 by_cases hsc : sc < 0
 ·have HSk : Azz (PI B w0 os sb wb sm wm o (k + 1) W) := ⟨HP.out.skip (by rw [HQs.out]; exact decide_eq_false (by omega)) (by rw [HQw.out]; exact decide_eq_false (by omega))⟩
  rcases hb with rfl | rfl | rfl <;> (go_enter Tryz.func63, Tryz.ntmps63; go_wp2; go_ret; exact ⟨rfl, HSk.out.alloc hB _⟩)
 ·rcases hb with rfl | rfl | rfl
  ·have HSk : Azz (PI B w0 os sb wb sm wm o (k + 1) W) := ⟨HP.out.skip (by rw [HQs.out]; exact decide_eq_false (by omega)) (by rw [HQw.out]; exact decide_eq_false (by omega))⟩
   go_enter Tryz.func63, Tryz.ntmps63
   go_wp2
   go_ret
   exact ⟨rfl, HSk.out.alloc hB _⟩
  ·have hq1 : strongQ (syN os o k) = true := by rw [HQs.out]; exact decide_eq_true ⟨rfl, by omega⟩
   have hq2 : weakQ (syN os o k) = false := by rw [HQw.out]; exact decide_eq_false (by omega)
   have HQ := Azz.mk (And.intro hq1 hq2)
   clear hq1 hq2
   cases hf : fm strongQ (preS os o k) nm with
   | some p =>
    obtain ⟨p1, p2, p3⟩ := p
    have HF := Azz.mk hf
    have hf1 : (fm strongQ (preS os o k) nm).getD ⟨0, 0, 0⟩ = ⟨p1, p2, p3⟩ := by rw [hf]; rfl
    have hf2 : (fm strongQ (preS os o k) nm).isSome = true := by rw [hf]; rfl
    have HM := Azz.mk (And.intro hf1 hf2)
    clear hf hf1 hf2
    go_enter Tryz.func63, Tryz.ntmps63
    go_wp2_with (at_lookup; refine wpl_plook _ rfl _ _ rfl sm _ _ nm p1 p2 p3 true rfl (HP.out.smap.alloc _) rfl hs HM.out.1 HM.out.2 ?_)
    go_ret
    exact ⟨rfl, ((HP.out.sold (by rw [HNm.out]; exact HF.out) HQ.out.2).alloc hB _).alloc (by simp; omega) _⟩
   | none =>
    have HF := Azz.mk hf
    have hf1 : (fm strongQ (preS os o k) nm).getD ⟨0, 0, 0⟩ = ⟨0, 0, 0⟩ := by rw [hf]; rfl
    have hf2 : (fm strongQ (preS os o k) nm).isSome = false := by rw [hf]; rfl
    have HM := Azz.mk (And.intro hf1 hf2)
    clear hf hf1 hf2
    go_enter Tryz.func63, Tryz.ntmps63
    go_wp2_with (first
     | (at_lookup; refine wpl_plook _ rfl _ _ rfl sm _ _ nm 0 0 0 false rfl (HP.out.smap.alloc _) rfl hs HM.out.1 HM.out.2 ?_)
     | (at_mapUpdate; refine wpl_pstore _ rfl _ _ _ rfl sm _ _ nm o sc off rfl ((HP.out.smap.alloc _).alloc _) hn rfl rfl hs ?_; intro w1 hm1 ht1; have HT := Azz.mk (And.intro hm1 ht1.grown); clear hm1 ht1))
    go_ret
    exact ⟨rfl, ((HP.out.alloc hB _).alloc (by simp; omega) _).snew (by rw [HNm.out]; exact HF.out) HQ.out.1 HQ.out.2 (by rw [HNm.out, HPl.out]; exact HT.out.1) HT.out.2⟩
  ·have hq1 : weakQ (syN os o k) = true := by rw [HQw.out]; exact decide_eq_true ⟨rfl, by omega⟩
   have hq2 : strongQ (syN os o k) = false := by rw [HQs.out]; exact decide_eq_false (by omega)
   have HQ := Azz.mk (And.intro hq1 hq2)
   clear hq1 hq2
   cases hf : fm weakQ (preS os o k) nm with
   | some p =>
    obtain ⟨p1, p2, p3⟩ := p
    have HF := Azz.mk hf
    have hf1 : (fm weakQ (preS os o k) nm).getD ⟨0, 0, 0⟩ = ⟨p1, p2, p3⟩ := by rw [hf]; rfl
    have hf2 : (fm weakQ (preS os o k) nm).isSome = true := by rw [hf]; rfl
    have HM := Azz.mk (And.intro hf1 hf2)
    clear hf hf1 hf2
    go_enter Tryz.func63, Tryz.ntmps63
    go_wp2_with (at_lookup; refine wpl_plook _ rfl _ _ rfl wm _ _ nm p1 p2 p3 true rfl (HP.out.wmap.alloc _) rfl hs HM.out.1 HM.out.2 ?_)
    go_ret
    exact ⟨rfl, ((HP.out.wold (by rw [HNm.out]; exact HF.out) HQ.out.2).alloc hB _).alloc (by simp; omega) _⟩
   | none =>
    have HF := Azz.mk hf
    have hf1 : (fm weakQ (preS os o k) nm).getD ⟨0, 0, 0⟩ = ⟨0, 0, 0⟩ := by rw [hf]; rfl
    have hf2 : (fm weakQ (preS os o k) nm).isSome = false := by rw [hf]; rfl
    have HM := Azz.mk (And.intro hf1 hf2)
    clear hf hf1 hf2
    go_enter Tryz.func63, Tryz.ntmps63
    go_wp2_with (first
     | (at_lookup; refine wpl_plook _ rfl _ _ rfl wm _ _ nm 0 0 0 false rfl (HP.out.wmap.alloc _) rfl hs HM.out.1 HM.out.2 ?_)
     | (at_mapUpdate; refine wpl_pstore _ rfl _ _ _ rfl wm _ _ nm o sc off rfl ((HP.out.wmap.alloc _).alloc _) hn rfl rfl hs ?_; intro w1 hm1 ht1; have HT := Azz.mk (And.intro hm1 ht1.grown); clear hm1 ht1))
    go_ret
    exact ⟨rfl, ((HP.out.alloc hB _).alloc (by simp; omega) _).wnew (by rw [HNm.out]; exact HF.out) HQ.out.1 HQ.out.2 (by rw [HNm.out, HPl.out]; exact HT.out.1) HT.out.2⟩
theorem placeS_or (os : List Ob) (n : ByteArray) : placeS os n = (fm strongQ (allS os) n).or (fm weakQ (allS os) n) := by
 unfold placeS placeT fm
 cases firstS strongQ (allS os) n <;> rfl
theorem fm_small {os : List Ob} (ht : Tame os) {q : Sy → Bool} (s : ByteArray) (p : Pl) (h : fm q (preS os os.length 0) s = some p) : s.size ≤ 100 := by
 unfold fm at h
 obtain ⟨t, h1, _⟩ := Option.map_eq_some_iff.1 h
 obtain ⟨h2, _, h3⟩ := firstS_some h1
 rw [← allS_pre] at h2
 obtain ⟨i, j, hi, hj, rfl⟩ := mem_all.1 h2
 rw [← h3]
 exact ((ht.2 i hi).2 j hj).1
/-- Joining, under way: h is f, and of g what has come. -/
def Joined (f g h : ByteArray → Option Pl) (left : Lit → Bool) : Prop := ∀ s, s.size ≤ 100 → (f s).isSome = true ∧ h s = f s ∨ f s = none ∧ (left (klS s) = true ∧ h s = none ∨ left (klS s) = false ∧ h s = g s)
structure JI (B : Nat) (w0 : World) (f g : ByteArray → Option Pl) (sb sm wm r n : Nat) (W : World) (left : Lit → Bool) (cnt : Nat) (h : ByteArray → Option Pl) (m : Nat) : Prop where
 sbox : Boxed W sb 88 (.map (some sm))
 smap : PMap W sm m h
 run : PRan W wm r n g left cnt
 join : Joined f g h left
 below : Below B w0 W
 base : B ≤ sb ∧ B ≤ sm ∧ B ≤ wm ∧ B ≤ r
 ne : sm ≠ wm ∧ sm ≠ r
 room : m + cnt ≤ 200000
theorem PRan.lt {w : World} {b r n : Nat} {f : ByteArray → Option Pl} {left : Lit → Bool} {cnt : Nat} (h : PRan w b r n f left cnt) : r < w.heap.size := h.choose_spec.1.lt
theorem PRan.ne {w : World} {b r n : Nat} {f : ByteArray → Option Pl} {left : Lit → Bool} {cnt : Nat} (h : PRan w b r n f left cnt) : r ≠ b := h.choose_spec.1.ne
theorem box_ne_iter {w : World} {sb t wm r n : Nat} {v : Value} {f : ByteArray → Option Pl} {left : Lit → Bool} {cnt : Nat} (h : Boxed w sb t v) (hr : PRan w wm r n f left cnt) : sb ≠ r := by
 rintro rfl
 obtain ⟨D, ⟨es, clock, since, seen, c0, _, _, _, _, h1, _⟩, _⟩ := hr
 rw [show w.heap[sb]? = _ from h] at h1
 cases h1
theorem JI.size {B w0 f g sb sm wm r n W left cnt h m} (j : JI B w0 f g sb sm wm r n W left cnt h m) : B ≤ W.heap.size := by
 have := j.sbox.lt
 have := j.base
 omega
/-- An entry has come; its name is there already. -/
theorem JI.old {B w0 f g sb sm wm r n W W' left left' cnt cnt' h m} (j : JI B w0 f g sb sm wm r n W left cnt h m) {s : ByteArray} {p q : Pl} (hs : s.size ≤ 100) (hl : left (klS s) = true) (hl' : left' (klS s) = false ∧ ∀ t, t ≠ s → left' (klS t) = left (klS t)) (hr : PRan W' wm r n g left' cnt') (hc : cnt' < cnt) (hg : W.grownBy W' (some r)) (hh : h s = some q) : JI B w0 f g sb sm wm r n W' left' cnt' h m := by
 have e1 := box_ne_iter j.sbox j.run
 refine ⟨boxed_grown j.sbox hg (by simpa using e1), j.smap.kept hg (by simpa using j.ne.2), hr, fun t ht => ?_, j.below.grown hg j.size (fun x hx => by obtain rfl := Option.some.inj hx; exact j.base.2.2.2), j.base, j.ne, by have := j.room; omega⟩
 by_cases e : t = s
 ·subst e
  rcases j.join t ht with a | ⟨a, ⟨b, c⟩ | ⟨b, c⟩⟩
  ·exact .inl a
  ·rw [hh] at c; cases c
  ·rw [hl] at b; cases b
 ·rw [hl'.2 t e]
  exact j.join t ht
theorem JI.step {B w0 f g sb sm wm r n W W' left left' cnt cnt' h m} (j : JI B w0 f g sb sm wm r n W left cnt h m) (hr : PRan W' wm r n g left' cnt') (hc : cnt' < cnt) (hg : W.grownBy W' (some r)) : Boxed W' sb 88 (.map (some sm)) ∧ PMap W' sm m h ∧ Below B w0 W' := by
 have e1 := box_ne_iter j.sbox j.run
 exact ⟨boxed_grown j.sbox hg (by simpa using e1), j.smap.kept hg (by simpa using j.ne.2), j.below.grown hg j.size (fun x hx => by obtain rfl := Option.some.inj hx; exact j.base.2.2.2)⟩
theorem JI.alloc {B w0 f g sb sm wm r n W left cnt h m} (j : JI B w0 f g sb sm wm r n W left cnt h m) (x : Obj) : JI B w0 f g sb sm wm r n (W.alloc x) left cnt h m :=
 ⟨j.sbox.alloc x, j.smap.alloc x, j.run.kept (World.grownBy_alloc W x none) (by simp) (by simp), j.join, j.below.alloc j.size x, j.base, j.ne, j.room⟩
/-- A name that was not there yet has been laid in (behind two blocks of the round's own). -/
theorem JI.new {B w0 f g sb sm wm r n W W' W2 left left' cnt cnt' h m} {x y : Obj} (j : JI B w0 f g sb sm wm r n W left cnt h m) {s : ByteArray} {p : Pl} (hs : s.size ≤ 100) (hp : g s = some p) (hl : left (klS s) = true) (hl' : left' (klS s) = false ∧ ∀ t, t ≠ s → left' (klS t) = left (klS t)) (hr : PRan W' wm r n g left' cnt') (hc : cnt' < cnt) (hg : W.grownBy W' (some r)) (hh : h s = none)
 (hm2 : PMap W2 sm (m + 1) (upP h s p)) (hg2 : ((W'.alloc x).alloc y).grownBy W2 (some sm)) : JI B w0 f g sb sm wm r n W2 left' cnt' (upP h s p) (m + 1) := by
 obtain ⟨b1, b2, b3⟩ := j.step hr hc hg
 have e1 := box_ne_map b1 b2
 have e2 := j.ne
 have hz : B ≤ W'.heap.size := by have := b1.lt; have := j.base; omega
 refine ⟨boxed_grown ((b1.alloc x).alloc y) hg2 (by simpa using e1), hm2, ((hr.kept (World.grownBy_alloc W' x none) (by simp) (by simp)).kept (World.grownBy_alloc _ y none) (by simp) (by simp)).kept hg2 (by simpa using e2.1.symm) (by simpa using e2.2.symm), fun t ht => ?_, ((b3.alloc hz x).alloc (by simp; omega) y).grown hg2 (by simp; omega) (fun q hq => by obtain rfl := Option.some.inj hq; exact j.base.2.1), j.base, j.ne, by have := j.room; omega⟩
 unfold upP
 by_cases e : t = s
 ·subst e
  rw [if_pos rfl]
  rcases j.join t ht with ⟨a, b⟩ | ⟨a, _⟩
  ·rw [hh] at b
   rw [← b] at a
   cases a
  ·exact .inr ⟨a, .inr ⟨hl'.1, hp.symm⟩⟩
 ·rw [if_neg e, hl'.2 t e]
  exact j.join t ht
theorem JI.done {B w0 f g sb sm wm r n W left cnt h m} (j : JI B w0 f g sb sm wm r n W left cnt h m) (hl : ∀ l, left l = false) (hf : ∀ s p, f s = some p → s.size ≤ 100) (hg : ∀ s p, g s = some p → s.size ≤ 100) : PMap W sm m (fun s => (f s).or (g s)) := by
 refine j.smap.congr fun s => ?_
 by_cases hs : s.size ≤ 100
 ·rcases j.join s hs with ⟨a, b⟩ | ⟨a, ⟨b, _⟩ | ⟨_, b⟩⟩
  ·rw [b]
   cases e : f s with
   | none => rw [e] at a; cases a
   | some p => rfl
  ·rw [hl] at b; cases b
  ·rw [a, b]
   rfl
 ·have e1 : f s = none := by
   cases e : f s with
   | none => rfl
   | some p => exact absurd (hf s p e) hs
  have e2 : g s = none := by
   cases e : g s with
   | none => rfl
   | some p => exact absurd (hg s p e) hs
  have e3 : h s = none := by
   cases e : h s with
   | none => rfl
   | some p =>
    obtain ⟨D, _, hd⟩ := j.smap
    exact absurd (hd.2 s p e).1 hs
  rw [e1, e2, e3]
  rfl
def PlacesPost (os : List Ob) (w : World) (e : Ending) (w' : World) : Prop := ∃ sm n, e = .returned (.map (some sm)) ∧ PMap w' sm n (placeS os) ∧ Below w.heap.size w w' ∧ w.heap.size ≤ sm ∧ n ≤ 200000
theorem places_any (w : World) (A : Option Addr) (c : Nat) (os : List Ob) (hos : OA w A os) (hc : os.length ≤ c) (ht : Tame os) :
 Calls Tryz.prog 49 #[.slice A os.length c] w (PlacesPost os w) := by
 have hmm := @run_makeMap Tryz.prog
 have HO := Azz.mk hos
 have HT := Azz.mk ht
 clear hos ht
 go_enter Tryz.func49, Tryz.ntmps49
 go_wp2_with fail
 have hW : PI w.heap.size w os (w.heap.size + 1 + 1) (w.heap.size + 1 + 1 + 1) w.heap.size (w.heap.size + 1) 0 0 ((((w.alloc (.map #[] 0)).alloc (.map #[] 0)).alloc (.cells #[.map (some w.heap.size)] 88)).alloc (.cells #[.map (some (w.heap.size + 1))] 88)) := by
  have b0 := Below.refl w.heap.size w
  refine ⟨?_, ?_, ?_, ?_, (((b0.alloc (Nat.le_refl _) _).alloc (by simp) _).alloc (by simp; omega) _).alloc (by simp; omega) _, by omega, by omega⟩
  ·have := Boxed.new ((w.alloc (.map #[] 0)).alloc (.map #[] 0)) 88 (.map (some w.heap.size))
   rw [World.size_alloc, World.size_alloc] at this
   exact this.alloc _
  ·have := Boxed.new (((w.alloc (.map #[] 0)).alloc (.map #[] 0)).alloc (.cells #[.map (some w.heap.size)] 88)) 88 (.map (some (w.heap.size + 1)))
   rw [World.size_alloc, World.size_alloc, World.size_alloc] at this
   exact this
  ·exact ((((PMap.made w).alloc _).alloc _).alloc _).congr fun s => rfl
  ·have := PMap.made (w.alloc (.map #[] 0))
   rw [World.size_alloc] at this
   exact ((this.alloc _).alloc _).congr fun s => rfl
 have hE := each_any _ w A c os 63 #[.pointer (some ⟨w.heap.size + 1 + 1, 0, none⟩), .pointer (some ⟨w.heap.size + 1 + 1 + 1, 0, none⟩)] (fun o k W => PI w.heap.size w os (w.heap.size + 1 + 1) (w.heap.size + 1 + 1 + 1) w.heap.size (w.heap.size + 1) o k W) (fun _ _ _ => False)
  (enters_of Tryz.func63 (by kernel_rfl) rfl) HO.out hc (by have := HT.out.1; omega) (fun i hi => by have := (HT.out.2 i hi).1; omega) (fun o k W h => h.below) hW (fun o W _ h => h.next) (fun o k W x h => h.alloc h.size x)
  (fun o k W ho hk h => (places1_any _ _ os _ _ _ _ o k W h h.size (HT.out.pre_le ho (Nat.le_of_lt hk)) ((HT.out.2 o ho).2 k hk).1 ((HT.out.2 o ho).2 k hk).2).mono fun e w' h => .inl h)
 have HE := Azz.mk hE
 clear hE hW hmm
 (with_reducible refine HE.out.mono ?_)
 rintro e V ⟨⟨r, rfl⟩, hV⟩
 replace hV := hV.resolve_right (fun ⟨_, _, _, _, h⟩ => h)
 clear HE
 have HV := Azz.mk hV
 have hb := hV.wbox.cell
 have hlen : (preS os os.length 0).length ≤ 100000 := by
  have h1 := preS_len (fun i hi => (HT.out.2 i hi).1) os.length (Nat.le_refl _)
  have h4 : os.length * 140 ≤ 12 * 140 := Nat.mul_le_mul_right _ HT.out.1
  rw [← allS_pre]
  unfold allS
  omega
 have hbs := hV.sbox.cell
 have hnw : (preS os os.length 0).length ≤ 100000 := hlen
 clear hV
 go_wp2_with (at_range; refine wpl_prange _ rfl _ rfl (w.heap.size + 1) _ _ rfl HV.out.wmap ?_; intro V1 left0 cnt0 hr0 hl0 hc0 hg0 hs0)
 go_frame
 have hJ0 : JI w.heap.size w (fm strongQ (preS os os.length 0)) (fm weakQ (preS os os.length 0)) (w.heap.size + 1 + 1) w.heap.size (w.heap.size + 1) V.heap.size (preS os os.length 0).length V1 left0 cnt0 (fm strongQ (preS os os.length 0)) (preS os os.length 0).length := by
  have hVs := HV.out.size
  refine ⟨boxed_grown HV.out.sbox hg0 (by simp), HV.out.smap.kept hg0 (by simp), hr0, fun s hs => ?_, HV.out.below.grown hg0 hVs (fun q hq => by cases hq), ⟨by omega, by omega, by omega, hVs⟩, ⟨by omega, by have := HV.out.smap.lt; omega⟩, by omega⟩
  cases e : fm strongQ (preS os os.length 0) s with
  | some p => exact .inl ⟨rfl, rfl⟩
  | none =>
   refine .inr ⟨rfl, ?_⟩
   cases e2 : left0 (klS s) with
   | true => exact .inl ⟨rfl, rfl⟩
   | false =>
    refine .inr ⟨rfl, ?_⟩
    cases e3 : fm weakQ (preS os os.length 0) s with
    | none => rfl
    | some p =>
     have := (hl0 s hs).2 (by rw [e3]; rfl)
     rw [e2] at this
     cases this
 have HJ0 := Azz.mk hJ0
 clear hJ0 hr0 hl0 hc0 hg0 hs0 hb hbs HV hlen hnw
 go_loopw [16] (fun v wr => ∃ left cnt h m, Azz (JI w.heap.size w (fm strongQ (preS os os.length 0)) (fm weakQ (preS os os.length 0)) (w.heap.size + 1 + 1) w.heap.size (w.heap.size + 1) V.heap.size (preS os os.length 0).length wr left cnt h m)) (fun _ wr => wr.rangeLeft (w.heap.size + 1) V.heap.size)
 case atStart => exact ⟨_, _, _, _, HJ0⟩
 case round =>
  clear HJ0
  obtain ⟨left, cnt, h, m, HJ⟩ := hrel
  have hbx := HJ.out.sbox.cell
  go_wp2_with (at_next; refine wpl_pnext _ rfl _ rfl (w.heap.size + 1) V.heap.size _ _ left cnt rfl HJ.out.run ?_ ?_)
  ·intro hd
   go_wp2
   go_ret
   refine ⟨w.heap.size, m, rfl, ?_, HJ.out.below, Nat.le_refl _, by have := HJ.out.room; omega⟩
   refine (HJ.out.done hd (fun s p hp => ?_) (fun s p hp => ?_)).congr fun s => ?_
   ·exact fm_small HT.out s p hp
   ·exact fm_small HT.out s p hp
   ·rw [placeS_or, allS_pre]
  ·intro s x1 x2 x3 w1 left1 cnt1 hf hs hl hla hlb hr1 hc1 hg1 hs1 hen
   have HK := Azz.mk (And.intro hf (And.intro hl (And.intro (And.intro hla hlb) (And.intro hr1 (And.intro hc1 hg1)))))
   have HS1 := Azz.mk (HJ.out.step hr1 hc1 hg1)
   have hbx1 := fun ob => (HS1.out.1.alloc ob).cell
   have hbx2 := HS1.out.1.cell
   have hbx3 := fun oa ob => ((HS1.out.1.alloc oa).alloc ob).cell
   clear hf hl hla hlb hr1 hc1 hg1 hbx
   cases hh : h s with
   | some q =>
    obtain ⟨q1, q2, q3⟩ := q
    have hf1 : (h s).getD ⟨0, 0, 0⟩ = ⟨q1, q2, q3⟩ := by rw [hh]; rfl
    have hf2 : (h s).isSome = true := by rw [hh]; rfl
    have HH := Azz.mk hh
    have HM := Azz.mk (And.intro hf1 hf2)
    clear hh hf1 hf2
    go_wp2_with (at_lookup; refine wpl_plook _ rfl _ _ rfl w.heap.size _ _ s q1 q2 q3 true rfl (HS1.out.2.1.alloc _) rfl hs HM.out.1 HM.out.2 ?_)
    go_roundw
    case rel =>
     obtain ⟨hf, hl, hl1, hr1, hc1, hg1⟩ := HK.out
     exact ⟨_, _, _, _, ⟨((HJ.out.old (p := ⟨x1, x2, x3⟩) hs hl hl1 hr1 hc1 hg1 HH.out).alloc _).alloc _⟩⟩
    case measure =>
     obtain ⟨hf, hl, hl1, hr1, hc1, hg1⟩ := HK.out
     have e1 := ((HJ.out.old (p := ⟨x1, x2, x3⟩) hs hl hl1 hr1 hc1 hg1 HH.out).alloc (.cells #[.int .i64 x1, .int .i64 x2, .int .i64 x3] 49)).alloc (.cells #[.int .i64 q1, .int .i64 q2, .int .i64 q3] 49)
     rw [e1.run.left_eq, HJ.out.run.left_eq]
     exact hc1
   | none =>
    have hf1 : (h s).getD ⟨0, 0, 0⟩ = ⟨0, 0, 0⟩ := by rw [hh]; rfl
    have hf2 : (h s).isSome = false := by rw [hh]; rfl
    have HH := Azz.mk hh
    have HM := Azz.mk (And.intro hf1 hf2)
    have hmm : m < maxLen := by have := HJ.out.room; unfold maxLen; omega
    clear hh hf1 hf2
    go_wp2_with (first
     | (at_lookup; refine wpl_plook _ rfl _ _ rfl w.heap.size _ _ s 0 0 0 false rfl (HS1.out.2.1.alloc _) rfl hs HM.out.1 HM.out.2 ?_)
     | (at_mapUpdate; refine wpl_pstore _ rfl _ _ _ rfl w.heap.size m _ s x1 x2 x3 rfl ((HS1.out.2.1.alloc _).alloc _) hmm rfl rfl hs ?_; intro w2 hm2 ht2; have HT := Azz.mk (And.intro hm2 ht2.grown); clear hm2 ht2))
    go_frame
    have HN : Azz (∃ cnt', cnt' < cnt ∧ JI w.heap.size w (fm strongQ (preS os os.length 0)) (fm weakQ (preS os os.length 0)) (w.heap.size + 1 + 1) w.heap.size (w.heap.size + 1) V.heap.size (preS os os.length 0).length w2 left1 cnt' (upP h s ⟨x1, x2, x3⟩) (m + 1)) := ⟨by
     obtain ⟨hf, hl, hl1, hr1, hc1, hg1⟩ := HK.out
     obtain ⟨hm2, hg2⟩ := HT.out
     exact ⟨cnt1, hc1, HJ.out.new hs hf hl hl1 hr1 hc1 hg1 HH.out hm2 hg2⟩⟩
    go_roundw
    case rel =>
     obtain ⟨c', _, hJ⟩ := HN.out
     exact ⟨_, _, _, _, ⟨hJ⟩⟩
    case measure =>
     obtain ⟨c', hc, hJ⟩ := HN.out
     rw [hJ.run.left_eq, HJ.out.run.left_eq]
     exact hc
end Go.Proofs.YtngmipfodjgmmaaGreatDoor.Pure
end
