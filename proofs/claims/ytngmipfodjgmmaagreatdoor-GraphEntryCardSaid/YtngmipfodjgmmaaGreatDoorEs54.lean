/- Walks and plain laws of this claim, a part. -/
import Derived.Test.YtngmipfodjgmmaaGreatDoorEs52
section
namespace Go.Proofs.YtngmipfodjgmmaaGreatDoor.Pure
open Go Go.RowKit Go.Lib Go.Shelf Go.Maps Go.Proofs.YtngmipfodjgmmaaGreatDoorW.PrintWords Go.Proofs.YtngmipfodjgmmaaGreatDoorW.PrintLast Go.Proofs.YtngmipfodjgmmaaGreatDoorW.PrintMore
open P (Glob)
set_option linter.unusedVariables false
set_option linter.unusedSimpArgs false
def syV (s : Sy) : Value := .agg #[.string s.f0, .int .i64 s.f1, .int .i64 s.f2, .int .i64 s.f3]
set_option maxRecDepth 100000 in
set_option maxHeartbeats 2000000 in
theorem each_any (w w0 : World) (A : Option Addr) (c : Nat) (os : List Ob) (F : Nat) (bs : Array Value) (I Stop : Nat → Nat → World → Prop)
 (hF : Enters Tryz.prog F) (hos : OA w0 A os) (hc : os.length ≤ c) (hol : os.length ≤ 100000) (hsl : ∀ i, i < os.length → nsy os i ≤ 100000)
 (hI : ∀ o k W, I o k W → Below w0.heap.size w0 W) (h0 : I 0 0 w) (hn : ∀ o W, o < os.length → I o (nsy os o) W → I (o + 1) 0 W) (ha : ∀ o k W x, I o k W → I o k (W.alloc x))
 (hs : ∀ o k W, o < os.length → k < nsy os o → I o k W → Calls Tryz.prog F (#[.int .i64 o, .int .i64 k, syV (syN os o k)] ++ bs) W fun e w' => (e = .returned (.bool true) ∧ I o (k + 1) w') ∨ (e = .returned (.bool false) ∧ Stop o k w')) :
 Calls Tryz.prog 47 #[.slice A os.length c, .func (.func F) #[] bs] w fun e w' => (∃ r, e = .returned r) ∧ (I os.length 0 w' ∨ ∃ o k, o < os.length ∧ k < nsy os o ∧ Stop o k w') := by
 have hen : ∀ (args : Array Value) (W : World), (callFunc F args).run Tryz.prog W = .ok (.enter F args) W := hF
 have HO := Azz.mk hos
 have HI := Azz.mk hI
 have H0 := Azz.mk h0
 have HN := Azz.mk hn
 have HA := Azz.mk ha
 have HS := Azz.mk hs
 have HL := Azz.mk hsl
 clear hF hos hI h0 hn ha hs hsl
 go_enter Tryz.func47, Tryz.ntmps47
 go_wp2
 go_loopw [9] (fun v wr => ∃ o : Nat, o ≤ os.length ∧ v = .int .i64 o ∧ Azz (I o 0 wr)) (fun v _ => os.length - (RowKit.intOf v).toNat)
 case atStart => exact ⟨0, Nat.zero_le _, rfl, H0⟩
 case round =>
  clear H0
  obtain ⟨o, ho, rfl, HW⟩ := hrel
  by_cases hlt : o < os.length
  ·obtain ⟨ad, A0, c0, A1, c1, e0, x0, x1, l0, C0, l1, C1⟩ := P.at_T68 HO.out o (by omega) (by omega)
   subst e0
   rw [Int.toNat_natCast] at x0 x1
   have HSy : Azz (SyA w0 A1 (obN os o).f1) := ⟨C1⟩
   have hnl : (P.rd_T68 os o).f1.length = nsy os o := rfl
   rw [hnl] at x1 l1
   have ho0 : (0 : Int) ≤ (o : Int) := by omega
   have ho1 : (o : Int) < os.length := by omega
   have hml := HL.out o hlt
   replace x1 := keepS x1 (HI.out _ _ _ HW.out)
   clear C0 C1 l0 x0
   go_wp2
   go_loopw [18] (fun v wx => ∃ k : Nat, k ≤ nsy os o ∧ v = .int .i64 k ∧ Azz (I o k wx)) (fun v _ => nsy os o - (RowKit.intOf v).toNat)
   case atStart => exact ⟨0, Nat.zero_le _, rfl, HW⟩
   case round =>
    clear HW x1
    obtain ⟨k, hk, rfl, HW⟩ := hrel
    by_cases hkl : k < nsy os o
    ·obtain ⟨ad1, e1, y0, y1, y2, y3⟩ := P.at_T85 (Kd.C_below HSy.out (HI.out _ _ _ HW.out)) k (by omega) (by show (k : Int) < (nsy os o : Int); omega)
     subst e1
     rw [Int.toNat_natCast] at y0 y1 y2 y3
     have HC := Azz.mk (fun W h => HS.out o k W hlt hkl h)
     unfold syV syN obN at HC
     obtain ⟨s, hs⟩ : ∃ s, P.rd_T85 (P.rd_T68 os o).f1 k = s := ⟨_, rfl⟩
     have HSe := Azz.mk hs
     unfold obN at y0 y1 y2 y3
     rw [hs] at y0 y1 y2 y3 HC
     clear hs
     go_wp2_with fail
     (with_reducible refine (HC.out _ (HA.out _ _ _ _ HW.out)).mono ?_)
     rintro e w2 (⟨rfl, hw⟩ | ⟨rfl, hw⟩)
     ·have HW2 := Azz.mk hw
      clear hw HC HW y0 y1 y2 y3
      go_wp2
      go_roundw
      case rel => exact ⟨k + 1, by omega, by go_num, HW2⟩
      case measure => simp [RowKit.intOf]; omega
     ·have HW2 := Azz.mk hw
      clear hw HC HW y0 y1 y2 y3
      go_wp2
      (try simp only [Exit.inBlock, Exit.then])
      refine bodyPost_ret (results_none rfl _ _ _) rfl ?_
      exact ⟨⟨_, rfl⟩, .inr ⟨o, k, hlt, hkl, HW2.out⟩⟩
    ·obtain rfl : k = nsy os o := by omega
     go_wp2
     go_roundw
     case rel => exact ⟨o + 1, by omega, by go_num, ⟨HN.out _ _ hlt HW.out⟩⟩
     case measure => simp [RowKit.intOf]; omega
  ·obtain rfl : o = os.length := by omega
   go_wp2
   go_end0
   exact ⟨⟨_, rfl⟩, .inl HW.out⟩
end Go.Proofs.YtngmipfodjgmmaaGreatDoor.Pure
end
section
namespace Go.Proofs.YtngmipfodjgmmaaGreatDoor.Pure
open Go Go.RowKit Go.Lib Go.Shelf Go.Maps Go.Proofs.YtngmipfodjgmmaaGreatDoorW.PrintWords Go.Proofs.YtngmipfodjgmmaaGreatDoorW.PrintLast Go.Proofs.YtngmipfodjgmmaaGreatDoorW.PrintMore
open P (Glob)
set_option linter.unusedVariables false
set_option linter.unusedSimpArgs false
/-- What the symbols of L place, of kind q. -/
def fm (q : Sy → Bool) (L : List Tg) (n : ByteArray) : Option Pl := (firstS q L n).map plOf
theorem fm_no {q : Sy → Bool} {L : List Tg} {t : Tg} (h : q t.2.2 = false) (n : ByteArray) : fm q L n = fm q (L ++ [t]) n := by
 unfold fm
 rw [firstS_snoc_no h]
theorem fm_old {q : Sy → Bool} {L : List Tg} {t : Tg} {p : Pl} (h : fm q L t.2.2.f0 = some p) (n : ByteArray) : fm q L n = fm q (L ++ [t]) n := by
 by_cases e : t.2.2.f0 = n
 ·subst e
  unfold fm at h ⊢
  cases h1 : firstS q L t.2.2.f0 with
  | none => rw [h1] at h; cases h
  | some u => rw [firstS_snoc_old h1]
 ·unfold fm
  rw [firstS_snoc_other e]
theorem fm_new {q : Sy → Bool} {L : List Tg} {t : Tg} (h : fm q L t.2.2.f0 = none) (hq : q t.2.2 = true) (n : ByteArray) : upP (fm q L) t.2.2.f0 (plOf t) n = fm q (L ++ [t]) n := by
 unfold upP
 by_cases e : n = t.2.2.f0
 ·subst e
  rw [if_pos rfl]
  unfold fm at h ⊢
  rw [firstS_snoc_new (Option.map_eq_none_iff.1 h) hq]
  rfl
 ·rw [if_neg e]
  unfold fm
  rw [firstS_snoc_other (fun c => e c.symm)]
/-- The names that are looked at are short, and each is bound in one of three ways. -/
def Tame (os : List Ob) : Prop := os.length ≤ 12 ∧ ∀ i, i < os.length → nsy os i ≤ 140 ∧ ∀ k, k < nsy os i → (syN os i k).f0.size ≤ 100 ∧ ((syN os i k).f1 = 1 ∨ (syN os i k).f1 = 2 ∨ (syN os i k).f1 = 3)
theorem Tame.pre_le {os : List Ob} (h : Tame os) {o k : Nat} (ho : o < os.length) (hk : k ≤ nsy os o) : (preS os o k).length ≤ 100000 := by
 have h1 := preS_len (fun i hi => (h.2 i hi).1) o (by omega)
 have h2 := (h.2 o ho).1
 have h3 : (rowS os o k).length = k := by simp [rowS]
 have h4 : o * 140 ≤ 12 * 140 := Nat.mul_le_mul_right _ (by have := h.1; omega)
 unfold preS
 rw [List.length_append]
 omega
/-- Going on: what the two maps hold. -/
structure PI (B : Nat) (w0 : World) (os : List Ob) (sb wb sm wm : Nat) (o k : Nat) (W : World) : Prop where
 sbox : Boxed W sb 88 (.map (some sm))
 wbox : Boxed W wb 88 (.map (some wm))
 smap : PMap W sm (preS os o k).length (fm strongQ (preS os o k))
 wmap : PMap W wm (preS os o k).length (fm weakQ (preS os o k))
 below : Below B w0 W
 base : B ≤ sb ∧ B ≤ wb ∧ B ≤ sm ∧ B ≤ wm
 ne : sm ≠ wm
theorem PI.alloc {B w0 os sb wb sm wm o k W} (h : PI B w0 os sb wb sm wm o k W) (hB : B ≤ W.heap.size) (x : Obj) : PI B w0 os sb wb sm wm o k (W.alloc x) :=
 ⟨h.sbox.alloc x, h.wbox.alloc x, h.smap.alloc x, h.wmap.alloc x, h.below.alloc hB x, h.base, h.ne⟩
theorem PI.size {B w0 os sb wb sm wm o k W} (h : PI B w0 os sb wb sm wm o k W) : B ≤ W.heap.size := by
 have := h.sbox.lt
 have := h.base
 omega
theorem PI.next {B w0 os sb wb sm wm o W} (h : PI B w0 os sb wb sm wm o (nsy os o) W) : PI B w0 os sb wb sm wm (o + 1) 0 W := by
 obtain ⟨a, b, c, d, e, f, g⟩ := h
 exact ⟨a, b, by rw [preS_next]; exact c, by rw [preS_next]; exact d, e, f, g⟩
theorem boxed_grown {w w' : World} {b t : Nat} {v : Value} {row : Option Nat} (h : Boxed w b t v) (hg : w.grownBy w' row) (hn : some b ≠ row) : Boxed w' b t v := (hg.block b h.lt hn).trans h
theorem box_ne_map {w : World} {b m t : Nat} {v : Value} {n : Nat} {f : ByteArray → Option Pl} (h : Boxed w b t v) (hm : PMap w m n f) : b ≠ m := by
 rintro rfl
 obtain ⟨D, ⟨es, clock, h1, _⟩, _⟩ := hm
 rw [show w.heap[b]? = _ from h] at h1
 cases h1
/-- A symbol that is not placed. -/
theorem PI.skip {B w0 os sb wb sm wm o k W} (h : PI B w0 os sb wb sm wm o k W) (h1 : strongQ (syN os o k) = false) (h2 : weakQ (syN os o k) = false) : PI B w0 os sb wb sm wm o (k + 1) W := by
 obtain ⟨a, b, c, d, e, f, g⟩ := h
 refine ⟨a, b, ?_, ?_, e, f, g⟩
 ·rw [preS_succ, List.length_append]
  exact (c.congr (fm_no (t := (o, k, syN os o k)) h1)).mono (Nat.le_add_right _ _)
 ·rw [preS_succ, List.length_append]
  exact (d.congr (fm_no (t := (o, k, syN os o k)) h2)).mono (Nat.le_add_right _ _)
theorem PI.sold {B w0 os sb wb sm wm o k W} (h : PI B w0 os sb wb sm wm o k W) {p : Pl} (h1 : fm strongQ (preS os o k) (syN os o k).f0 = some p) (h2 : weakQ (syN os o k) = false) : PI B w0 os sb wb sm wm o (k + 1) W := by
 obtain ⟨a, b, c, d, e, f, g⟩ := h
 refine ⟨a, b, ?_, ?_, e, f, g⟩
 ·rw [preS_succ, List.length_append]
  exact (c.congr (fm_old (t := (o, k, syN os o k)) h1)).mono (Nat.le_add_right _ _)
 ·rw [preS_succ, List.length_append]
  exact (d.congr (fm_no (t := (o, k, syN os o k)) h2)).mono (Nat.le_add_right _ _)
theorem PI.wold {B w0 os sb wb sm wm o k W} (h : PI B w0 os sb wb sm wm o k W) {p : Pl} (h1 : fm weakQ (preS os o k) (syN os o k).f0 = some p) (h2 : strongQ (syN os o k) = false) : PI B w0 os sb wb sm wm o (k + 1) W := by
 obtain ⟨a, b, c, d, e, f, g⟩ := h
 refine ⟨a, b, ?_, ?_, e, f, g⟩
 ·rw [preS_succ, List.length_append]
  exact (c.congr (fm_no (t := (o, k, syN os o k)) h2)).mono (Nat.le_add_right _ _)
 ·rw [preS_succ, List.length_append]
  exact (d.congr (fm_old (t := (o, k, syN os o k)) h1)).mono (Nat.le_add_right _ _)
theorem PI.snew {B w0 os sb wb sm wm o k W W'} (h : PI B w0 os sb wb sm wm o k W) (h1 : fm strongQ (preS os o k) (syN os o k).f0 = none) (hq : strongQ (syN os o k) = true) (h2 : weakQ (syN os o k) = false)
 (hm : PMap W' sm ((preS os o k).length + 1) (upP (fm strongQ (preS os o k)) (syN os o k).f0 (plOf (o, k, syN os o k)))) (hg : W.grownBy W' (some sm)) : PI B w0 os sb wb sm wm o (k + 1) W' := by
 have e1 := box_ne_map h.sbox h.smap
 have e2 := box_ne_map h.wbox h.smap
 obtain ⟨a, b, c, d, e, f, g⟩ := h
 refine ⟨boxed_grown a hg (by simpa using e1), boxed_grown b hg (by simpa using e2), ?_, ?_, e.grown hg (PI.size ⟨a, b, c, d, e, f, g⟩) (fun q hq => by obtain rfl := Option.some.inj hq; exact f.2.2.1), f, g⟩
 ·rw [preS_succ, List.length_append]
  exact hm.congr (fm_new (t := (o, k, syN os o k)) h1 hq)
 ·rw [preS_succ, List.length_append]
  exact ((d.kept hg (by simpa using g.symm)).congr (fm_no (t := (o, k, syN os o k)) h2)).mono (Nat.le_add_right _ _)
theorem PI.wnew {B w0 os sb wb sm wm o k W W'} (h : PI B w0 os sb wb sm wm o k W) (h1 : fm weakQ (preS os o k) (syN os o k).f0 = none) (hq : weakQ (syN os o k) = true) (h2 : strongQ (syN os o k) = false)
 (hm : PMap W' wm ((preS os o k).length + 1) (upP (fm weakQ (preS os o k)) (syN os o k).f0 (plOf (o, k, syN os o k)))) (hg : W.grownBy W' (some wm)) : PI B w0 os sb wb sm wm o (k + 1) W' := by
 have e1 := box_ne_map h.sbox h.wmap
 have e2 := box_ne_map h.wbox h.wmap
 obtain ⟨a, b, c, d, e, f, g⟩ := h
 refine ⟨boxed_grown a hg (by simpa using e1), boxed_grown b hg (by simpa using e2), ?_, ?_, e.grown hg (PI.size ⟨a, b, c, d, e, f, g⟩) (fun q hq => by obtain rfl := Option.some.inj hq; exact f.2.2.2), f, g⟩
 ·rw [preS_succ, List.length_append]
  exact ((c.kept hg (by simpa using g)).congr (fm_no (t := (o, k, syN os o k)) h2)).mono (Nat.le_add_right _ _)
 ·rw [preS_succ, List.length_append]
  exact hm.congr (fm_new (t := (o, k, syN os o k)) h1 hq)
set_option maxRecDepth 100000 in
set_option maxHeartbeats 2000000 in
theorem places1_any (B : Nat) (w0 : World) (os : List Ob) (sb wb sm wm o k : Nat) (W : World) (h : PI B w0 os sb wb sm wm o k W) (hB : B ≤ W.heap.size) (hlen : (preS os o k).length ≤ 100000)
 (hs : (syN os o k).f0.size ≤ 100) (hb : (syN os o k).f1 = 1 ∨ (syN os o k).f1 = 2 ∨ (syN os o k).f1 = 3) :
 Calls Tryz.prog 63 #[.int .i64 o, .int .i64 k, syV (syN os o k), .pointer (some ⟨sb, 0, none⟩), .pointer (some ⟨wb, 0, none⟩)] W fun e w' => e = .returned (.bool true) ∧ PI B w0 os sb wb sm wm o (k + 1) w' := by
 have HP := Azz.mk h
 have h1 := fun o => (h.sbox.alloc o).cell
 have h2 := fun o => (h.wbox.alloc o).cell
 have hn : (preS os o k).length < maxLen := by unfold maxLen; omega
 clear h
 obtain ⟨s, hse⟩ : ∃ s, syN os o k = s := ⟨_, rfl⟩
 have HSe := Azz.mk hse
 rw [hse] at hs hb ⊢
 clear hse
 obtain ⟨nm, bd, sc, off⟩ := s
 have hs : nm.size ≤ 100 := hs
 have hb : bd = 1 ∨ bd = 2 ∨ bd = 3 := hb
 unfold syV
 dsimp only
 have HQs : Azz (strongQ (syN os o k) = decide (bd = 2 ∧ 0 ≤ sc)) := ⟨by rw [HSe.out]; rfl⟩
 have HQw : Azz (weakQ (syN os o k) = decide (bd = 3 ∧ 0 ≤ sc)) := ⟨by rw [HSe.out]; rfl⟩
 have HNm : Azz ((syN os o k).f0 = nm) := ⟨by rw [HSe.out]⟩
 have HPl : Azz (plOf (o, k, syN os o k) = ⟨(o : Int), sc, off⟩) := ⟨by unfold plOf; rw [HSe.out]⟩
 by_cases hsc : sc < 0
 ·have HSk : Azz (PI B w0 os sb wb sm wm o (k + 1) W) := ⟨HP.out.skip (by rw [HQs.out]; exact decide_eq_false (by omega)) (by rw [HQw.out]; exact decide_eq_false (by omega))⟩
  rcases hb with rfl | rfl | rfl <;> (go_enter Tryz.func63, Tryz.ntmps63; go_wp2; go_ret; exact ⟨rfl, HSk.out.alloc hB _⟩)
 ·rcases hb with rfl | rfl | rfl
  ·have HSk : Azz (PI B w0 os sb wb sm wm o (k + 1) W) := ⟨HP.out.skip (by rw [HQs.out]; exact decide_eq_false (by omega)) (by rw [HQw.out]; exact decide_eq_false (by omega))⟩
   go_enter Tryz.func63, Tryz.ntmps63
   go_wp2
   go_ret
   exact ⟨rfl, HSk.out.alloc hB _⟩
  ·have hq1 : strongQ (syN os o k) = true := by rw [HQs.out]; exact decide_eq_true ⟨rfl, by omega⟩
   have hq2 : weakQ (syN os o k) = false := by rw [HQw.out]; exact decide_eq_false (by omega)
   have HQ := Azz.mk (And.intro hq1 hq2)
   clear hq1 hq2
   cases hf : fm strongQ (preS os o k) nm with
   | some p =>
    obtain ⟨p1, p2, p3⟩ := p
    have HF := Azz.mk hf
    have hf1 : (fm strongQ (preS os o k) nm).getD ⟨0, 0, 0⟩ = ⟨p1, p2, p3⟩ := by rw [hf]; rfl
    have hf2 : (fm strongQ (preS os o k) nm).isSome = true := by rw [hf]; rfl
    have HM := Azz.mk (And.intro hf1 hf2)
    clear hf hf1 hf2
    go_enter Tryz.func63, Tryz.ntmps63
    go_wp2_with (at_lookup; refine wpl_plook _ rfl _ _ rfl sm _ _ nm p1 p2 p3 true rfl (HP.out.smap.alloc _) rfl hs HM.out.1 HM.out.2 ?_)
    go_ret
    exact ⟨rfl, ((HP.out.sold (by rw [HNm.out]; exact HF.out) HQ.out.2).alloc hB _).alloc (by simp; omega) _⟩
   | none =>
    have HF := Azz.mk hf
    have hf1 : (fm strongQ (preS os o k) nm).getD ⟨0, 0, 0⟩ = ⟨0, 0, 0⟩ := by rw [hf]; rfl
    have hf2 : (fm strongQ (preS os o k) nm).isSome = false := by rw [hf]; rfl
    have HM := Azz.mk (And.intro hf1 hf2)
    clear hf hf1 hf2
    go_enter Tryz.func63, Tryz.ntmps63
    go_wp2_with (first
     | (at_lookup; refine wpl_plook _ rfl _ _ rfl sm _ _ nm 0 0 0 false rfl (HP.out.smap.alloc _) rfl hs HM.out.1 HM.out.2 ?_)
     | (at_mapUpdate; refine wpl_pstore _ rfl _ _ _ rfl sm _ _ nm o sc off rfl ((HP.out.smap.alloc _).alloc _) hn rfl rfl hs ?_; intro w1 hm1 ht1; have HT := Azz.mk (And.intro hm1 ht1.grown); clear hm1 ht1))
    go_ret
    exact ⟨rfl, ((HP.out.alloc hB _).alloc (by simp; omega) _).snew (by rw [HNm.out]; exact HF.out) HQ.out.1 HQ.out.2 (by rw [HNm.out, HPl.out]; exact HT.out.1) HT.out.2⟩
  ·have hq1 : weakQ (syN os o k) = true := by rw [HQw.out]; exact decide_eq_true ⟨rfl, by omega⟩
   have hq2 : strongQ (syN os o k) = false := by rw [HQs.out]; exact decide_eq_false (by omega)
   have HQ := Azz.mk (And.intro hq1 hq2)
   clear hq1 hq2
   cases hf : fm weakQ (preS os o k) nm with
   | some p =>
    obtain ⟨p1, p2, p3⟩ := p
    have HF := Azz.mk hf
    have hf1 : (fm weakQ (preS os o k) nm).getD ⟨0, 0, 0⟩ = ⟨p1, p2, p3⟩ := by rw [hf]; rfl
    have hf2 : (fm weakQ (preS os o k) nm).isSome = true := by rw [hf]; rfl
    have HM := Azz.mk (And.intro hf1 hf2)
    clear hf hf1 hf2
    go_enter Tryz.func63, Tryz.ntmps63
    go_wp2_with (at_lookup; refine wpl_plook _ rfl _ _ rfl wm _ _ nm p1 p2 p3 true rfl (HP.out.wmap.alloc _) rfl hs HM.out.1 HM.out.2 ?_)
    go_ret
    exact ⟨rfl, ((HP.out.wold (by rw [HNm.out]; exact HF.out) HQ.out.2).alloc hB _).alloc (by simp; omega) _⟩
   | none =>
    have HF := Azz.mk hf
    have hf1 : (fm weakQ (preS os o k) nm).getD ⟨0, 0, 0⟩ = ⟨0, 0, 0⟩ := by rw [hf]; rfl
    have hf2 : (fm weakQ (preS os o k) nm).isSome = false := by rw [hf]; rfl
    have HM := Azz.mk (And.intro hf1 hf2)
    clear hf hf1 hf2
    go_enter Tryz.func63, Tryz.ntmps63
    go_wp2_with (first
     | (at_lookup; refine wpl_plook _ rfl _ _ rfl wm _ _ nm 0 0 0 false rfl (HP.out.wmap.alloc _) rfl hs HM.out.1 HM.out.2 ?_)
     | (at_mapUpdate; refine wpl_pstore _ rfl _ _ _ rfl wm _ _ nm o sc off rfl ((HP.out.wmap.alloc _).alloc _) hn rfl rfl hs ?_; intro w1 hm1 ht1; have HT := Azz.mk (And.intro hm1 ht1.grown); clear hm1 ht1))
    go_ret
    exact ⟨rfl, ((HP.out.alloc hB _).alloc (by simp; omega) _).wnew (by rw [HNm.out]; exact HF.out) HQ.out.1 HQ.out.2 (by rw [HNm.out, HPl.out]; exact HT.out.1) HT.out.2⟩
end Go.Proofs.YtngmipfodjgmmaaGreatDoor.Pure
end
