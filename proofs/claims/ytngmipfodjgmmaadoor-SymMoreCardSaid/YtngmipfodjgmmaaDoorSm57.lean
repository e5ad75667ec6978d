/- 'sym.places' walked: the place of each name. -/
import Derived.Test.YtngmipfodjgmmaaDoorSm56
namespace Go.Proofs.YtngmipfodjgmmaaDoor.Pure
open Go Go.RowKit Go.Lib Go.Shelf Go.Maps Go.Proofs.YtngmipfodjgmmaaDoorW.PrintWords Go.Proofs.YtngmipfodjgmmaaDoorW.PrintLast Go.Proofs.YtngmipfodjgmmaaDoorW.PrintMore
open P (Glob)
set_option linter.unusedVariables false
set_option linter.unusedSimpArgs false
/-- What the symbols of L place, of kind q. -/
def fm (q : Sy → Bool) (L : List Tg) (n : ByteArray) : Option Pl := (firstS q L n).map plOf
theorem fm_no {q : Sy → Bool} {L : List Tg} {t : Tg} (h : q t.2.2 = false) (n : ByteArray) : fm q L n = fm q (L ++ [t]) n := by
  unfold fm
  rw [firstS_snoc_no h]
theorem fm_old {q : Sy → Bool} {L : List Tg} {t : Tg} {p : Pl} (h : fm q L t.2.2.f0 = some p) (n : ByteArray) : fm q L n = fm q (L ++ [t]) n := by
  by_cases e : t.2.2.f0 = n
  · subst e
    unfold fm at h ⊢
    cases h1 : firstS q L t.2.2.f0 with
    | none => rw [h1] at h; cases h
    | some u => rw [firstS_snoc_old h1]
  · unfold fm
    rw [firstS_snoc_other e]
theorem fm_new {q : Sy → Bool} {L : List Tg} {t : Tg} (h : fm q L t.2.2.f0 = none) (hq : q t.2.2 = true) (n : ByteArray) : upP (fm q L) t.2.2.f0 (plOf t) n = fm q (L ++ [t]) n := by
  unfold upP
  by_cases e : n = t.2.2.f0
  · subst e
    rw [if_pos rfl]
    unfold fm at h ⊢
    rw [firstS_snoc_new (Option.map_eq_none_iff.1 h) hq]
    rfl
  · rw [if_neg e]
    unfold fm
    rw [firstS_snoc_other (fun c => e c.symm)]
/-- The names that are looked at are short, and each is bound in one of three ways. -/
def Tame (os : List Ob) : Prop := os.length ≤ 12 ∧ ∀ i, i < os.length → nsy os i ≤ 140 ∧ ∀ k, k < nsy os i → (syN os i k).f0.size ≤ 100 ∧ ((syN os i k).f1 = 1 ∨ (syN os i k).f1 = 2 ∨ (syN os i k).f1 = 3)
theorem Tame.pre_le {os : List Ob} (h : Tame os) {o k : Nat} (ho : o < os.length) (hk : k ≤ nsy os o) : (preS os o k).length ≤ 100000 := by
  have h1 := preS_len (fun i hi => (h.2 i hi).1) o (by omega)
  have h2 := (h.2 o ho).1
  have h3 : (rowS os o k).length = k := by simp [rowS]
  have h4 : o * 140 ≤ 12 * 140 := Nat.mul_le_mul_right _ (by have := h.1; omega)
  unfold preS
  rw [List.length_append]
  omega
/-- Going on: what the two maps hold. -/
structure PI (B : Nat) (w0 : World) (os : List Ob) (sb wb sm wm : Nat) (o k : Nat) (W : World) : Prop where
  sbox : Boxed W sb 81 (.map (some sm))
  wbox : Boxed W wb 81 (.map (some wm))
  smap : PMap W sm (preS os o k).length (fm strongQ (preS os o k))
  wmap : PMap W wm (preS os o k).length (fm weakQ (preS os o k))
  below : Below B w0 W
  base : B ≤ sb ∧ B ≤ wb ∧ B ≤ sm ∧ B ≤ wm
  ne : sm ≠ wm
theorem PI.alloc {B w0 os sb wb sm wm o k W} (h : PI B w0 os sb wb sm wm o k W) (hB : B ≤ W.heap.size) (x : Obj) : PI B w0 os sb wb sm wm o k (W.alloc x) :=
  ⟨h.sbox.alloc x, h.wbox.alloc x, h.smap.alloc x, h.wmap.alloc x, h.below.alloc hB x, h.base, h.ne⟩
theorem PI.size {B w0 os sb wb sm wm o k W} (h : PI B w0 os sb wb sm wm o k W) : B ≤ W.heap.size := by
  have := h.sbox.lt
  have := h.base
  omega
theorem PI.next {B w0 os sb wb sm wm o W} (h : PI B w0 os sb wb sm wm o (nsy os o) W) : PI B w0 os sb wb sm wm (o + 1) 0 W := by
  obtain ⟨a, b, c, d, e, f, g⟩ := h
  exact ⟨a, b, by rw [preS_next]; exact c, by rw [preS_next]; exact d, e, f, g⟩
theorem boxed_grown {w w' : World} {b t : Nat} {v : Value} {row : Option Nat} (h : Boxed w b t v) (hg : w.grownBy w' row) (hn : some b ≠ row) : Boxed w' b t v := (hg.block b h.lt hn).trans h
theorem box_ne_map {w : World} {b m t : Nat} {v : Value} {n : Nat} {f : ByteArray → Option Pl} (h : Boxed w b t v) (hm : PMap w m n f) : b ≠ m := by
  rintro rfl
  obtain ⟨D, ⟨es, clock, h1, _⟩, _⟩ := hm
  rw [show w.heap[b]? = _ from h] at h1
  cases h1
/-- A symbol that is not placed. -/
theorem PI.skip {B w0 os sb wb sm wm o k W} (h : PI B w0 os sb wb sm wm o k W) (h1 : strongQ (syN os o k) = false) (h2 : weakQ (syN os o k) = false) : PI B w0 os sb wb sm wm o (k + 1) W := by
  obtain ⟨a, b, c, d, e, f, g⟩ := h
  refine ⟨a, b, ?_, ?_, e, f, g⟩
  · rw [preS_succ, List.length_append]
    exact (c.congr (fm_no (t := (o, k, syN os o k)) h1)).mono (Nat.le_add_right _ _)
  · rw [preS_succ, List.length_append]
    exact (d.congr (fm_no (t := (o, k, syN os o k)) h2)).mono (Nat.le_add_right _ _)
theorem PI.sold {B w0 os sb wb sm wm o k W} (h : PI B w0 os sb wb sm wm o k W) {p : Pl} (h1 : fm strongQ (preS os o k) (syN os o k).f0 = some p) (h2 : weakQ (syN os o k) = false) : PI B w0 os sb wb sm wm o (k + 1) W := by
  obtain ⟨a, b, c, d, e, f, g⟩ := h
  refine ⟨a, b, ?_, ?_, e, f, g⟩
  · rw [preS_succ, List.length_append]
    exact (c.congr (fm_old (t := (o, k, syN os o k)) h1)).mono (Nat.le_add_right _ _)
  · rw [preS_succ, List.length_append]
    exact (d.congr (fm_no (t := (o, k, syN os o k)) h2)).mono (Nat.le_add_right _ _)
theorem PI.wold {B w0 os sb wb sm wm o k W} (h : PI B w0 os sb wb sm wm o k W) {p : Pl} (h1 : fm weakQ (preS os o k) (syN os o k).f0 = some p) (h2 : strongQ (syN os o k) = false) : PI B w0 os sb wb sm wm o (k + 1) W := by
  obtain ⟨a, b, c, d, e, f, g⟩ := h
  refine ⟨a, b, ?_, ?_, e, f, g⟩
  · rw [preS_succ, List.length_append]
    exact (c.congr (fm_no (t := (o, k, syN os o k)) h2)).mono (Nat.le_add_right _ _)
  · rw [preS_succ, List.length_append]
    exact (d.congr (fm_old (t := (o, k, syN os o k)) h1)).mono (Nat.le_add_right _ _)
theorem PI.snew {B w0 os sb wb sm wm o k W W'} (h : PI B w0 os sb wb sm wm o k W) (h1 : fm strongQ (preS os o k) (syN os o k).f0 = none) (hq : strongQ (syN os o k) = true) (h2 : weakQ (syN os o k) = false)
    (hm : PMap W' sm ((preS os o k).length + 1) (upP (fm strongQ (preS os o k)) (syN os o k).f0 (plOf (o, k, syN os o k)))) (hg : W.grownBy W' (some sm)) : PI B w0 os sb wb sm wm o (k + 1) W' := by
  have e1 := box_ne_map h.sbox h.smap
  have e2 := box_ne_map h.wbox h.smap
  obtain ⟨a, b, c, d, e, f, g⟩ := h
  refine ⟨boxed_grown a hg (by simpa using e1), boxed_grown b hg (by simpa using e2), ?_, ?_, e.grown hg (PI.size ⟨a, b, c, d, e, f, g⟩) (fun q hq => by obtain rfl := Option.some.inj hq; exact f.2.2.1), f, g⟩
  · rw [preS_succ, List.length_append]
    exact hm.congr (fm_new (t := (o, k, syN os o k)) h1 hq)
  · rw [preS_succ, List.length_append]
    exact ((d.kept hg (by simpa using g.symm)).congr (fm_no (t := (o, k, syN os o k)) h2)).mono (Nat.le_add_right _ _)
theorem PI.wnew {B w0 os sb wb sm wm o k W W'} (h : PI B w0 os sb wb sm wm o k W) (h1 : fm weakQ (preS os o k) (syN os o k).f0 = none) (hq : weakQ (syN os o k) = true) (h2 : strongQ (syN os o k) = false)
    (hm : PMap W' wm ((preS os o k).length + 1) (upP (fm weakQ (preS os o k)) (syN os o k).f0 (plOf (o, k, syN os o k)))) (hg : W.grownBy W' (some wm)) : PI B w0 os sb wb sm wm o (k + 1) W' := by
  have e1 := box_ne_map h.sbox h.wmap
  have e2 := box_ne_map h.wbox h.wmap
  obtain ⟨a, b, c, d, e, f, g⟩ := h
  refine ⟨boxed_grown a hg (by simpa using e1), boxed_grown b hg (by simpa using e2), ?_, ?_, e.grown hg (PI.size ⟨a, b, c, d, e, f, g⟩) (fun q hq => by obtain rfl := Option.some.inj hq; exact f.2.2.2), f, g⟩
  · rw [preS_succ, List.length_append]
    exact ((c.kept hg (by simpa using g)).congr (fm_no (t := (o, k, syN os o k)) h2)).mono (Nat.le_add_right _ _)
  · rw [preS_succ, List.length_append]
    exact hm.congr (fm_new (t := (o, k, syN os o k)) h1 hq)
set_option maxRecDepth 100000 in
set_option maxHeartbeats 2000000 in
theorem places1_any (B : Nat) (w0 : World) (os : List Ob) (sb wb sm wm o k : Nat) (W : World) (h : PI B w0 os sb wb sm wm o k W) (hB : B ≤ W.heap.size) (hlen : (preS os o k).length ≤ 100000)
    (hs : (syN os o k).f0.size ≤ 100) (hb : (syN os o k).f1 = 1 ∨ (syN os o k).f1 = 2 ∨ (syN os o k).f1 = 3) :
    Calls Tryd.prog 52 #[.int .i64 o, .int .i64 k, syV (syN os o k), .pointer (some ⟨sb, 0, none⟩), .pointer (some ⟨wb, 0, none⟩)] W fun e w' => e = .returned (.bool true) ∧ PI B w0 os sb wb sm wm o (k + 1) w' := by
  have HP := Aside0.mk h
  have h1 := fun o => (h.sbox.alloc o).cell
  have h2 := fun o => (h.wbox.alloc o).cell
  have hn : (preS os o k).length < maxLen := by unfold maxLen; omega
  clear h
  obtain ⟨s, hse⟩ : ∃ s, syN os o k = s := ⟨_, rfl⟩
  have HSe := Aside0.mk hse
  rw [hse] at hs hb ⊢
  clear hse
  obtain ⟨nm, bd, sc, off⟩ := s
  have hs : nm.size ≤ 100 := hs
  have hb : bd = 1 ∨ bd = 2 ∨ bd = 3 := hb
  unfold syV
  dsimp only
  have HQs : Aside0 (strongQ (syN os o k) = decide (bd = 2 ∧ 0 ≤ sc)) := ⟨by rw [HSe.out]; rfl⟩
  have HQw : Aside0 (weakQ (syN os o k) = decide (bd = 3 ∧ 0 ≤ sc)) := ⟨by rw [HSe.out]; rfl⟩
  have HNm : Aside0 ((syN os o k).f0 = nm) := ⟨by rw [HSe.out]⟩
  have HPl : Aside0 (plOf (o, k, syN os o k) = ⟨(o : Int), sc, off⟩) := ⟨by unfold plOf; rw [HSe.out]⟩
  by_cases hsc : sc < 0
  · have HSk : Aside0 (PI B w0 os sb wb sm wm o (k + 1) W) := ⟨HP.out.skip (by rw [HQs.out]; exact decide_eq_false (by omega)) (by rw [HQw.out]; exact decide_eq_false (by omega))⟩
    rcases hb with rfl | rfl | rfl <;> (go_enter Tryd.func52, Tryd.ntmps52; go_wp2; go_ret; exact ⟨rfl, HSk.out.alloc hB _⟩)
  · rcases hb with rfl | rfl | rfl
    · have HSk : Aside0 (PI B w0 os sb wb sm wm o (k + 1) W) := ⟨HP.out.skip (by rw [HQs.out]; exact decide_eq_false (by omega)) (by rw [HQw.out]; exact decide_eq_false (by omega))⟩
      go_enter Tryd.func52, Tryd.ntmps52
      go_wp2
      go_ret
      exact ⟨rfl, HSk.out.alloc hB _⟩
    · have hq1 : strongQ (syN os o k) = true := by rw [HQs.out]; exact decide_eq_true ⟨rfl, by omega⟩
      have hq2 : weakQ (syN os o k) = false := by rw [HQw.out]; exact decide_eq_false (by omega)
      have HQ := Aside0.mk (And.intro hq1 hq2)
      clear hq1 hq2
      cases hf : fm strongQ (preS os o k) nm with
      | some p =>
        obtain ⟨p1, p2, p3⟩ := p
        have HF := Aside0.mk hf
        have hf1 : (fm strongQ (preS os o k) nm).getD ⟨0, 0, 0⟩ = ⟨p1, p2, p3⟩ := by rw [hf]; rfl
        have hf2 : (fm strongQ (preS os o k) nm).isSome = true := by rw [hf]; rfl
        have HM := Aside0.mk (And.intro hf1 hf2)
        clear hf hf1 hf2
        go_enter Tryd.func52, Tryd.ntmps52
        go_wp2_with (at_lookup; refine wpl_plook _ rfl _ _ rfl sm _ _ nm p1 p2 p3 true rfl (HP.out.smap.alloc _) rfl hs HM.out.1 HM.out.2 ?_)
        go_ret
        exact ⟨rfl, ((HP.out.sold (by rw [HNm.out]; exact HF.out) HQ.out.2).alloc hB _).alloc (by simp; omega) _⟩
      | none =>
        have HF := Aside0.mk hf
        have hf1 : (fm strongQ (preS os o k) nm).getD ⟨0, 0, 0⟩ = ⟨0, 0, 0⟩ := by rw [hf]; rfl
        have hf2 : (fm strongQ (preS os o k) nm).isSome = false := by rw [hf]; rfl
        have HM := Aside0.mk (And.intro hf1 hf2)
        clear hf hf1 hf2
        go_enter Tryd.func52, Tryd.ntmps52
        go_wp2_with (first
          | (at_lookup; refine wpl_plook _ rfl _ _ rfl sm _ _ nm 0 0 0 false rfl (HP.out.smap.alloc _) rfl hs HM.out.1 HM.out.2 ?_)
          | (at_mapUpdate; refine wpl_pstore _ rfl _ _ _ rfl sm _ _ nm o sc off rfl ((HP.out.smap.alloc _).alloc _) hn rfl rfl hs ?_; intro w1 hm1 ht1; have HT := Aside0.mk (And.intro hm1 ht1.grown); clear hm1 ht1))
        go_ret
        exact ⟨rfl, ((HP.out.alloc hB _).alloc (by simp; omega) _).snew (by rw [HNm.out]; exact HF.out) HQ.out.1 HQ.out.2 (by rw [HNm.out, HPl.out]; exact HT.out.1) HT.out.2⟩
    · have hq1 : weakQ (syN os o k) = true := by rw [HQw.out]; exact decide_eq_true ⟨rfl, by omega⟩
      have hq2 : strongQ (syN os o k) = false := by rw [HQs.out]; exact decide_eq_false (by omega)
      have HQ := Aside0.mk (And.intro hq1 hq2)
      clear hq1 hq2
      cases hf : fm weakQ (preS os o k) nm with
      | some p =>
        obtain ⟨p1, p2, p3⟩ := p
        have HF := Aside0.mk hf
        have hf1 : (fm weakQ (preS os o k) nm).getD ⟨0, 0, 0⟩ = ⟨p1, p2, p3⟩ := by rw [hf]; rfl
        have hf2 : (fm weakQ (preS os o k) nm).isSome = true := by rw [hf]; rfl
        have HM := Aside0.mk (And.intro hf1 hf2)
        clear hf hf1 hf2
        go_enter Tryd.func52, Tryd.ntmps52
        go_wp2_with (at_lookup; refine wpl_plook _ rfl _ _ rfl wm _ _ nm p1 p2 p3 true rfl (HP.out.wmap.alloc _) rfl hs HM.out.1 HM.out.2 ?_)
        go_ret
        exact ⟨rfl, ((HP.out.wold (by rw [HNm.out]; exact HF.out) HQ.out.2).alloc hB _).alloc (by simp; omega) _⟩
      | none =>
        have HF := Aside0.mk hf
        have hf1 : (fm weakQ (preS os o k) nm).getD ⟨0, 0, 0⟩ = ⟨0, 0, 0⟩ := by rw [hf]; rfl
        have hf2 : (fm weakQ (preS os o k) nm).isSome = false := by rw [hf]; rfl
        have HM := Aside0.mk (And.intro hf1 hf2)
        clear hf hf1 hf2
        go_enter Tryd.func52, Tryd.ntmps52
        go_wp2_with (first
          | (at_lookup; refine wpl_plook _ rfl _ _ rfl wm _ _ nm 0 0 0 false rfl (HP.out.wmap.alloc _) rfl hs HM.out.1 HM.out.2 ?_)
          | (at_mapUpdate; refine wpl_pstore _ rfl _ _ _ rfl wm _ _ nm o sc off rfl ((HP.out.wmap.alloc _).alloc _) hn rfl rfl hs ?_; intro w1 hm1 ht1; have HT := Aside0.mk (And.intro hm1 ht1.grown); clear hm1 ht1))
        go_ret
        exact ⟨rfl, ((HP.out.alloc hB _).alloc (by simp; omega) _).wnew (by rw [HNm.out]; exact HF.out) HQ.out.1 HQ.out.2 (by rw [HNm.out, HPl.out]; exact HT.out.1) HT.out.2⟩
end Go.Proofs.YtngmipfodjgmmaaDoor.Pure
