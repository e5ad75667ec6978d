/- Walks and plain laws of this claim, a part. -/
import Derived.Test.YtngmipfodjgmmaaDoorSm60
import Derived.Test.YtngmipfodjgmmaaDoorSm23
section
namespace Go.Proofs.YtngmipfodjgmmaaDoor.Pure
open Go Go.RowKit Go.Lib Go.Shelf Go.Maps Go.Proofs.YtngmipfodjgmmaaDoorW.PrintWords Go.Proofs.YtngmipfodjgmmaaDoorW.PrintLast Go.Proofs.YtngmipfodjgmmaaDoorW.PrintMore
open P (Glob)
set_option linter.unusedVariables false
set_option linter.unusedSimpArgs false
/-- A fault's cells. -/
abbrev FB (W : World) (b : Nat) (c o k : Int) : Prop := W.heap[b]? = some (.cells #[.int .i64 c, .int .i64 o, .int .i64 k] 41 (0, 0))
def StrongIn (L : List Tg) (n : ByteArray) : Prop := ∃ u, firstS strongQ L n = some u
theorem strongIn_no {L : List Tg} {t : Tg} (h : strongQ t.2.2 = false) (n : ByteArray) : StrongIn L n ↔ StrongIn (L ++ [t]) n := by
  unfold StrongIn
  rw [firstS_snoc_no h]
theorem strongIn_new {L : List Tg} {t : Tg} (h : strongQ t.2.2 = true) (n : ByteArray) : (n = t.2.2.f0 ∨ StrongIn L n) ↔ StrongIn (L ++ [t]) n := by
  unfold StrongIn
  rw [firstS_snoc]
  constructor
  · rintro (rfl | ⟨u, hu⟩)
    · cases c : firstS strongQ L t.2.2.f0 with
      | some u => exact ⟨u, rfl⟩
      | none => exact ⟨t, by simp [hit, h]⟩
    · exact ⟨u, by rw [hu]; rfl⟩
  · rintro ⟨u, hu⟩
    cases c : firstS strongQ L n with
    | some v => exact .inr ⟨v, rfl⟩
    | none =>
      rw [c] at hu
      by_cases e : hit strongQ n t = true
      · simp only [hit, Bool.and_eq_true, decide_eq_true_iff] at e
        exact .inl e.2.symm
      · simp [e] at hu
structure R1 (B : Nat) (w0 : World) (os : List Ob) (sb fb sm : Nat) (o k : Nat) (W : World) : Prop where
  sbox : Boxed W sb 78 (.map (some sm))
  fblk : FB W fb 0 0 0
  smap : NMap W sm (preS os o k).length (StrongIn (preS os o k))
  notw : NoTw os o k
  below : Below B w0 W
  base : B ≤ sb ∧ B ≤ fb ∧ B ≤ sm
theorem box_ne_nmap {w : World} {b m : Nat} {cs : Array Value} {t : TypeId} {n : Nat} {S : ByteArray → Prop} (h : w.heap[b]? = some (.cells cs t (0, 0))) (hm : NMap w m n S) : b ≠ m := by
  rintro rfl
  obtain ⟨D, ⟨es, clock, h1, _⟩, _⟩ := hm
  rw [h] at h1
  cases h1
theorem R1.size {B w0 os sb fb sm o k W} (h : R1 B w0 os sb fb sm o k W) : B ≤ W.heap.size := by
  have := h.sbox.lt
  have := h.base
  omega
theorem R1.alloc {B w0 os sb fb sm o k W} (h : R1 B w0 os sb fb sm o k W) (x : Obj) : R1 B w0 os sb fb sm o k (W.alloc x) :=
  ⟨h.sbox.alloc x, blk_alloc h.fblk x, h.smap.alloc x, h.notw, h.below.alloc h.size x, h.base⟩
theorem R1.next {B w0 os sb fb sm o W} (h : R1 B w0 os sb fb sm o (nsy os o) W) : R1 B w0 os sb fb sm (o + 1) 0 W := by
  obtain ⟨a, b, c, d, e, f⟩ := h
  exact ⟨a, b, by rw [preS_next]; exact c, lex_next d, e, f⟩
theorem R1.skip {B w0 os sb fb sm o k W} (h : R1 B w0 os sb fb sm o k W) (h1 : strongQ (syN os o k) = false) : R1 B w0 os sb fb sm o (k + 1) W := by
  obtain ⟨a, b, c, d, e, f⟩ := h
  refine ⟨a, b, ?_, lex_succ d (fun c => absurd (h1.symm.trans c.1) (by decide)), e, f⟩
  rw [preS_succ, List.length_append]
  exact (c.congr (strongIn_no (t := (o, k, syN os o k)) h1)).mono (Nat.le_add_right _ _)
theorem R1.new {B w0 os sb fb sm o k W W'} (h : R1 B w0 os sb fb sm o k W) (h1 : strongQ (syN os o k) = true) (h2 : ¬ StrongIn (preS os o k) (syN os o k).f0)
    (hm : NMap W' sm ((preS os o k).length + 1) (fun t => t = (syN os o k).f0 ∨ StrongIn (preS os o k) t)) (hg : W.grownBy W' (some sm)) : R1 B w0 os sb fb sm o (k + 1) W' := by
  have e1 := box_ne_nmap h.sbox h.smap
  have e2 := box_ne_nmap h.fblk h.smap
  have hz := h.size
  obtain ⟨a, b, c, d, e, f⟩ := h
  refine ⟨boxed_grown a hg (by simpa using e1), (hg.block fb (Array.getElem?_eq_some_iff.1 b).1 (by simpa using e2)).trans b, ?_, lex_succ d (fun c => h2 c.2), e.grown hg hz (fun q hq => by obtain rfl := Option.some.inj hq; exact f.2.2), f⟩
  rw [preS_succ, List.length_append]
  exact hm.congr (strongIn_new (t := (o, k, syN os o k)) h1)
def Stop1 (B : Nat) (w0 : World) (os : List Ob) (fb : Nat) (o k : Nat) (W : World) : Prop := FB W fb 7 o k ∧ Tw (preS os o k) (syN os o k) ∧ NoTw os o k ∧ Below B w0 W
set_option maxRecDepth 100000 in
set_option maxHeartbeats 2000000 in
theorem resolve1_any (B : Nat) (w0 : World) (os : List Ob) (sb fb sm o k : Nat) (W : World) (h : R1 B w0 os sb fb sm o k W) (hlen : (preS os o k).length ≤ 100000)
    (hs : (syN os o k).f0.size ≤ 100) (ho : o ≤ 100000) :
    Calls Tryd.prog 41 #[.int .i64 o, .int .i64 k, syV (syN os o k), .pointer (some ⟨sb, 0, none⟩), .pointer (some ⟨fb, 0, none⟩)] W fun e w' => (e = .returned (.bool true) ∧ R1 B w0 os sb fb sm o (k + 1) w') ∨ (e = .returned (.bool false) ∧ Stop1 B w0 os fb o k w') := by
  have HP := Aside0.mk h
  have h1 := fun x => (h.sbox.alloc x).cell
  have hn : (preS os o k).length < maxLen := by unfold maxLen; omega
  have hwf := WalkArith.wf_i64 (n := (o : Int)) (by omega)
  have hF := Aside0.mk h.fblk
  clear h
  obtain ⟨s, hse⟩ : ∃ s, syN os o k = s := ⟨_, rfl⟩
  have HSe := Aside0.mk hse
  rw [hse] at hs ⊢
  clear hse
  obtain ⟨nm, bd, sc, off⟩ := s
  have hs : nm.size ≤ 100 := hs
  unfold syV
  dsimp only
  have HQs : Aside0 (strongQ (syN os o k) = decide (bd = 2 ∧ 0 ≤ sc)) := ⟨by rw [HSe.out]; rfl⟩
  have HNm : Aside0 ((syN os o k).f0 = nm) := ⟨by rw [HSe.out]⟩
  by_cases hb : bd = 2
  · subst hb
    by_cases hsc : sc < 0
    · go_enter Tryd.func41, Tryd.ntmps41
      go_wp2
      go_ret
      exact .inl ⟨rfl, (HP.out.skip (by rw [HQs.out]; exact decide_eq_false (by omega))).alloc _⟩
    · have hq : strongQ (syN os o k) = true := by rw [HQs.out]; exact decide_eq_true ⟨rfl, by omega⟩
      have HQ := Aside0.mk hq
      clear hq
      by_cases hd : StrongIn (preS os o k) nm
      · have hc3 := fun x => cq3 (blk_alloc hF.out x)
        have hf3 := fun x => frzq (blk_alloc hF.out x)
        obtain ⟨y0, y1, y2⟩ := hc3 (.cells #[.string nm, .int .i64 2, .int .i64 sc, .int .i64 off] 50)
        clear hc3
        go_enter Tryd.func41, Tryd.ntmps41
        go_wp2_with (at_lookup; refine wpl_nlook _ rfl _ _ rfl sm _ _ nm rfl (HP.out.smap.alloc _) rfl hs ?_; intro cc yy hyy; obtain rfl : yy = true := hyy.2 hd; clear hyy)
        go_ret
        refine .inr ⟨rfl, set3_same _ _ _ _ _ _ _ _ _ (blk_alloc hF.out _), ⟨HQ.out, by rw [HNm.out]; exact hd⟩, HP.out.notw, ?_⟩
        exact (((HP.out.below.alloc HP.out.size _).setCell (p := ⟨fb, 0, none⟩) HP.out.base.2.1 _).setCell (p := ⟨fb, 1, none⟩) HP.out.base.2.1 _).setCell (p := ⟨fb, 2, none⟩) HP.out.base.2.1 _
      · go_enter Tryd.func41, Tryd.ntmps41
        go_wp2_with (first
          | (at_lookup; refine wpl_nlook _ rfl _ _ rfl sm _ _ nm rfl (HP.out.smap.alloc _) rfl hs ?_; intro cc yy hyy; obtain rfl : yy = false := (by cases yy; rfl; exact absurd (hyy.1 rfl) hd); clear hyy)
          | (at_mapUpdate; refine wpl_nstore _ rfl _ _ _ rfl sm _ _ nm o rfl (HP.out.smap.alloc _) hn rfl rfl hs hwf ?_; intro w1 hm1 ht1; have HT := Aside0.mk (And.intro hm1 ht1.grown); clear hm1 ht1))
        go_ret
        exact .inl ⟨rfl, (HP.out.alloc _).new HQ.out (by rw [HNm.out]; exact hd) (by rw [HNm.out]; exact HT.out.1) HT.out.2⟩
  · have hne : (bd != 2) = true := bne_iff_ne.mpr hb
    have hne2 : (bd == 2) = false := beq_eq_false_iff_ne.mpr hb
    go_enter Tryd.func41, Tryd.ntmps41
    go_wp2
    go_ret
    exact .inl ⟨rfl, (HP.out.skip (by rw [HQs.out]; exact decide_eq_false (by omega))).alloc _⟩
end Go.Proofs.YtngmipfodjgmmaaDoor.Pure
end
section
namespace Go.Proofs.YtngmipfodjgmmaaDoor.P
open Go.RowKit Go.Proofs.YtngmipfodjgmmaaDoorW.PrintWords Go.Proofs.YtngmipfodjgmmaaDoorW.PrintLast Go.Proofs.YtngmipfodjgmmaaDoorW.PrintMore
attribute [local go_sem] max2_int min2_int max_two min_two max_three min_three max_four min_four   -- for this text's walks alone
set_option linter.unusedVariables false
set_option linter.unusedSimpArgs false
theorem eqA56 (d : Nat) (w : World) (x0 y0 : Int) (x1 y1 : Int) (x2 y2 : Int) :
    (Op.equalIn (d + 2) 56 (.agg #[.int .i64 x0, .int .i64 x1, .int .i64 x2]) (.agg #[.int .i64 y0, .int .i64 y1, .int .i64 y2])).run Tryd.prog w = .ok (x0 == y0 && (x1 == y1 && (x2 == y2))) w := by
  refine eqA_of Tryd.underlying56 (by kernel_rfl) ?_
  refine eqf_cons (by rfl) (by go_simp; rfl) (by go_simp; rfl) (by go_simp) ?_
  refine eqf_cons (by rfl) (by go_simp; rfl) (by go_simp; rfl) (by go_simp) ?_
  exact eqf_last (by rfl) (by go_simp; rfl) (by go_simp; rfl) (by go_simp)
end Go.Proofs.YtngmipfodjgmmaaDoor.P
end
