/- Walks and plain laws of this claim, a part. -/
import Derived.Test.YtngmipfodjgmmaaDoorSm51
import Derived.Test.YtngmipfodjgmmaaDoorSm58
section
namespace Go.Proofs.YtngmipfodjgmmaaDoor.Pure
open Go Go.RowKit Go.Proofs.YtngmipfodjgmmaaDoorW.PrintWords Go.Proofs.YtngmipfodjgmmaaDoorW.PrintLast Go.Proofs.YtngmipfodjgmmaaDoorW.PrintMore
set_option linter.unusedVariables false
set_option linter.unusedSimpArgs false
/-- How many of a kind and a name there are. -/
def cnt (q : Sy → Bool) (L : List Tg) (n : ByteArray) : Nat := L.countP (hit q n)
end Go.Proofs.YtngmipfodjgmmaaDoor.Pure
end
section
namespace Go.Proofs.YtngmipfodjgmmaaDoor.Pure
open Go Go.RowKit Go.Lib Go.Shelf Go.Maps Go.Proofs.YtngmipfodjgmmaaDoorW.PrintWords Go.Proofs.YtngmipfodjgmmaaDoorW.PrintLast Go.Proofs.YtngmipfodjgmmaaDoorW.PrintMore
open P (Glob)
set_option linter.unusedVariables false
set_option linter.unusedSimpArgs false
def ChkPost (os : List Ob) (w : World) (e : Ending) (w' : World) : Prop := ∃ n, e = .returned (.int .i64 n) ∧ ChkCode os n ∧ Below w.heap.size w w'
theorem tame_of {os : List Ob} (h : AllOkO os) (hf : FewL os) : Tame os := ⟨hf.1, fun i hi => ⟨(hf.2 i hi).syms, fun k hk => ⟨(hf.2 i hi).sym k hk, (h.2 i hi).bind hk⟩⟩⟩
set_option maxRecDepth 100000 in
set_option maxHeartbeats 2000000 in
theorem check_any (w : World) (A : Option Addr) (c : Nat) (os : List Ob) (hG : Glob w) (hos : OA w A os) (hc : os.length ≤ c) (hf : FewL os) :
    Calls Tryd.prog 20 #[.slice A os.length c] w (ChkPost os w) := by
  have HG := Aside0.mk hG
  have HO := Aside0.mk hos
  have HF := Aside0.mk hf
  have hol := hf.1
  clear hG hos hf
  by_cases h8 : (8 : Int) < os.length
  · go_enter Tryd.func20, Tryd.ntmps20
    go_wp2
    go_ret
    exact ⟨2, rfl, .inl ⟨by omega, rfl⟩, Below.refl _ _⟩
  go_enter Tryd.func20, Tryd.ntmps20
  go_wp2
  go_loopw [10] (fun v wr => ∃ i : Nat, i ≤ os.length ∧ v = .int .i64 i ∧ Aside0 (∀ k, k < i → ObOk (obN os k)) ∧ Aside0 (Below w.heap.size w wr)) (fun v _ => os.length - (RowKit.intOf v).toNat)
  case atStart => exact ⟨0, Nat.zero_le _, rfl, ⟨fun k h => absurd h (Nat.not_lt_zero _)⟩, ⟨Below.refl _ _⟩⟩
  case round =>
    obtain ⟨i, hi, rfl, HK, HB⟩ := hrel
    by_cases hlt : i < os.length
    · obtain ⟨ad, A0, c0, A1, c1, e, x0, x1, l0, C0, l1, C1⟩ := P.at_T48 HO.out i (by omega) (by omega)
      subst e
      rw [Int.toNat_natCast] at x0 x1
      replace x0 := keepS x0 HB.out
      replace x1 := keepS x1 HB.out
      obtain ⟨o, ho⟩ : ∃ o, obN os i = o := ⟨_, rfl⟩
      have HSe := Aside0.mk ho
      unfold obN at ho
      rw [ho] at x0 x1 l0 C0 l1 C1
      clear ho
      have HC := Aside0.mk (And.intro C0 C1)
      have hFo := HF.out.2 i hlt
      rw [HSe.out] at hFo
      have HFo := Aside0.mk hFo
      have hi0 : (0 : Int) ≤ (i : Int) := by omega
      have hi1 : (i : Int) < os.length := by omega
      clear C0 C1 hFo
      go_wp2_with fail
      (with_reducible refine (objIs_any _ A0 A1 c0 c1 o (HG.out.below (HB.out.alloc HB.out.size _)) (Kd.C_below HC.out.1 (HB.out.alloc HB.out.size _)) l0 (Kd.C_below HC.out.2 (HB.out.alloc HB.out.size _)) l1 HFo.out).mono ?_)
      rintro e w2 ⟨b, rfl, hb, hw⟩
      have HB2 := Aside0.mk (below_step (HB.out.alloc HB.out.size _) hw)
      have HBi := Aside0.mk hb
      clear hb hw HB x0 x1
      cases b with
      | false =>
        go_wp2
        go_ret
        exact ⟨1, rfl, .inr (.inl ⟨by omega, rfl, fun h => by have := h i hlt; rw [HSe.out] at this; exact absurd (HBi.out.2 this) (by decide)⟩), HB2.out⟩
      | true =>
        go_wp2
        go_roundw
        case rel => exact ⟨i + 1, by omega, by go_num, ⟨upto1 HK.out (by rw [HSe.out]; exact HBi.out.1 (by simp))⟩, HB2⟩
        case measure => simp [RowKit.intOf]; omega
    · obtain rfl : i = os.length := by omega
      go_wp2
      go_ret
      exact ⟨0, rfl, .inr (.inr ⟨⟨by omega, HK.out⟩, rfl⟩), HB.out⟩
/-- What 'Find' tells. -/
def findS (os : List Ob) (n : ByteArray) (r : Option Pl) : Prop := (AllOkO os ∧ 0 < n.size ∧ r = placeS os n) ∨ (¬ (AllOkO os ∧ 0 < n.size) ∧ r = none)
def FindPost (os : List Ob) (n : ByteArray) (w : World) (e : Ending) (w' : World) : Prop := ∃ r, findS os n r ∧ e = .returned (.tuple #[plV (r.getD ⟨0, 0, 0⟩), .bool r.isSome]) ∧ Below w.heap.size w w'
theorem find_no {os : List Ob} {n : ByteArray} (h : ¬ (AllOkO os ∧ 0 < n.size)) {w w' : World} (hb : Below w.heap.size w w') : FindPost os n w (.returned (.tuple #[.agg #[.int .i64 0, .int .i64 0, .int .i64 0], .bool false])) w' := ⟨none, .inr ⟨h, rfl⟩, rfl, hb⟩
theorem set3_same (w : World) (g t : Nat) (a b c x y z : Value) (h : w.heap[g]? = some (.cells #[a, b, c] t (0, 0))) : (((w.setCell ⟨g, 0, none⟩ x).setCell ⟨g, 1, none⟩ y).setCell ⟨g, 2, none⟩ z).heap[g]? = some (.cells #[x, y, z] t (0, 0)) := by
  have one : ∀ (w : World) (cs : Array Value) (i : Nat) (v : Value), w.heap[g]? = some (.cells cs t (0, 0)) → (w.setCell ⟨g, i, none⟩ v).heap[g]? = some (.cells (cs.setIfInBounds i v) t (0, 0)) := by
    intro w cs i v h
    obtain ⟨hlt, hk2⟩ := Array.getElem?_eq_some_iff.1 h
    show (w.heap.modify g _)[g]? = _
    rw [Array.getElem?_eq_getElem (by rw [Array.size_modify]; exact hlt), Array.getElem_modify_self, hk2]
    simp
  exact one _ _ 2 z (one _ _ 1 y (one _ _ 0 x h))
set_option maxRecDepth 100000 in
set_option maxHeartbeats 2000000 in
theorem find_any (w : World) (A : Option Addr) (c : Nat) (os : List Ob) (n : ByteArray) (hG : Glob w) (hos : OA w A os) (hc : os.length ≤ c) (hf : FewL os) (hn : n.size ≤ 100) :
    Calls Tryd.prog 24 #[.slice A os.length c, .string n] w (FindPost os n w) := by
  have HG := Aside0.mk hG
  have HO := Aside0.mk hos
  have HF := Aside0.mk hf
  clear hG hos hf
  have hb0 := (Below.refl w.heap.size w).alloc (Nat.le_refl _) (.cells #[.int .i64 0, .int .i64 0, .int .i64 0] 56)
  have HB0 := Aside0.mk hb0
  clear hb0
  by_cases hz : n.toList = []
  · have e0 : (n.toList == ([] : List UInt8)) = true := by rw [hz]; rfl
    have e1 : n.toList.isEmpty = true := by rw [hz]; rfl
    have hs := size_of_nil hz
    clear hz
    go_enter Tryd.func24, Tryd.ntmps24
    go_wp2
    refine bodyPost_ret (v := .tuple #[.agg #[.int .i64 0, .int .i64 0, .int .i64 0], .bool false]) (by simp [results, Tryd.results24, go_sem]) rfl (find_no (fun h => by omega) ?_)
    exact HB0.out
  · have e0 : (n.toList == ([] : List UInt8)) = false := beq_eq_false_iff_ne.mpr hz
    have e1 : n.toList.isEmpty = false := by cases h : n.toList with | nil => exact absurd h hz | cons a b => rfl
    have hp : 0 < n.size := by
      rcases Nat.eq_zero_or_pos n.size with h | h
      · exact absurd (nil_of_size h) hz
      · exact h
    clear hz
    go_enter Tryd.func24, Tryd.ntmps24
    go_wp2_with fail
    (with_reducible refine (check_any _ A c os (HG.out.below HB0.out) (Kd.C_below HO.out HB0.out) hc HF.out).mono ?_)
    rintro e w2 ⟨m, rfl, hm, hw⟩
    have HB2 := Aside0.mk (below_step HB0.out hw)
    have HK2 := Aside0.mk (blk_below (blk_new w _) hw)
    clear hw
    have bad : ¬ AllOkO os → ∀ w', Below w.heap.size w w' → FindPost os n w (.returned (.tuple #[.agg #[.int .i64 0, .int .i64 0, .int .i64 0], .bool false])) w' := fun h w' hb => find_no (fun k => h k.1) hb
    have HBad := Aside0.mk bad
    clear bad
    have HM := Aside0.mk hm
    rcases hm with ⟨_, rfl⟩ | ⟨_, rfl, _⟩ | ⟨hok, rfl⟩
    · obtain ⟨y0, y1, y2⟩ := cq3 HK2.out
      have yf := frzq HK2.out
      go_wp2
      refine bodyPost_ret (v := .tuple #[.agg #[.int .i64 0, .int .i64 0, .int .i64 0], .bool false]) (by simp [results, Tryd.results24, go_sem, y0, y1, y2]) rfl (HBad.out (fun h => by have := HM.out.ok.2 h; omega) _ ?_)
      exact ((HB2.out.setCell (p := ⟨w.heap.size, 0, none⟩) (Nat.le_refl _) _).setCell (p := ⟨w.heap.size, 1, none⟩) (Nat.le_refl _) _).setCell (p := ⟨w.heap.size, 2, none⟩) (Nat.le_refl _) _
    · obtain ⟨y0, y1, y2⟩ := cq3 HK2.out
      have yf := frzq HK2.out
      go_wp2
      refine bodyPost_ret (v := .tuple #[.agg #[.int .i64 0, .int .i64 0, .int .i64 0], .bool false]) (by simp [results, Tryd.results24, go_sem, y0, y1, y2]) rfl (HBad.out (fun h => by have := HM.out.ok.2 h; omega) _ ?_)
      exact ((HB2.out.setCell (p := ⟨w.heap.size, 0, none⟩) (Nat.le_refl _) _).setCell (p := ⟨w.heap.size, 1, none⟩) (Nat.le_refl _) _).setCell (p := ⟨w.heap.size, 2, none⟩) (Nat.le_refl _) _
    · have HOk := Aside0.mk hok
      clear hok HM
      go_wp2_with fail
      (with_reducible refine (places_any _ A c os (Kd.C_below HO.out HB2.out) hc (tame_of HOk.out HF.out)).mono ?_)
      rintro e w3 ⟨sm, k, rfl, hm3, hw3, _, _⟩
      have HB3 := Aside0.mk (below_step HB2.out hw3)
      have HK3 := Aside0.mk (blk_below HK2.out hw3)
      have HM3 := Aside0.mk hm3
      clear hw3 hm3 HK2 HB2
      obtain ⟨r, hr⟩ : ∃ r, placeS os n = r := ⟨_, rfl⟩
      have HR := Aside0.mk hr
      obtain ⟨⟨q1, q2, q3⟩, hq⟩ : ∃ q : Pl, r.getD ⟨0, 0, 0⟩ = q := ⟨_, rfl⟩
      obtain ⟨y, hy⟩ : ∃ y, r.isSome = y := ⟨_, rfl⟩
      have HQ := Aside0.mk (And.intro hq hy)
      have c3 := fun o => cq3 (blk_alloc HK3.out o)
      have f3 := fun o => frzq (blk_alloc HK3.out o)
      obtain ⟨y0, y1, y2⟩ := c3 (.cells #[.int .i64 q1, .int .i64 q2, .int .i64 q3] 56)
      clear hr hq hy
      go_wp2_with (at_lookup; refine wpl_plook _ rfl _ _ rfl sm _ _ n q1 q2 q3 y rfl HM3.out rfl hn (by rw [HR.out]; exact HQ.out.1) (by rw [HR.out]; exact HQ.out.2) ?_)
      refine bodyPost_ret (v := .tuple #[.agg #[.int .i64 q1, .int .i64 q2, .int .i64 q3], .bool y]) (by simp [results, Tryd.results24, go_sem, y0, y1, y2]) rfl ⟨r, .inl ⟨HOk.out, hp, HR.out.symm⟩, by rw [HQ.out.1, HQ.out.2]; rfl, ?_⟩
      exact (((HB3.out.alloc HB3.out.size _).setCell (p := ⟨w.heap.size, 0, none⟩) (Nat.le_refl _) _).setCell (p := ⟨w.heap.size, 1, none⟩) (Nat.le_refl _) _).setCell (p := ⟨w.heap.size, 2, none⟩) (Nat.le_refl _) _
end Go.Proofs.YtngmipfodjgmmaaDoor.Pure
end
