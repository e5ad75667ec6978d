/- What the plain laws of relocations share: the value of a near relocation stays, as far as both places move; of a page's, if they move by pages; the document's rows hold. -/
import Derived.Test.YtjllhcfcdimbfaaDoorFm40
namespace Go.Proofs.YtjllhcfcdimbfaaDoor.Pure
open Go
theorem u64_wrap (z : Int) : IntKind.u64.wrap z = z % 18446744073709551616 := rfl
theorem far_moved (a b y : Int) : P.place_Far.f (IntKind.u64.wrap (a + y)) (IntKind.u64.wrap (b + y)) = P.place_Far.f a b := by
  unfold P.place_Far.f
  have e : IntKind.u64.wrap (IntKind.u64.wrap (b + y) - IntKind.u64.wrap (a + y)) = IntKind.u64.wrap (b - a) := by
    rw [u64_wrap, u64_wrap, u64_wrap, u64_wrap, Int.emod_sub_emod, Int.sub_emod_emod, show b + y - (a + y) = b - a by omega]
  rw [e]
theorem pages_moved (a b y : Int) (ha : 0 ≤ a) (hb : 0 ≤ b) (hy : 0 ≤ y) (hy2 : y < 18446744073709551616) :
    P.fix_pages.f (IntKind.u64.wrap (a + IntKind.u64.wrap (y - Int.tmod y 4096))) (IntKind.u64.wrap (b + IntKind.u64.wrap (y - Int.tmod y 4096))) = P.fix_pages.f a b := by
  have e1 : IntKind.u64.wrap (y - Int.tmod y 4096) = y / 4096 * 4096 := by
    rw [u64_wrap, Int.tmod_eq_emod_of_nonneg hy]
    omega
  rw [e1]
  generalize y / 4096 = q
  have e2 : ∀ c : Int, 0 ≤ c → IntKind.u64.wrap (IntKind.u64.wrap (c + q * 4096) - Int.tmod (IntKind.u64.wrap (c + q * 4096)) 4096) = IntKind.u64.wrap (IntKind.u64.wrap (c - Int.tmod c 4096) + q * 4096) := by
    intro c hc
    have n0 : 0 ≤ IntKind.u64.wrap (c + q * 4096) := by rw [u64_wrap]; omega
    rw [Int.tmod_eq_emod_of_nonneg hc, Int.tmod_eq_emod_of_nonneg n0]
    rw [u64_wrap, u64_wrap, u64_wrap, u64_wrap]
    omega
  unfold P.fix_pages.f
  rw [e2 a ha, e2 b hb, far_moved]
theorem moved (k a b y : Int) (hk : 2 ≤ k) (hk6 : k < 6) : P.fix_Value.f k (IntKind.u64.wrap (a + y)) (IntKind.u64.wrap (b + y)) = P.fix_Value.f k a b := by
  unfold P.fix_Value.f P.ruleNum
  rcases (show k = 2 ∨ k = 3 ∨ k = 4 ∨ k = 5 by omega) with rfl | rfl | rfl | rfl <;> simp [far_moved]
theorem moved6 (a b y : Int) (ha : 0 ≤ a) (hb : 0 ≤ b) (hy : 0 ≤ y) (hy2 : y < 18446744073709551616) :
    P.fix_Value.f 6 (IntKind.u64.wrap (a + IntKind.u64.wrap (y - Int.tmod y 4096))) (IntKind.u64.wrap (b + IntKind.u64.wrap (y - Int.tmod y 4096))) = P.fix_Value.f 6 a b := by
  unfold P.fix_Value.f P.ruleNum
  simp [pages_moved a b y ha hb hy hy2]
theorem value_some (k a b : Int) (h1 : 1 ≤ k) (h9 : k ≤ 9) : ∃ v, P.fix_Value.f k a b = some v := by
  unfold P.fix_Value.f P.ruleNum
  rcases (show k = 1 ∨ k = 2 ∨ k = 3 ∨ k = 4 ∨ k = 5 ∨ k = 6 ∨ k = 7 ∨ k = 8 ∨ k = 9 by omega) with rfl | rfl | rfl | rfl | rfl | rfl | rfl | rfl | rfl <;> exact ⟨_, rfl⟩
set_option maxRecDepth 100000 in
theorem fixed : P.cleatlaw26_fixed.f 400 = some true := by kernel_rfl
theorem FixMoved (k a b y : Int) (wk : (Lit.int .i64 k).wf = true) (wa : (Lit.int .u64 a).wf = true) (wb : (Lit.int .u64 b).wf = true) (wy : (Lit.int .u64 y).wf = true) :
    ∃ r, P.cleatlaw26_FixMoved.f r k a b y = some true := by
  refine ⟨400 + 1, ?_⟩
  have pos : ∀ z : Int, (Lit.int .u64 z).wf = true → 0 ≤ z ∧ z < 18446744073709551616 := by
    intro z hz
    simp only [Lit.wf, Bool.and_eq_true, decide_eq_true_eq] at hz
    have e1 : IntKind.u64.min = 0 := by decide
    have e2 : IntKind.u64.max = 18446744073709551615 := by decide
    rw [e1, e2] at hz
    omega
  obtain ⟨a1, a2⟩ := pos a wa
  obtain ⟨b1, b2⟩ := pos b wb
  obtain ⟨y1, y2⟩ := pos y wy
  unfold P.cleatlaw26_FixMoved.f
  by_cases h2 : k < 2
  · rw [if_pos h2]
    rw [P.cleatlaw26_FixMoved.j0]
    simp [fixed]
  · rw [if_neg h2]
    rw [P.cleatlaw26_FixMoved.j0]
    by_cases h6 : k > 6
    · simp [h6, fixed]
    · rw [decide_eq_false h6, if_neg (by simp)]
      obtain ⟨v, hv⟩ := value_some k a b (by omega) (by omega)
      by_cases e6 : k = 6
      · subst e6
        rw [if_pos rfl, moved6 a b y a1 b1 y1 y2, hv, Option.bind_some, Option.bind_some, fixed, Option.bind_some, if_pos rfl, if_pos rfl]
        simp
      · rw [if_neg e6, moved k a b y (by omega) (by omega), hv, Option.bind_some, Option.bind_some, fixed, Option.bind_some, if_pos rfl, if_pos rfl]
        simp
end Go.Proofs.YtjllhcfcdimbfaaDoor.Pure
