/- A relocation turns Imm alone, and a value that may be is applied: the law of 'FixOnly', of what the walks compute. -/
import Derived.Test.YtjllhcfcdimbfaaDoorFl45
import Derived.Test.YtjllhcfcdimbfaaDoorFl48
import Derived.Test.YtjllhcfcdimbfaaDoorFl32
import Derived.Test.YtjllhcfcdimbfaaDoorFl36
import Derived.Test.YtjllhcfcdimbfaaDoorFl37
import Derived.Test.YtjllhcfcdimbfaaDoorFl46
import Derived.Test.YtjllhcfcdimbfaaDoorFl23
namespace Go.Proofs.YtjllhcfcdimbfaaDoor.Pure
open Go Go.RowKit Go.Proofs.YtjllhcfcdimbfaaDoorW.PrintWords Go.Proofs.YtjllhcfcdimbfaaDoorW.PrintLast Go.Proofs.YtjllhcfcdimbfaaDoorW.PrintMore
set_option linter.unusedVariables false
set_option linter.unusedSimpArgs false
theorem fixed_ev : Ev (fun k => P.cleatlaw26_fixed.f k) true := Ev.of P.cleatlaw26_fixed.mono fixed
theorem Ev.plain {α : Type} {c : Option α} {r : α} (h : c = some r) : Ev (fun _ => c) r := ⟨0, fun _ _ => h⟩
theorem wrap_back (v : Int) (h1 : -9223372036854775808 ≤ v) (h2 : v ≤ 9223372036854775807) : wrap64 (IntKind.u64.wrap v) = v := by
  rw [u64_wrap]
  unfold wrap64
  omega
theorem fixEnd_ok (v s l m : Int) (h : (P.fixEnd v s l m).2 = 0) : Int.tmod v s = 0 ∧ l ≤ v ∧ v ≤ m ∧ P.fixEnd v s l m = (IntKind.u64.wrap v, 0) := by
  unfold P.fixEnd at h ⊢
  by_cases h1 : Int.tmod v s = 0
  · rw [if_pos h1] at h ⊢
    by_cases h2 : v < l
    · rw [if_pos h2] at h
      exact absurd h (by decide)
    · rw [if_neg h2] at h ⊢
      by_cases h3 : v > m
      · rw [if_pos h3] at h
        exact absurd h (by decide)
      · rw [if_neg h3] at h ⊢
        exact ⟨h1, by omega, by omega, rfl⟩
  · rw [if_neg h1] at h
    exact absurd h (by decide)
theorem val_of (kind v : Int) (h1 : 2 ≤ kind) (h2 : kind ≤ 9) (hs : v % P.ruleStep kind = 0) (hl : P.ruleLeast kind ≤ v) (hm : v ≤ P.ruleMost kind) : Val kind v ∧ -134217728 ≤ v ∧ v ≤ 134217724 := by
  unfold Val
  rcases kinds kind h1 h2 with rfl | rfl | rfl | rfl | rfl | rfl | rfl | rfl
  all_goals
    simp [P.ruleStep, P.ruleLeast, P.ruleMost] at hs hl hm
    omega
theorem value_ok (kind a b : Int) (h1 : 2 ≤ kind) (h2 : kind ≤ 9) : ∃ v vv, P.ruleNum kind a b = some v ∧ P.fix_Value.f kind a b = some vv ∧ (vv.2 = 0 → vv.1 = IntKind.u64.wrap v ∧ wrap64 vv.1 = v ∧ Val kind v) := by
  obtain ⟨v, hr⟩ : ∃ v, P.ruleNum kind a b = some v := by
    rcases kinds kind h1 h2 with rfl | rfl | rfl | rfl | rfl | rfl | rfl | rfl <;> exact ⟨_, rfl⟩
  refine ⟨v, P.fixEnd v (P.ruleStep kind) (P.ruleLeast kind) (P.ruleMost kind), hr, ?_, fun h => ?_⟩
  · unfold P.fix_Value.f
    rw [if_neg (by omega), if_neg (by omega), hr, Option.bind_some]
  · obtain ⟨e1, e2, e3, e4⟩ := fixEnd_ok _ _ _ _ h
    obtain ⟨q1, q2, q3⟩ := val_of kind v h1 h2 (Int.emod_eq_zero_of_dvd (Int.dvd_of_tmod_eq_zero e1)) e2 e3
    rw [e4]
    exact ⟨rfl, wrap_back v (by omega) (by omega), q1⟩
theorem word_fell (kind : Int) (w : Nat) (a b : Int) (h1 : 2 ≤ kind) (h2 : kind ≤ 9) (hf : Ev (fun k => P.part_Fits.f k kind (w : Int)) false) : Ev (fun k => P.fix_Word.f k kind (w : Int) a b) (0, 11) := by
  unfold P.fix_Word.f
  simp only [if_neg (show ¬ kind ≤ 1 by omega), decide_eq_false (show ¬ kind > 9 by omega)]
  refine Ev.step (fun k => P.fix_Word.j0.eq_2 _ _ _ _ _ _) (Ev.congr (fun k => if_neg (by decide)) (Ev.bind hf ?_))
  exact Ev.congr (fun k => if_neg (by decide)) (Ev.now _)
theorem word_bad (kind : Int) (w : Nat) (a b : Int) (h1 : 2 ≤ kind) (h2 : kind ≤ 9) (hf : Ev (fun k => P.part_Fits.f k kind (w : Int)) true) (vv : Int × Int) (hv : P.fix_Value.f kind a b = some vv) (h0 : vv.2 ≠ 0) : Ev (fun k => P.fix_Word.f k kind (w : Int) a b) (0, vv.2) := by
  unfold P.fix_Word.f
  simp only [if_neg (show ¬ kind ≤ 1 by omega), decide_eq_false (show ¬ kind > 9 by omega)]
  refine Ev.step (fun k => P.fix_Word.j0.eq_2 _ _ _ _ _ _) (Ev.congr (fun k => if_neg (by decide)) (Ev.bind hf ?_))
  refine Ev.congr (fun k => if_pos rfl) (Ev.bind (Ev.plain hv) ?_)
  exact Ev.congr (fun k => if_neg h0) (Ev.now _)
theorem turns_dec {op x : Nat} {d n v c : Int} (h : Turns op x d n v c) : Ev (fun k => P.code_Decode.f k (x : Int)) ((op : Int), d, n, 0, 0, v, 0, 0, 0, c, 0) := Ev.of (fun k => P.code_Decode.mono _ k) h.dec
theorem turns_enc {op x : Nat} {d n v c : Int} (h : Turns op x d n v c) : Ev (fun k => P.code_Encode.f k (op : Int) d n 0 0 v 0 0 0 c) ((x : Int), 0) := Ev.of (fun k => P.code_Encode.mono _ _ _ _ _ _ _ _ _ _ k) h.enc
theorem word_good (kind : Int) (w : Nat) (hw : w < 4294967296) (a b : Int) (hf : Ev (fun k => P.part_Fits.f k kind (w : Int)) true) (vv : Int × Int) (v : Int) (hv : P.fix_Value.f kind a b = some vv) (h0 : vv.2 = 0) (he : wrap64 vv.1 = v) (hval : Val kind v) :
    ∃ (op x : Nat) (d n c : Int), Turns op w d n 0 c ∧ Turns op x d n v c ∧ Ev (fun k => P.fix_Word.f k kind (w : Int) a b) ((x : Int), 0) := by
  obtain ⟨h1, h2⟩ := fits_kind kind w hw hf
  obtain ⟨op, d, n, c, t0, t⟩ := fits_core kind w hw hf
  obtain ⟨x, tx⟩ := t v hval
  refine ⟨op, x, d, n, c, t0, tx, ?_⟩
  unfold P.fix_Word.f
  simp only [if_neg (show ¬ kind ≤ 1 by omega), decide_eq_false (show ¬ kind > 9 by omega)]
  refine Ev.step (fun k => P.fix_Word.j0.eq_2 _ _ _ _ _ _) (Ev.congr (fun k => if_neg (by decide)) (Ev.bind hf ?_))
  refine Ev.congr (fun k => if_pos rfl) (Ev.bind (Ev.plain hv) ?_)
  refine Ev.congr (fun k => if_pos h0) (Ev.bind (turns_dec t0) ?_)
  refine Ev.congr (fun k => if_pos rfl) ?_
  have e := turns_enc tx
  rw [← he] at e
  exact Ev.bind e (Ev.now _)
end Go.Proofs.YtjllhcfcdimbfaaDoor.Pure
