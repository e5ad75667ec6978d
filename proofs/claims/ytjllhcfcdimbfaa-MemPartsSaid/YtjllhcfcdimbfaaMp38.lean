/- The document's rows of a machine's memory ('kept'): they hold. -/
import Derived.Test.YtjllhcfcdimbfaaMp37
namespace Go.Proofs.Ytjllhcfcdimbfaa.P
open Go Go.RowKit Go.Lib Go.Shelf Go.Proofs.YtjllhcfcdimbfaaW.PrintWords Go.Proofs.YtjllhcfcdimbfaaW.PrintLast Go.Proofs.YtjllhcfcdimbfaaW.PrintMore
set_option linter.unusedVariables false
set_option linter.unusedSimpArgs false
def r0 : S37 := ⟨16, 3, ⟨#[1, 2, 3, 4, 5, 6, 7, 8, 9]⟩⟩
theorem c_of_blk {w : World} {g : Nat} {cs : Array Value} {t : TypeId} {r : S37} (h : w.heap[g]? = some (.cells cs t (0, 0))) (hc : cs = #[.int .u64 r.f0, .int .i64 r.f1, .string r.f2]) : Kd.C k37 w (some ⟨g, 0, none⟩) 1 [r] := by
  subst hc
  refine ⟨rfl, by decide, fun _ => ⟨_, rfl, fun j p hj => ?_⟩⟩
  obtain rfl : j = 0 := by
    have := (List.getElem?_eq_some_iff.1 hj).1
    simpa using this
  obtain rfl : r = p := by simpa using hj
  refine ⟨_, rfl, k37_mk w r, fun i u hu => ?_⟩
  rw [addr_add]
  have h3 : i = 0 ∨ i = 1 ∨ i = 2 := by
    have := (List.getElem?_eq_some_iff.1 hu).1
    simp at this
    omega
  show w.cell? ⟨g, 0 + (0 * 3 + i), none⟩ = some u
  rw [show 0 + (0 * 3 + i) = i by omega, blk_cell h i]
  rcases h3 with rfl | rfl | rfl <;> simpa using hu
theorem new_one (w : World) (g : Nat) (hC : Kd.C k37 w (some ⟨g, 0, none⟩) 1 [r0]) : Calls Try.prog 7 #[.slice (some ⟨g, 0, none⟩) 1 1] w fun e w' => ∃ pm bp d, e = .returned (.tuple #[.pointer (some ⟨pm, 0, none⟩), .int .i64 0]) ∧ MemS w.heap.size w' pm bp d ∧ Good d ∧ (d.size = 1 ∧ d[0]!.at_ = 16 ∧ d[0]!.kind = 3 ∧ d[0]!.bytes = [1, 2, 3, 4, 5, 6, 7, 8, 9]) ∧ RowKit.Below w.heap.size w w' := by
  refine (new_any w _ 1 [r0] hC (by decide) (by decide) (fun r hr => (List.mem_singleton.1 hr) ▸ ⟨by decide, by decide⟩)).mono ?_
  rintro e w' ⟨hb, ⟨c, _, _, ⟨r, hr, h⟩ | h⟩ | ⟨pm, bp, d, rfl, hM, hg, ho⟩⟩
  · obtain rfl : r = r0 := by simpa using hr
    exfalso
    rcases h with h | h
    · unfold Bad1 at h
      rcases h with h | h | h | h <;> revert h <;> decide
    · revert h
      unfold Bad2
      decide
  · exact absurd h (by decide)
  · refine ⟨pm, bp, d, rfl, hM, hg, ?_, hb⟩
    have hs : d.size = 1 := ho.size
    obtain ⟨k, hk, h1, h2, h3⟩ := ho.all r0 (by simp)
    obtain rfl : k = 0 := by omega
    exact ⟨hs, h1, h2, by rw [h3]; decide⟩
structure Kept (d : Array Rg) : Prop where
  good : Good d
  is : d.size = 1 ∧ d[0]!.at_ = 16 ∧ d[0]!.kind = 3 ∧ d[0]!.bytes = [1, 2, 3, 4, 5, 6, 7, 8, 9]
theorem kept_hit {d : Array Rg} (h : Kept d) (f n : Nat) (hn : 1 ≤ n) (hf : f + n ≤ 9) : hit d (16 + f) n = some (0, f) := by
  obtain ⟨s, a, k, b⟩ := h.is
  have := hit_of h.good (k := 0) (f := f) (n := n) (by omega) hn (by rw [b]; simpa using hf)
  rw [a] at this
  exact this
theorem kept_ld16 {d : Array Rg} (h : Kept d) : ld d 16 8 = (578437695752307201, 0) := by
  unfold ld
  have := kept_hit h 0 8 (by decide) (by decide)
  rw [show (16 : Int) + (0 : Nat) = 16 by rfl] at this
  rw [this]
  obtain ⟨s, a, k, b⟩ := h.is
  dsimp only
  unfold cut
  rw [b]
  decide
theorem kept_ld17 {d : Array Rg} (h : Kept d) : ld d 17 8 = (650777868590383874, 0) := by
  unfold ld
  have := kept_hit h 1 8 (by decide) (by decide)
  rw [show (16 : Int) + (1 : Nat) = 17 by rfl] at this
  rw [this]
  obtain ⟨s, a, k, b⟩ := h.is
  dsimp only
  unfold cut
  rw [b]
  decide
theorem kept_ld18 {d : Array Rg} (h : Kept d) : ld d 18 8 = (0, 4) := by
  have hh : hit d 18 8 = none := by
    cases e : hit d 18 8 with
    | none => rfl
    | some t =>
      obtain ⟨k, f⟩ := t
      obtain ⟨h1, h2, h3⟩ := hit_some h.good e
      obtain ⟨s, a, kd, b⟩ := h.is
      obtain rfl : k = 0 := by omega
      rw [a] at h2
      rw [b] at h3
      simp at h3
      omega
  unfold ld
  rw [hh]
theorem good_sto {d : Array Rg} (h : Good d) (k f v n : Nat) (hk : k < d.size) : Good (sto d k f v n) := by
  have same : ∀ i, i < d.size → (sto d k f v n)[i]!.at_ = d[i]!.at_ ∧ (sto d k f v n)[i]!.kind = d[i]!.kind ∧ (sto d k f v n)[i]!.bytes.length = d[i]!.bytes.length := by
    intro i hi
    rw [get_sto d k f v n i hi]
    split
    · obtain ⟨s1, s2, s3, s4⟩ := stb_same d[i]! f v n
      exact ⟨s1, s2, s4⟩
    · exact ⟨rfl, rfl, rfl⟩
  have mem : ∀ (r : Rg) (n : Nat), (∀ x ∈ r.bytes, x < 256) → ∀ x ∈ (stb r f v n).bytes, x < 256 := by
    intro r n hr
    induction n with
    | zero => exact hr
    | succ n ih =>
      intro x hx
      simp only [stb] at hx
      rcases List.mem_or_eq_of_mem_set hx with hx | rfl
      · exact ih x hx
      · exact Nat.mod_lt _ (by decide)
  refine ⟨by rw [sto_size]; exact h.size, fun i hi => ?_, fun i hi => ?_⟩
  · rw [sto_size] at hi
    obtain ⟨e1, e2, e3⟩ := same i hi
    obtain ⟨a1, a2, a3, a4, a5, a6, a7⟩ := h.one i hi
    rw [e1, e2, e3]
    refine ⟨a1, a2, a3, a4, a5, a6, ?_⟩
    rw [get_sto d k f v n i hi]
    split
    · exact mem _ _ a7
    · exact a7
  · rw [sto_size] at hi
    rw [(same i (by omega)).1, (same i (by omega)).2.2, (same (i + 1) hi).1]
    exact h.next i hi
theorem kept_tx {d : Array Rg} (h : Kept d) : tx (sto d 0 8 258 1) 23 2 = (⟨#[8, 2]⟩, 0) := by
  obtain ⟨s, a, k, b⟩ := h.is
  have g := get_sto d 0 8 258 1 0 (by omega)
  rw [if_pos rfl] at g
  have hb : (sto d 0 8 258 1)[0]!.bytes = [1, 2, 3, 4, 5, 6, 7, 8, 2] := by
    rw [g]
    simp [stb, b]
  have ha : (sto d 0 8 258 1)[0]!.at_ = 16 := by
    rw [g]
    exact a
  have hh := hit_of (good_sto h.good 0 8 258 1 (by omega)) (k := 0) (f := 7) (n := 2) (by rw [sto_size]; omega) (by decide) (by rw [hb]; decide)
  rw [ha] at hh
  unfold tx
  rw [if_neg (by decide), if_neg (by decide), show (2 : Int).toNat = 2 from rfl]
  rw [show (16 : Int) + (7 : Nat) = 23 by rfl] at hh
  rw [hh]
  dsimp only
  unfold cut
  rw [hb]
  decide
theorem load_at {B : Nat} {w : World} {pm bp : Nat} {d : Array Rg} (hM : MemS B w pm bp d) (hg : Good d) (a v e : Int) (a0 : 0 ≤ a) (a1 : a ≤ 18446744073709551615) (hl : ld d a 8 = (v, e)) :
    Calls Try.prog 9 #[.pointer (some ⟨pm, 0, none⟩), .int .u64 a, .int .i64 8] w fun x w' => x = .returned (.tuple #[.int .u64 v, .int .i64 e]) ∧ RowKit.Below w.heap.size w w' ∧ MemS B w' pm bp d := by
  have := load_any B w pm bp d a 8 hM hg a0 a1 (.inr rfl)
  rw [hl] at this
  exact this.mono fun x w' ⟨h1, h2⟩ => ⟨h1, h2, hM.below h2⟩
theorem kept_store {B : Nat} {w : World} {pm bp : Nat} {d : Array Rg} (hM : MemS B w pm bp d) (hk : Kept d) (hB : B ≤ w.heap.size) :
    Calls Try.prog 10 #[.pointer (some ⟨pm, 0, none⟩), .int .u64 24, .int .i64 1, .int .u64 258] w fun x w' => x = .returned (.int .i64 0) ∧ RowKit.Below B w w' ∧ MemS B w' pm bp (sto d 0 8 258 1) := by
  have hh := kept_hit hk 8 1 (by decide) (by decide)
  exact store_some B w pm bp d 24 258 1 0 8 hM hB hk.good (by decide) (.inl rfl) hh hk.is.2.2.1
theorem kept_text {B : Nat} {w : World} {pm bp : Nat} {d : Array Rg} (hk : Kept d) (hM : MemS B w pm bp (sto d 0 8 258 1)) :
    Calls Try.prog 11 #[.pointer (some ⟨pm, 0, none⟩), .int .u64 23, .int .i64 2] w fun x w' => x = .returned (.tuple #[.string ⟨#[8, 2]⟩, .int .i64 0]) ∧ RowKit.Below w.heap.size w w' := by
  have := text_any B w pm bp _ 23 2 hM (good_sto hk.good 0 8 258 1 (by have := hk.is.1; omega)) (by decide) (by decide)
  rw [kept_tx hk] at this
  exact this
set_option maxHeartbeats 2000000 in
theorem kept_any (w : World) : Calls Try.prog 8 #[] w fun e w' => e = .returned (.bool true) ∧ RowKit.Below w.heap.size w w' := by
  have HN := Aside0.mk (new_one (w.alloc (.cells #[.int .u64 16, .int .i64 3, .string ⟨#[1, 2, 3, 4, 5, 6, 7, 8, 9]⟩] 37)) w.heap.size (c_of_blk (blk_new w _) rfl))
  have hs : (w.alloc (.cells #[.int .u64 16, .int .i64 3, .string ⟨#[1, 2, 3, 4, 5, 6, 7, 8, 9]⟩] 37)).heap.size = w.heap.size + 1 := by simp
  rw [hs] at HN
  have HB0 := Aside0.mk (below_alloc (Below.refl w.heap.size w) (.cells #[.int .u64 16, .int .i64 3, .string ⟨#[1, 2, 3, 4, 5, 6, 7, 8, 9]⟩] 37))
  have HS := Aside0.mk hs
  clear hs
  go_enter Try.func8, Try.ntmps8
  go_wp2_with (first | (go_at_call 7; (with_reducible refine HN.out.mono ?_); rintro e w1 ⟨pm, bp, d, rfl, hM, hg, hi, hb⟩; have HK := Aside0.mk (Kept.mk hg hi); have HM := Aside0.mk hM; have HZ := Aside0.mk (show w.heap.size + 1 ≤ w1.heap.size from by have := hb.size; have := HS.out; omega); have HB := Aside0.mk (HB0.out.trans (hb.mono (Nat.le_succ _))); clear hM hg hi hb HB0 HS HN) | (go_at_call 9; (with_reducible refine (load_at HM.out HK.out.good 16 _ _ (by decide) (by decide) (kept_ld16 HK.out)).mono ?_); rintro e w2 ⟨rfl, hb, hM⟩; have n0 := Aside0.mk hM; have n1 := Aside0.mk (below_step HB.out hb); have n2 := Aside0.mk (Nat.le_trans HZ.out hb.size); clear HM HB HZ hM hb; have HM := n0; have HB := n1; have HZ := n2; clear n0 n1 n2) | (go_at_call 9; (with_reducible refine (load_at HM.out HK.out.good 17 _ _ (by decide) (by decide) (kept_ld17 HK.out)).mono ?_); rintro e w2 ⟨rfl, hb, hM⟩; have n0 := Aside0.mk hM; have n1 := Aside0.mk (below_step HB.out hb); have n2 := Aside0.mk (Nat.le_trans HZ.out hb.size); clear HM HB HZ hM hb; have HM := n0; have HB := n1; have HZ := n2; clear n0 n1 n2) | (go_at_call 9; (with_reducible refine (load_at HM.out HK.out.good 18 _ _ (by decide) (by decide) (kept_ld18 HK.out)).mono ?_); rintro e w2 ⟨rfl, hb, hM⟩; have n0 := Aside0.mk hM; have n1 := Aside0.mk (below_step HB.out hb); have n2 := Aside0.mk (Nat.le_trans HZ.out hb.size); clear HM HB HZ hM hb; have HM := n0; have HB := n1; have HZ := n2; clear n0 n1 n2) | (go_at_call 10; (with_reducible refine (kept_store HM.out HK.out HZ.out).mono ?_); rintro e w2 ⟨rfl, hb, hM⟩; have n0 := Aside0.mk hM; have n1 := Aside0.mk (HB.out.trans (hb.mono (Nat.le_succ _))); clear HM HB hM hb; have HM := n0; have HB := n1; clear n0 n1) | (go_at_call 11; (with_reducible refine (kept_text HK.out HM.out).mono ?_); rintro e w2 ⟨rfl, hb⟩; have n1 := Aside0.mk (below_step HB.out hb); clear HB hb; have HB := n1; clear n1))
  go_ret
  exact ⟨rfl, HB.out⟩
end Go.Proofs.Ytjllhcfcdimbfaa.P
