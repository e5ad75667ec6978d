/- 'has' and 'find' of a machine's memory: the region that has all the places, or none. -/
import Derived.Test.YtjllhcfcdimbfaaMp29
import Derived.Test.YtjllhcfcdimbfaaMp30
import Derived.WalkSpells
namespace Go.Proofs.Ytjllhcfcdimbfaa.P
open Go Go.RowKit Go.Sort Go.Lib Go.Shelf Go.Proofs.YtjllhcfcdimbfaaW.PrintWords Go.Proofs.YtjllhcfcdimbfaaW.PrintLast Go.Proofs.YtjllhcfcdimbfaaW.PrintMore
set_option linter.unusedVariables false
set_option linter.unusedSimpArgs false
def Rises (d : Array Rg) : Prop := ∀ i j, i ≤ j → j < d.size → d[i]!.at_ ≤ d[j]!.at_
def cnt (d : Array Rg) (at_ : Int) : Nat := (List.range d.size).countP (fun i => !decide (at_ < d[i]!.at_))
theorem search_any (B : Nat) (w : World) (b0 b1 pm bp : Nat) (d : Array Rg) (at_ : Int) (h0 : w.cell? ⟨b0, 0, none⟩ = some (.pointer (some ⟨pm, 0, none⟩))) (h1 : w.cell? ⟨b1, 0, none⟩ = some (.int .u64 at_))
    (l0 : b0 < w.heap.size) (l1 : b1 < w.heap.size) (hM : MemS B w pm bp d) (hR : Rises d) (hn : d.size ≤ 100000) :
    Calls Try.prog 24 #[.int .i64 d.size, .func (.func 25) #[] #[.pointer (some ⟨b0, 0, none⟩), .pointer (some ⟨b1, 0, none⟩)]] w fun e w' => e = .returned (.int .i64 (cnt d at_ : Nat)) ∧ Below w.heap.size w w' := by
  have eg : ∀ args w, (callFunc 25 args).run Try.prog w = .ok (.enter 25 args) w := enters_of Try.func25 (by kernel_rfl) rfl
  refine (Any.sort_Search Try.search 25 #[.pointer (some ⟨b0, 0, none⟩), .pointer (some ⟨b1, 0, none⟩)] d.size (fun i => decide (at_ < d[i]!.at_)) w eg (by omega) ?_ ?_).mono ?_
  · intro m os i hi
    obtain ⟨c0, _, _⟩ := hM.cells i hi
    refine (find1_any _ b0 b1 pm bp d.size at_ _ i (cell_grown l0 h0 m os) (cell_grown l1 h1 m os) (cell_grown hM.lt.1 hM.head m os) hi hn (cell_grown hM.lt.2.1 c0 m os)).mono ?_
    rintro e w' ⟨rfl, q, rfl⟩
    exact ⟨rfl, q, #[], by rw [grow_empty]⟩
  · intro a b hab hb ha
    have := of_decide_eq_true ha
    have := hR a b hab hb
    exact decide_eq_true (by omega)
  · rintro e w' ⟨rfl, q, os, rfl⟩
    exact ⟨rfl, below_grown_sl _ w q os (Nat.le_refl _)⟩
theorem has_no (w : World) (bp blk i L : Nat) (z at_ n : Int) (h0 : w.cell? ⟨bp, i * 4, none⟩ = some (.int .u64 z)) (h3 : w.cell? ⟨bp, i * 4 + 3, none⟩ = some (.slice (some ⟨blk, 0, none⟩) L L))
    (z0 : 0 ≤ z) (zl : z ≤ at_) (a1 : at_ ≤ 18446744073709551615) (n0 : 1 ≤ n) (n1 : n ≤ 65536) (hL : L ≤ 65536) (hno : at_ - z ≥ L ∨ L - (at_ - z) < n) :
    Calls Try.prog 26 #[.pointer (some ⟨bp, i * 4, none⟩), .int .u64 at_, .int .i64 n] w fun e w' => e = .returned (.slice none 0 0) ∧ w = w' := by
  by_cases c : (L : Int) ≤ at_ - z
  · go_enter Try.func26, Try.ntmps26
    go_wp2
    go_ret
    exact ⟨rfl, rfl⟩
  · have c2 : (L : Int) - (at_ - z) < n := by omega
    go_enter Try.func26, Try.ntmps26
    go_wp2
    go_ret
    exact ⟨rfl, rfl⟩
theorem has_yes (w : World) (bp blk i L f m : Nat) (z at_ n : Int) (h0 : w.cell? ⟨bp, i * 4, none⟩ = some (.int .u64 z)) (h3 : w.cell? ⟨bp, i * 4 + 3, none⟩ = some (.slice (some ⟨blk, 0, none⟩) L L))
    (z0 : 0 ≤ z) (a1 : at_ ≤ 18446744073709551615) (hf : at_ = z + f) (hm : n = m) (n0 : 1 ≤ m) (n1 : m ≤ 65536) (hL : L ≤ 65536) (hy : f + m ≤ L) :
    Calls Try.prog 26 #[.pointer (some ⟨bp, i * 4, none⟩), .int .u64 at_, .int .i64 n] w fun e w' => e = .returned (.slice (some ⟨blk, f, none⟩) m (L - f)) ∧ w = w' := by
  subst hm
  obtain ⟨g, hg⟩ : ∃ g : Int, g = at_ - z := ⟨_, rfl⟩
  have k1 : IntKind.u64.wrap (at_ - z) = f := by show (at_ - z) % 18446744073709551616 = f; omega
  have c : ¬ (L : Int) ≤ at_ - z := by omega
  have c2 : ¬ (L : Int) - (at_ - z) < m := by omega
  clear hf hg
  go_enter Try.func26, Try.ntmps26
  go_wp2
  go_ret
  exact ⟨rfl, rfl⟩
theorem countP_cut (q : Nat → Bool) : ∀ n : Nat, (∀ i j, i ≤ j → j < n → q j = true → q i = true) → ∀ i, i < n → (q i = true ↔ i < (List.range n).countP q) := by
  intro n
  induction n with
  | zero => intro _ i hi; omega
  | succ n ih =>
    intro hq i hi
    have ih' := ih (fun i j h1 h2 => hq i j h1 (by omega))
    rw [List.range_succ, List.countP_append]
    have le : (List.range n).countP q ≤ n := by have := List.countP_le_length (p := q) (l := List.range n); simpa using this
    by_cases hn : q n = true
    · have all : ∀ j, j < n → q j = true := fun j hj => hq j n (by omega) (by omega) hn
      have e : (List.range n).countP q = n := by
        rw [List.countP_eq_length.2 (fun a ha => all a (List.mem_range.1 ha)), List.length_range]
      rw [e]
      simp [hn]
      by_cases h : i = n
      · subst h; exact ⟨fun _ => by omega, fun _ => hn⟩
      · exact ⟨fun _ => by omega, fun _ => all i (by omega)⟩
    · simp [hn]
      by_cases h : i = n
      · subst h
        exact ⟨fun h => absurd h hn, fun h => by omega⟩
      · exact ih' i (by omega)
theorem cnt_spec (d : Array Rg) (at_ : Int) (hR : Rises d) (i : Nat) (hi : i < d.size) : d[i]!.at_ ≤ at_ ↔ i < cnt d at_ := by
  have := countP_cut (fun i => !decide (at_ < d[i]!.at_)) d.size (fun a b hab hb h => by
    have := hR a b hab hb
    simp at h ⊢
    omega) i hi
  unfold cnt
  rw [← this]
  simp
theorem cnt_le (d : Array Rg) (at_ : Int) : cnt d at_ ≤ d.size := by
  have := List.countP_le_length (p := fun i => !decide (at_ < d[i]!.at_)) (l := List.range d.size)
  simpa [cnt] using this
/-- The region that has all n places from at_ on, and where in it; or none. -/
def hit (d : Array Rg) (at_ : Int) (n : Nat) : Option (Nat × Nat) :=
  if cnt d at_ = 0 then none else if d[cnt d at_ - 1]!.at_ + d[cnt d at_ - 1]!.bytes.length < at_ + n then none else some (cnt d at_ - 1, (at_ - d[cnt d at_ - 1]!.at_).toNat)
structure Good (d : Array Rg) : Prop where
  size : d.size ≤ 100000
  one : ∀ i, i < d.size → 0 ≤ d[i]!.at_ ∧ d[i]!.at_ ≤ 4611686018427387904 ∧ 1 ≤ d[i]!.bytes.length ∧ d[i]!.bytes.length ≤ 65536 ∧ 1 ≤ d[i]!.kind ∧ d[i]!.kind ≤ 3 ∧ ∀ x ∈ d[i]!.bytes, x < 256
  next : ∀ i, i + 1 < d.size → d[i]!.at_ + d[i]!.bytes.length ≤ d[i + 1]!.at_
theorem Good.far {d : Array Rg} (h : Good d) : ∀ i j, i < j → j < d.size → d[i]!.at_ + d[i]!.bytes.length ≤ d[j]!.at_ := by
  intro i j hij
  induction j with
  | zero => omega
  | succ j ih =>
    intro hj
    have n := h.next j hj
    by_cases e : i = j
    · subst e; exact n
    · have := ih (by omega) (by omega)
      omega
theorem Good.rises {d : Array Rg} (h : Good d) : Rises d := by
  intro i j hij hj
  by_cases e : i = j
  · subst e; omega
  · have := h.far i j (by omega) hj
    omega
theorem hit_some {d : Array Rg} (hg : Good d) {at_ : Int} {n k f : Nat} (h : hit d at_ n = some (k, f)) : k < d.size ∧ at_ = d[k]!.at_ + f ∧ f + n ≤ d[k]!.bytes.length := by
  unfold hit at h
  by_cases c : cnt d at_ = 0
  · rw [if_pos c] at h; cases h
  · rw [if_neg c] at h
    split at h
    · cases h
    · simp only [Option.some.injEq, Prod.mk.injEq] at h
      obtain ⟨rfl, rfl⟩ := h
      have le := cnt_le d at_
      have := (cnt_spec d at_ hg.rises (cnt d at_ - 1) (by omega)).2 (by omega)
      exact ⟨by omega, by omega, by omega⟩
theorem hit_of {d : Array Rg} (hg : Good d) {n k f : Nat} (hk : k < d.size) (hn : 1 ≤ n) (hf : f + n ≤ d[k]!.bytes.length) : hit d (d[k]!.at_ + f) n = some (k, f) := by
  have h1 := (cnt_spec d (d[k]!.at_ + f) hg.rises k hk).1 (by omega)
  have h2 : cnt d (d[k]!.at_ + f) = k + 1 := by
    have le := cnt_le d (d[k]!.at_ + f)
    by_cases e : k + 1 < cnt d (d[k]!.at_ + f)
    · have := (cnt_spec d (d[k]!.at_ + f) hg.rises (k + 1) (by omega)).2 e
      have := hg.next k (by omega)
      omega
    · omega
  unfold hit
  rw [h2, if_neg (by omega), Nat.add_sub_cancel, if_neg (by omega)]
  congr 2
  omega
theorem two_boxes {w : World} {o1 o2 : Obj} {B pm bp : Nat} {d : Array Rg} (hM : MemS B w pm bp d) : MemS B ((w.alloc o1).alloc o2) pm bp d := hM.below (((Below.refl _ w).alloc (Nat.le_refl _) _).alloc (by simp) _)
theorem find_world (B : Nat) (w : World) (pm bp : Nat) (d : Array Rg) (at_ : Int) (hM : MemS B w pm bp d) (hg : Good d) :
    Calls Try.prog 24 #[.int .i64 d.size, .func (.func 25) #[] #[.pointer (some ⟨w.heap.size, 0, none⟩), .pointer (some ⟨w.heap.size + 1, 0, none⟩)]] ((w.alloc (.cells #[.pointer (some ⟨pm, 0, none⟩)] 25)).alloc (.cells #[.int .u64 at_] 23)) fun e w' => e = .returned (.int .i64 (cnt d at_ : Nat)) ∧
      MemS B w' pm bp d ∧ w'.cell? ⟨w.heap.size, 0, none⟩ = some (.pointer (some ⟨pm, 0, none⟩)) ∧ w'.cell? ⟨w.heap.size + 1, 0, none⟩ = some (.int .u64 at_) ∧ Below w.heap.size w w' := by
  have l0 : w.heap.size < ((w.alloc (.cells #[.pointer (some ⟨pm, 0, none⟩)] 25)).alloc (.cells #[.int .u64 at_] 23)).heap.size := by simp; omega
  have l1 : w.heap.size + 1 < ((w.alloc (.cells #[.pointer (some ⟨pm, 0, none⟩)] 25)).alloc (.cells #[.int .u64 at_] 23)).heap.size := by simp
  have c0 : ((w.alloc (.cells #[.pointer (some ⟨pm, 0, none⟩)] 25)).alloc (.cells #[.int .u64 at_] 23)).cell? ⟨w.heap.size, 0, none⟩ = some (.pointer (some ⟨pm, 0, none⟩)) := (blk_cell (blk_alloc (blk_new w _) _) 0).trans rfl
  have c1 : ((w.alloc (.cells #[.pointer (some ⟨pm, 0, none⟩)] 25)).alloc (.cells #[.int .u64 at_] 23)).cell? ⟨w.heap.size + 1, 0, none⟩ = some (.int .u64 at_) :=
    (blk_cell (by have := blk_new (w.alloc (.cells #[.pointer (some ⟨pm, 0, none⟩)] 25)) (.cells #[.int .u64 at_] 23); simpa using this) 0).trans rfl
  refine (search_any B _ w.heap.size (w.heap.size + 1) pm bp d at_ c0 c1 l0 l1 (two_boxes hM) hg.rises hg.size).mono ?_
  rintro e w1 ⟨rfl, hb⟩
  exact ⟨rfl, (two_boxes hM).below hb, (hb.cell (p := ⟨w.heap.size, 0, none⟩) l0).trans c0, (hb.cell (p := ⟨w.heap.size + 1, 0, none⟩) l1).trans c1, below_step (((Below.refl _ w).alloc (Nat.le_refl _) _).alloc (by simp) _) hb⟩
set_option maxHeartbeats 1000000 in
theorem find_none (B : Nat) (w : World) (pm bp : Nat) (d : Array Rg) (at_ : Int) (n : Nat) (hM : MemS B w pm bp d) (hg : Good d) (a0 : 0 ≤ at_) (a1 : at_ ≤ 18446744073709551615) (n0 : 1 ≤ n) (n1 : n ≤ 65536) (h : hit d at_ n = none) :
    Calls Try.prog 16 #[.pointer (some ⟨pm, 0, none⟩), .int .u64 at_, .int .i64 n] w fun e w' => e = .returned (.tuple #[.pointer none, .slice none 0 0]) ∧ Below w.heap.size w w' := by
  have HS := Aside0.mk (find_world B w pm bp d at_ hM hg)
  have hd := (two_boxes (o1 := .cells #[.pointer (some ⟨pm, 0, none⟩)] 25) (o2 := .cells #[.int .u64 at_] 23) hM).head
  have HH := Aside0.mk h
  have HG := Aside0.mk hg
  have le := cnt_le d at_
  have ls := hg.size
  clear hM h hg
  by_cases hc : cnt d at_ = 0
  · rw [hc] at HS
    go_enter Try.func16, Try.ntmps16
    go_wp2_with (go_at_call 24; (with_reducible refine HS.out.mono ?_); rintro e w1 ⟨rfl, hM1, hc0, hc1, hb⟩; have HB := Aside0.mk hb; clear hb hM1)
    go_ret2
    exact ⟨rfl, HB.out⟩
  · obtain ⟨k, hk⟩ : ∃ k, cnt d at_ = k + 1 := ⟨cnt d at_ - 1, by omega⟩
    have no := HH.out
    unfold hit at no
    rw [if_neg hc, hk, Nat.add_sub_cancel] at no
    have no2 : d[k]!.at_ + d[k]!.bytes.length < at_ + n := by
      split at no
      · assumption
      · cases no
    obtain ⟨z0, z1, z2, z3, _⟩ := HG.out.one k (by omega)
    have zl := (cnt_spec d at_ HG.out.rises k (by omega)).2 (by omega)
    have HN := Aside0.mk (fun (W : World) h0 h3 => has_no W bp d[k]!.blk k d[k]!.bytes.length d[k]!.at_ at_ n h0 h3 z0 zl a1 (by omega) (by omega) z3 (by omega))
    rw [hk] at HS
    have kl : k < d.size := by omega
    have heq := fun (w : World) a n c => Lib.run_eql_slice_nil (P := Try.prog) w 45 5 a n c 0 0 Try.underlying45
    obtain ⟨r, hr⟩ : ∃ r, d[k]! = r := ⟨_, rfl⟩
    rw [hr] at HN
    have HR := Aside0.mk hr
    clear hr
    clear no no2 hc HH hk z0 z1 z2 z3 zl le
    go_enter Try.func16, Try.ntmps16
    go_wp2_with (first | (go_at_call 24; (with_reducible refine HS.out.mono ?_); rintro e w1 ⟨rfl, hM1, hc0, hc1, hb⟩; have HB := Aside0.mk hb; have hd1 := hM1.head; have HC := Aside0.mk (HR.out ▸ hM1.cells k kl); clear hb hM1) | (go_at_call 26; (with_reducible refine (HN.out _ HC.out.1 HC.out.2.2).mono ?_); rintro e w2 ⟨rfl, rfl⟩))
    go_ret2
    exact ⟨rfl, HB.out⟩
set_option maxHeartbeats 1000000 in
theorem find_some (B : Nat) (w : World) (pm bp : Nat) (d : Array Rg) (at_ : Int) (n k f : Nat) (hM : MemS B w pm bp d) (hg : Good d) (n0 : 1 ≤ n) (n1 : n ≤ 65536) (h : hit d at_ n = some (k, f)) :
    Calls Try.prog 16 #[.pointer (some ⟨pm, 0, none⟩), .int .u64 at_, .int .i64 n] w fun e w' => e = .returned (.tuple #[.pointer (some ⟨bp, k * 4, none⟩), .slice (some ⟨d[k]!.blk, f, none⟩) n (d[k]!.bytes.length - f)]) ∧ Below w.heap.size w w' := by
  have HS := Aside0.mk (find_world B w pm bp d at_ hM hg)
  have hd := (two_boxes (o1 := .cells #[.pointer (some ⟨pm, 0, none⟩)] 25) (o2 := .cells #[.int .u64 at_] 23) hM).head
  obtain ⟨kl, he, hf⟩ := hit_some hg h
  have ls := hg.size
  have hk : cnt d at_ = k + 1 := by
    unfold hit at h
    split at h
    · cases h
    · split at h
      · cases h
      · simp only [Option.some.injEq, Prod.mk.injEq] at h
        omega
  obtain ⟨z0, z1, z2, z3, _⟩ := hg.one k kl
  have HN := Aside0.mk (fun (W : World) h0 h3 => has_yes W bp d[k]!.blk k d[k]!.bytes.length f n d[k]!.at_ at_ n h0 h3 z0 (by omega) he rfl n0 n1 z3 hf)
  rw [hk] at HS
  have heq := fun (w : World) a n c => Lib.run_eql_slice_nil (P := Try.prog) w 45 5 a n c 0 0 Try.underlying45
  obtain ⟨r, hr⟩ : ∃ r, d[k]! = r := ⟨_, rfl⟩
  rw [hr] at HN ⊢ hf
  have HR := Aside0.mk hr
  clear hr
  clear hM h hg hk z0 z1 z2 z3 he
  go_enter Try.func16, Try.ntmps16
  go_wp2_with (first | (go_at_call 24; (with_reducible refine HS.out.mono ?_); rintro e w1 ⟨rfl, hM1, hc0, hc1, hb⟩; have HB := Aside0.mk hb; have hd1 := hM1.head; have HC := Aside0.mk (HR.out ▸ hM1.cells k kl); clear hb hM1) | (go_at_call 26; (with_reducible refine (HN.out _ HC.out.1 HC.out.2.2).mono ?_); rintro e w2 ⟨rfl, rfl⟩))
  go_ret2
  exact ⟨rfl, HB.out⟩
end Go.Proofs.Ytjllhcfcdimbfaa.P
