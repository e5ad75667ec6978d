/- 'Word' and 'Text' of a machine's memory. -/
import Derived.Test.YtjllhcfcdimbfaaMp33
namespace Go.Proofs.Ytjllhcfcdimbfaa.P
open Go Go.RowKit Go.Sort Go.Lib Go.Shelf Go.Proofs.YtjllhcfcdimbfaaW.PrintWords Go.Proofs.YtjllhcfcdimbfaaW.PrintLast Go.Proofs.YtjllhcfcdimbfaaW.PrintMore
set_option linter.unusedVariables false
set_option linter.unusedSimpArgs false
def wd (d : Array Rg) (at_ : Int) : Int × Int := if at_ % 4 = 0 then (match hit d at_ 4 with
  | none => (0, 4)
  | some (k, f) => if d[k]!.kind = 1 then ((numv (cut d[k]! f 4) : Nat), 0) else (0, 10)) else (0, 5)
set_option maxHeartbeats 1000000 in
theorem word_any (B : Nat) (w : World) (pm bp : Nat) (d : Array Rg) (at_ : Int) (hM : MemS B w pm bp d) (hg : Good d) (a0 : 0 ≤ at_) (a1 : at_ ≤ 18446744073709551615) :
    Calls Try.prog 12 #[.pointer (some ⟨pm, 0, none⟩), .int .u64 at_] w fun e w' => e = .returned (.tuple #[.int .u32 (wd d at_).1, .int .i64 (wd d at_).2]) ∧ Below w.heap.size w w' := by
  unfold wd
  by_cases h4 : at_ % 4 = 0
  · rw [if_pos h4]
    have hd : (at_ % 4 != 0) = false := by rw [h4]; rfl
    clear h4
    cases h : hit d at_ 4 with
    | none =>
      dsimp only
      have HF := Aside0.mk (find_none B w pm bp d at_ 4 hM hg a0 a1 (by omega) (by omega) h)
      clear hM hg h
      push_cast at HF
      go_enter Try.func12, Try.ntmps12
      go_wp2_with (go_at_call 16; (with_reducible refine HF.out.mono ?_); rintro e w1 ⟨rfl, hb⟩; have HB := Aside0.mk hb; clear hb)
      go_ret2
      exact ⟨rfl, HB.out⟩
    | some t =>
      obtain ⟨k, f⟩ := t
      dsimp only
      obtain ⟨kl, he, hf⟩ := hit_some hg h
      have HF := Aside0.mk (find_some B w pm bp d at_ 4 k f hM hg (by omega) (by omega) h)
      have hcl : ∀ x ∈ cut d[k]! f 4, x < 256 := fun x hx => (hg.one k kl).2.2.2.2.2.2 x (cut_mem _ _ _ _ hx)
      have hlen := cut_length d[k]! f 4 hf
      have HN := Aside0.mk (fun (W : World) hM1 => number_any W d[k]!.blk f (d[k]!.bytes.length - f) (cut d[k]! f 4) (by omega) hcl (by omega) (MemS.cut_cells (B := B) (w := W) (pm := pm) (bp := bp) hM1 kl hf))
      have hv := numv_lt (cut d[k]! f 4) hcl
      rw [hlen] at HN hv
      have HM := Aside0.mk hM
      have HC := Aside0.mk (fun (W : World) (hb : Below w.heap.size w W) => ((hM.below hb).cells k kl).2.1)
      clear hM hg h he hf kl hcl hlen
      push_cast at HF
      generalize numv (cut d[k]! f 4) = v at HN hv ⊢
      generalize d[k]!.blk = blk at HN HF
      generalize d[k]!.bytes.length - f = c at HN HF
      generalize d[k]!.kind = kd at HC ⊢
      have hv2 : v < 4294967296 := by simpa using hv
      clear hv
      by_cases hk : kd = 1
      · rw [if_pos hk]
        subst hk
        go_enter Try.func12, Try.ntmps12
        go_wp2_with (first | (go_at_call 16; (with_reducible refine HF.out.mono ?_); rintro e w1 ⟨rfl, hb⟩; have HB := Aside0.mk hb; have HM1 := Aside0.mk (HM.out.below hb); have hc := HC.out _ hb; clear hb) | (go_at_call 17; (with_reducible refine (HN.out _ HM1.out).mono ?_); rintro e w2 ⟨rfl, q, rfl⟩))
        go_ret2
        exact ⟨rfl, pw_below_drewN HB.out _⟩
      · rw [if_neg hk]
        replace hk := bne_iff_ne.mpr hk
        go_enter Try.func12, Try.ntmps12
        go_wp2_with (go_at_call 16; (with_reducible refine HF.out.mono ?_); rintro e w1 ⟨rfl, hb⟩; have HB := Aside0.mk hb; have hc := HC.out _ hb; clear hb)
        go_ret2
        exact ⟨rfl, HB.out⟩
  · rw [if_neg h4]
    have hd : (at_ % 4 != 0) = true := bne_iff_ne.mpr h4
    clear h4 hM hg
    go_enter Try.func12, Try.ntmps12
    go_wp2
    go_ret2
    exact ⟨rfl, Below.refl _ _⟩
def tx (d : Array Rg) (at_ n : Int) : ByteArray × Int := if n < 0 ∨ 65536 < n then (⟨#[]⟩, 1) else if n = 0 then (⟨#[]⟩, 0) else match hit d at_ n.toNat with
  | none => (⟨#[]⟩, 4)
  | some (k, f) => (strOfNums (ints (cut d[k]! f n.toNat)), 0)
theorem reads_cut (w : World) (blk f : Nat) (l : List Nat) (hl2 : l.length ≤ 65536) (h : ∀ j, j < l.length → w.cell? ⟨blk, f + j, none⟩ = some (.int .u8 (l.getD j 0 : Nat))) : ReadsInt w .u8 (some ⟨blk, f, none⟩) l.length (ints l) := by
  have hl : (ints l).length = l.length := by simp [ints]
  refine ⟨hl, by omega, fun hn => ⟨_, rfl, fun j hj => ?_⟩⟩
  have e : (ints l).getD j 0 = ((l.getD j 0 : Nat) : Int) := by simp [ints, hj]
  rw [e, addr_add]
  exact h j hj
set_option maxHeartbeats 1000000 in
theorem text_any (B : Nat) (w : World) (pm bp : Nat) (d : Array Rg) (at_ n : Int) (hM : MemS B w pm bp d) (hg : Good d) (a0 : 0 ≤ at_) (a1 : at_ ≤ 18446744073709551615) :
    Calls Try.prog 11 #[.pointer (some ⟨pm, 0, none⟩), .int .u64 at_, .int .i64 n] w fun e w' => e = .returned (.tuple #[.string (tx d at_ n).1, .int .i64 (tx d at_ n).2]) ∧ Below w.heap.size w w' := by
  unfold tx
  by_cases hn : n < 0 ∨ 65536 < n
  · rw [if_pos hn]
    clear hM hg
    rcases hn with hn | hn
    all_goals
      go_enter Try.func11, Try.ntmps11
      go_wp2
      go_ret2
      exact ⟨rfl, Below.refl _ _⟩
  · rw [if_neg hn]
    have n0 : 0 ≤ n := by omega
    have n1 : n ≤ 65536 := by omega
    clear hn
    by_cases hz : n = 0
    · rw [if_pos hz]
      subst hz
      clear hM hg
      go_enter Try.func11, Try.ntmps11
      go_wp2
      go_ret2
      exact ⟨rfl, Below.refl _ _⟩
    · rw [if_neg hz]
      obtain ⟨m, rfl⟩ : ∃ m : Nat, n = m := ⟨n.toNat, by omega⟩
      rw [Int.toNat_natCast]
      have hz2 : ((m : Int) == 0) = false := by simpa using hz
      have m1 : 1 ≤ m := by omega
      clear hz
      cases h : hit d at_ m with
      | none =>
        dsimp only
        have HF := Aside0.mk (find_none B w pm bp d at_ m hM hg a0 a1 (by omega) (by omega) h)
        clear hM hg h
        go_enter Try.func11, Try.ntmps11
        go_wp2_with (go_at_call 16; (with_reducible refine HF.out.mono ?_); rintro e w1 ⟨rfl, hb⟩; have HB := Aside0.mk hb; clear hb)
        go_ret2
        exact ⟨rfl, HB.out⟩
      | some t =>
        obtain ⟨k, f⟩ := t
        dsimp only
        obtain ⟨kl, he, hf⟩ := hit_some hg h
        have HF := Aside0.mk (find_some B w pm bp d at_ m k f hM hg (by omega) (by omega) h)
        have hlen := cut_length d[k]! f m hf
        have HN := Aside0.mk (fun (W : World) (hb : Below w.heap.size w W) => string_of_reads (P := Try.prog) (src := 45) (dst := 9) (c := d[k]!.bytes.length - f) Try.underlying45 Try.underlying5 Try.underlying9 (reads_cut W d[k]!.blk f (cut d[k]! f m) (by omega) (MemS.cut_cells (B := B) (w := W) (pm := pm) (bp := bp) (hM.below hb) kl hf)))
        rw [hlen] at HN
        clear hM hg h he hf kl hlen
        generalize strOfNums (ints (cut d[k]! f m)) = v at HN ⊢
        generalize d[k]!.blk = blk at HN HF
        generalize d[k]!.bytes.length - f = c at HN HF
        go_enter Try.func11, Try.ntmps11
        go_wp2_with (go_at_call 16; (with_reducible refine HF.out.mono ?_); rintro e w1 ⟨rfl, hb⟩; have HB := Aside0.mk hb; have hcv := HN.out _ hb; clear hb)
        go_ret2
        exact ⟨rfl, HB.out⟩
end Go.Proofs.Ytjllhcfcdimbfaa.P
