/- 'Store' of a machine's memory: the bytes of a number, one by one. -/
import Derived.Test.YtjllhcfcdimbfaaMp32
namespace Go.Proofs.Ytjllhcfcdimbfaa.P
open Go Go.RowKit Go.Sort Go.Lib Go.Shelf Go.Proofs.YtjllhcfcdimbfaaW.PrintWords Go.Proofs.YtjllhcfcdimbfaaW.PrintLast Go.Proofs.YtjllhcfcdimbfaaW.PrintMore
set_option linter.unusedVariables false
set_option linter.unusedSimpArgs false
def stb (r : Rg) (f v : Nat) : Nat → Rg
  | 0 => r
  | i + 1 => { stb r f v i with bytes := (stb r f v i).bytes.set (f + i) (v / 2 ^ (8 * i) % 256) }
def sto (d : Array Rg) (k f v i : Nat) : Array Rg := d.setIfInBounds k (stb d[k]! f v i)
theorem stb_same (r : Rg) (f v : Nat) : ∀ i, (stb r f v i).at_ = r.at_ ∧ (stb r f v i).kind = r.kind ∧ (stb r f v i).blk = r.blk ∧ (stb r f v i).bytes.length = r.bytes.length
  | 0 => ⟨rfl, rfl, rfl, rfl⟩
  | i + 1 => by
    obtain ⟨h1, h2, h3, h4⟩ := stb_same r f v i
    exact ⟨h1, h2, h3, by simp only [stb, List.length_set]; exact h4⟩
theorem get_set (d : Array Rg) (k : Nat) (r : Rg) (i : Nat) (hi : i < d.size) : (d.setIfInBounds k r)[i]! = if k = i then r else d[i]! := by
  rw [getElem!_pos _ i (by simpa using hi), getElem!_pos d i hi, Array.getElem_setIfInBounds]
theorem get_sto (d : Array Rg) (k f v n i : Nat) (hi : i < d.size) : (sto d k f v n)[i]! = if k = i then stb d[i]! f v n else d[i]! := by
  unfold sto
  rw [get_set d k _ i hi]
  split
  · rename_i h; rw [h]
  · rfl
theorem sto_size (d : Array Rg) (k f v n : Nat) : (sto d k f v n).size = d.size := by simp [sto]
theorem sto_succ (d : Array Rg) (k f v i : Nat) (hk : k < d.size) : sto d k f v (i + 1) = (sto d k f v i).setIfInBounds k { (sto d k f v i)[k]! with bytes := (sto d k f v i)[k]!.bytes.set (f + i) (v / 2 ^ (8 * i) % 256) } := by
  rw [get_sto d k f v i k hk, if_pos rfl]
  simp [sto, stb]
theorem MemS.store {B : Nat} {w : World} {pm bp : Nat} {d : Array Rg} (h : MemS B w pm bp d) {k j : Nat} (hk : k < d.size) (hj : j < d[k]!.bytes.length) (x : Nat) :
    MemS B (w.setCell ⟨d[k]!.blk, j, none⟩ (.int .u8 (x : Int))) pm bp (d.setIfInBounds k { d[k]! with bytes := d[k]!.bytes.set j x }) := by
  obtain ⟨n1, n2, n3⟩ := h.apart k hk
  have hs : (w.setCell ⟨d[k]!.blk, j, none⟩ (.int .u8 (x : Int))).heap.size = w.heap.size := by simp
  have far : ∀ (b o : Nat), b ≠ d[k]!.blk → (w.setCell ⟨d[k]!.blk, j, none⟩ (.int .u8 (x : Int))).cell? ⟨b, o, none⟩ = w.cell? ⟨b, o, none⟩ ∧ (w.setCell ⟨d[k]!.blk, j, none⟩ (.int .u8 (x : Int))).frozen? ⟨b, o, none⟩ = w.frozen? ⟨b, o, none⟩ := by
    intro b o hb
    have e := Below.heap_setCell w ⟨d[k]!.blk, j, none⟩ (.int .u8 (x : Int)) b hb
    unfold World.cell? World.frozen?
    rw [e]
    exact ⟨rfl, rfl⟩
  have hm : (d.setIfInBounds k { d[k]! with bytes := d[k]!.bytes.set j x }).map Rg.pt = d.map Rg.pt := by
    refine Array.ext (by simp) fun i h1 h2 => ?_
    have hi : i < d.size := by simpa using h1
    rw [Array.getElem_map, Array.getElem_map, Array.getElem_setIfInBounds]
    split
    · rename_i hh
      subst hh
      simp [Rg.pt, hk]
    · rfl
  have sz : (d.setIfInBounds k { d[k]! with bytes := d[k]!.bytes.set j x }).size = d.size := by simp
  have blk : ∀ i, i < d.size → (d.setIfInBounds k { d[k]! with bytes := d[k]!.bytes.set j x })[i]!.blk = d[i]!.blk := by
    intro i hi
    rw [get_set d k _ i hi]
    split
    · rename_i h'; rw [h']
    · rfl
  refine ⟨?_, fun t ht => ?_, fun i hi q hq => ?_, ?_, ?_⟩
  · rw [(far pm 0 (fun e => n1 e.symm)).1, sz]
    exact h.head
  · rw [hm] at ht ⊢
    have := h.row t ht
    exact ⟨(far bp _ (fun e => n2 e.symm)).1.trans this.1, (far bp _ (fun e => n2 e.symm)).2.trans this.2⟩
  · rw [sz] at hi
    rw [blk i hi]
    rw [get_set d k _ i hi] at hq ⊢
    by_cases e : k = i
    · subst e
      rw [if_pos rfl] at hq ⊢
      have hq' : q < d[k]!.bytes.length := by simpa using hq
      have hb := h.bytes k hk q hq'
      refine ⟨?_, by rw [World.frozen?_setCell]; exact hb.2⟩
      by_cases e2 : q = j
      · subst e2
        rw [World.cell?_setCell_same _ _ _ hb.1]
        simp [hq']
      · rw [World.cell?_setCell_other _ _ _ _ (by intro e; injection e with _ e; exact e2 e.symm)]
        simp only [List.getD_eq_getElem?_getD, List.getElem?_set, if_neg (show ¬ j = q from fun e => e2 e.symm)]
        have h1 := hb.1
        rw [List.getD_eq_getElem?_getD] at h1
        exact h1
    · rw [if_neg e] at hq ⊢
      have hb := h.bytes i hi q hq
      have := far d[i]!.blk q (fun e' => e ((n3 i hi e').symm))
      exact ⟨this.1.trans hb.1, this.2.trans hb.2⟩
  · rw [hs]
    exact ⟨h.lt.1, h.lt.2.1, fun i hi => by rw [sz] at hi; rw [blk i hi]; exact h.lt.2.2 i hi⟩
  · intro i hi
    rw [sz] at hi
    rw [blk i hi, sz]
    exact ⟨(h.apart i hi).1, (h.apart i hi).2.1, fun q hq e => (h.apart i hi).2.2 q hq (by rw [blk q hq] at e; exact e)⟩
theorem MemS.sto_ {B : Nat} {w : World} {pm bp : Nat} {d : Array Rg} {k f v i : Nat} (h : MemS B w pm bp (sto d k f v i)) (hk : k < d.size) (hf : f + i < d[k]!.bytes.length) :
    w.cell? ⟨d[k]!.blk, f + i, none⟩ = some (.int .u8 ((stb d[k]! f v i).bytes.getD (f + i) 0 : Nat)) ∧ w.frozen? ⟨d[k]!.blk, f + i, none⟩ = false ∧
    MemS B (w.setCell ⟨d[k]!.blk, f + i, none⟩ (.int .u8 ((v : Int) / 2 ^ (8 * i) % 256))) pm bp (sto d k f v (i + 1)) ∧ B ≤ d[k]!.blk := by
  have ec : ((v / 2 ^ (8 * i) % 256 : Nat) : Int) = (v : Int) / 2 ^ (8 * i) % 256 := by rw [Int.natCast_emod, Int.natCast_ediv, Int.natCast_pow]; rfl
  rw [← ec]
  have sz := sto_size d k f v i
  have g : (sto d k f v i)[k]! = stb d[k]! f v i := by rw [get_sto d k f v i k hk, if_pos rfl]
  obtain ⟨_, _, s3, s4⟩ := stb_same d[k]! f v i
  have hb := h.bytes k (by omega) (f + i) (by rw [g, s4]; exact hf)
  have hl := h.lt.2.2 k (by omega)
  have hs := h.store (k := k) (j := f + i) (by omega) (by rw [g, s4]; exact hf) (v / 2 ^ (8 * i) % 256)
  rw [← sto_succ d k f v i hk] at hs
  rw [g, s3] at hb hl hs
  exact ⟨hb.1, hb.2, hs, hl.1⟩
set_option maxHeartbeats 1000000 in
theorem store_some (B : Nat) (w : World) (pm bp : Nat) (d : Array Rg) (at_ : Int) (v n k f : Nat) (hM : MemS B w pm bp d) (hB : B ≤ w.heap.size) (hg : Good d) (hv : v < 18446744073709551616) (hn : n = 1 ∨ n = 8) (h : hit d at_ n = some (k, f)) (h3 : d[k]!.kind = 3) :
    Calls Try.prog 10 #[.pointer (some ⟨pm, 0, none⟩), .int .u64 at_, .int .i64 n, .int .u64 (v : Int)] w fun e w' => e = .returned (.int .i64 0) ∧ Below B w w' ∧ MemS B w' pm bp (sto d k f v n) := by
  have HF := Aside0.mk (find_some B w pm bp d at_ n k f hM hg (by omega) (by omega) h)
  obtain ⟨kl, hx, hf⟩ := hit_some hg h
  clear hx
  have HC := Aside0.mk (fun (W : World) (hb : Below w.heap.size w W) => ((hM.below hb).cells k kl).2.1)
  rw [h3] at HC
  have HM := Aside0.mk (fun (W : World) (hb : Below w.heap.size w W) => hM.below hb)
  have HS := Aside0.mk (fun (W : World) (i : Nat) (hi : i < n) (h : MemS B W pm bp (sto d k f v i)) => h.sto_ kl (by omega))
  have e0 : sto d k f v 0 = d := by
    show d.setIfInBounds k d[k]! = d
    refine Array.ext (by simp) fun i h1 h2 => ?_
    rw [Array.getElem_setIfInBounds]
    split
    · rename_i e
      subst e
      simp [h2]
    · rfl
  have E0 := Aside0.mk e0
  clear hM hg h kl h3 e0 hf
  generalize d[k]!.blk = blk at HF HS
  generalize d[k]!.bytes.length - f = c at HF
  obtain ⟨m, hm⟩ : ∃ m : Nat, m = n := ⟨n, rfl⟩
  have HN := Aside0.mk hm
  have hm8 : m ≤ 8 := by omega
  have HF' : Aside0 (Calls Try.prog 16 #[.pointer (some ⟨pm, 0, none⟩), .int .u64 at_, .int .i64 n] w fun e w' => e = .returned (.tuple #[.pointer (some ⟨bp, k * 4, none⟩), .slice (some ⟨blk, f, none⟩) m c]) ∧ Below w.heap.size w w') := by rw [hm]; exact HF
  clear HF hm
  rcases hn with rfl | rfl
  all_goals
    push_cast at HF' ⊢
    go_enter Try.func10, Try.ntmps10
    go_wp2_with (go_at_call 16; (with_reducible refine HF'.out.mono ?_); rintro e w1 ⟨rfl, hb⟩; have HB := Aside0.mk hb; have hc := HC.out _ hb; clear hb)
    have hm1 := HM.out _ HB.out
    rw [← E0.out] at hm1
    have HM1 := Aside0.mk hm1
    have HB1 := Aside0.mk ((HB.out).mono hB)
    clear hm1 HB HM HC hc HF'
    go_loopw [39] (fun c1 wr => ∃ i : Nat, i ≤ m ∧ c1 = .int .i64 i ∧ Aside0 (MemS B wr pm bp (sto d k f v i)) ∧ Aside0 (Below B w wr)) (fun c1 _ => m - (intOf c1).toNat)
    case atStart => exact ⟨0, by omega, rfl, HM1, HB1⟩
    case round =>
      clear HM1 HB1
      obtain ⟨i, hi, rfl, HM1, HB1⟩ := hrel
      by_cases hlt : i < m
      · obtain ⟨cc, cf, hs, hbl⟩ := HS.out _ i (by have := HN.out; omega) HM1.out
        have HS1 := Aside0.mk hs
        have HL := Aside0.mk hbl
        clear hs hbl
        go_wp2
        go_roundw
        case rel => exact ⟨i + 1, by omega, by go_num, HS1, ⟨HB1.out.setCell (p := ⟨blk, f + i, none⟩) HL.out _⟩⟩
        case measure => simp [intOf]; omega
      · go_wp2
        go_ret
        obtain rfl : i = m := by omega
        have := HN.out
        subst this
        exact ⟨rfl, HB1.out, HM1.out⟩
end Go.Proofs.Ytjllhcfcdimbfaa.P
