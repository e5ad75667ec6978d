/- 'New': a memory of regions, or none. -/
import Derived.Test.YtjllhcfcdimbfaaMp36
import Derived.Lib.LazyBuf
import Derived.Deep.RegionLaw
namespace Go.Proofs.Ytjllhcfcdimbfaa.P
open Go Go.RowKit Go.Lib Go.Shelf Go.Proofs.YtjllhcfcdimbfaaW.PrintWords Go.Proofs.YtjllhcfcdimbfaaW.PrintLast Go.Proofs.YtjllhcfcdimbfaaW.PrintMore
set_option linter.unusedVariables false
set_option linter.unusedSimpArgs false
def Bad1 (r : S37) : Prop := r.f1 < 1 ∨ 3 < r.f1 ∨ r.f2.size = 0 ∨ 65536 < r.f2.size
def Bad2 (r : S37) : Prop := 4611686018427387904 < r.f0
structure Of (l : List S37) (d : Array Rg) : Prop where
  size : d.size = l.length
  all : ∀ r ∈ l, ∃ k, k < d.size ∧ d[k]!.at_ = r.f0 ∧ d[k]!.kind = r.f1 ∧ d[k]!.bytes = bytesN r.f2
def NewPost (l : List S37) (w : World) (e : Ending) (w' : World) : Prop :=
  RowKit.Below w.heap.size w w' ∧ ((∃ c : Int, c ≠ 0 ∧ e = .returned (.tuple #[.pointer none, .int .i64 c]) ∧ ((∃ r ∈ l, Bad1 r ∨ Bad2 r) ∨ 2 ≤ l.length)) ∨
  ∃ pm bp d, e = .returned (.tuple #[.pointer (some ⟨pm, 0, none⟩), .int .i64 0]) ∧ MemS w.heap.size w' pm bp d ∧ Good d ∧ Of l d)
theorem newPost_bad {l : List S37} {w w' : World} {c : Int} (hc : c ≠ 0) (hb : RowKit.Below w.heap.size w w') (h : (∃ r ∈ l, Bad1 r ∨ Bad2 r) ∨ 2 ≤ l.length) : NewPost l w (.returned (.tuple #[.pointer none, .int .i64 c])) w' := ⟨hb, .inl ⟨c, hc, rfl, h⟩⟩
theorem rd_mem (l : List S37) (i : Nat) (hi : i < l.length) : rd_T37 l i ∈ l ∧ l[i] = rd_T37 l i := by
  unfold rd_T37
  rw [Int.toNat_natCast, List.getD_eq_getElem?_getD, List.getElem?_eq_getElem hi]
  exact ⟨List.getElem_mem hi, rfl⟩
theorem all_succ {l : List S37} {p : S37 → Prop} {i : Nat} {r : S37} (hi : i < l.length) (hg : l[i] = r) (h : ∀ j (h : j < l.length), j < i → ¬ p l[j]) (hr : ¬ p r) : ∀ j (h : j < l.length), j < i + 1 → ¬ p l[j] := by
  intro j hj h1
  by_cases e : j = i
  · subst e
    rw [hg]
    exact hr
  · exact h j hj (by omega)
def rgs (D : Array S37) (bl : Nat → Nat) : Array Rg := ((List.range D.size).map fun j => (⟨D[j]!.f0, D[j]!.f1, bl j, bytesN D[j]!.f2⟩ : Rg)).toArray
theorem rgs_size (D : Array S37) (bl : Nat → Nat) : (rgs D bl).size = D.size := by simp [rgs]
theorem rgs_get (D : Array S37) (bl : Nat → Nat) (j : Nat) (hj : j < D.size) : (rgs D bl)[j]! = ⟨D[j]!.f0, D[j]!.f1, bl j, bytesN D[j]!.f2⟩ := by
  rw [getElem!_pos _ j (by rw [rgs_size]; exact hj)]
  simp [rgs]
theorem rgs_pt (D : Array S37) (bl : Nat → Nat) : (rgs D bl).map Rg.pt = half D bl D.size := by
  refine Array.ext (by rw [Array.size_map, rgs_size, half_size]) fun j h1 h2 => ?_
  have hj : j < D.size := by rw [half_size] at h2; exact h2
  have e1 := rgs_get D bl j hj
  rw [getElem!_pos _ j (by rw [rgs_size]; exact hj)] at e1
  have e2 := half_get D bl D.size j hj
  rw [getElem!_pos _ j (by rw [half_size]; exact hj)] at e2
  rw [Array.getElem_map, e1, e2]
  unfold halfPt Rg.pt
  rw [if_pos hj]
  dsimp only
  rw [bytesN_length]
theorem new_done {l : List S37} {w wr : World} {pb bp : Nat} {D : Array S37} {bl : Nat → Nat} (h : Half w.heap.size wr pb bp D bl D.size) (hb : RowKit.Below w.heap.size w wr) (hl : l.length ≤ 100000) (hs : D.size = l.length) (hp : D.toList.Perm l)
    (hw : ∀ r ∈ l, 0 ≤ r.f0 ∧ r.f0 ≤ 18446744073709551615) (h1 : ∀ j (h : j < l.length), j < l.length → ¬ Bad1 l[j]) (h2 : ∀ j (h : j < l.length), j < l.length → ¬ Bad2 l[j]) (hn : ∀ j, j + 1 < l.length → D[j]!.f0 + D[j]!.f2.size ≤ D[j + 1]!.f0) (t : TypeId) :
    NewPost l w (.returned (.tuple #[.pointer (some ⟨wr.heap.size, 0, none⟩), .int .i64 0])) (wr.alloc (.cells #[.slice (some ⟨bp, 0, none⟩) D.size D.size] t)) := by
  have hz := hb.size
  have hM : MemS w.heap.size (wr.alloc (.cells #[.slice (some ⟨bp, 0, none⟩) D.size D.size] t)) wr.heap.size bp (rgs D bl) := by
    obtain ⟨l1, l2, l3, l4⟩ := h.lt
    refine ⟨?_, ?_, fun i hi j hj => ?_, ⟨by simp, by simp; omega, fun i hi => ?_⟩, fun i hi => ?_⟩
    · rw [rgs_size]
      exact (blk_cell (blk_new wr _) 0).trans rfl
    · rw [rgs_pt]
      intro t' ht
      have := h.row t' ht
      exact ⟨((alloc_far wr _ bp _ l2).1).trans this.1, ((alloc_far wr _ bp _ l2).2).trans this.2⟩
    · rw [rgs_size] at hi
      rw [rgs_get _ _ _ hi] at hj ⊢
      dsimp only at hj ⊢
      rw [bytesN_length] at hj
      have := h.bytes i hi j hj
      have hl := (l4 i hi).2
      exact ⟨((alloc_far wr _ _ _ hl).1).trans this.1, ((alloc_far wr _ _ _ hl).2).trans this.2⟩
    · rw [rgs_size] at hi
      rw [rgs_get _ _ _ hi]
      have := l4 i hi
      exact ⟨this.1, by simp; omega⟩
    · rw [rgs_size] at hi ⊢
      rw [rgs_get _ _ _ hi]
      have := l4 i hi
      obtain ⟨_, a2, a3⟩ := h.apart i hi
      refine ⟨by dsimp only; omega, a2, fun j hj e => a3 j hj ?_⟩
      rw [rgs_get _ _ _ hj] at e
      exact e
  have mem : ∀ j, j < D.size → D[j]! ∈ l := fun j hj => by
    rw [getElem!_pos D j hj]
    exact hp.mem_iff.1 (by simp)
  refine ⟨hb.alloc hz _, .inr ⟨_, bp, rgs D bl, rfl, hM, ⟨by rw [rgs_size]; omega, fun i hi => ?_, fun i hi => ?_⟩, ⟨by rw [rgs_size]; exact hs, fun r hr => ?_⟩⟩⟩
  · rw [rgs_size] at hi
    rw [rgs_get _ _ _ hi]
    dsimp only
    rw [bytesN_length]
    have hm := mem i hi
    obtain ⟨q, hq, e⟩ := List.getElem_of_mem hm
    have g1 := h1 q hq hq
    have g2 := h2 q hq hq
    rw [e] at g1 g2
    unfold Bad1 at g1
    unfold Bad2 at g2
    refine ⟨(hw _ hm).1, by omega, by omega, by omega, by omega, by omega, fun x hx => ?_⟩
    unfold bytesN at hx
    obtain ⟨y, _, rfl⟩ := List.mem_map.1 hx
    exact y.toNat_lt
  · rw [rgs_size] at hi
    rw [rgs_get _ _ _ hi, rgs_get _ _ _ (by omega)]
    dsimp only
    rw [bytesN_length]
    exact hn i (by omega)
  · have hm : r ∈ D.toList := hp.mem_iff.2 hr
    obtain ⟨k, hk, e⟩ := List.getElem_of_mem hm
    have hk' : k < D.size := by simpa using hk
    have e' : D[k]! = r := by rw [getElem!_pos D k hk', ← e]; simp
    refine ⟨k, by rw [rgs_size]; exact hk', ?_⟩
    rw [rgs_get _ _ _ hk', e']
    exact ⟨rfl, rfl, rfl⟩
theorem blk_alloc_eq (w : World) (o : Obj) (k : Nat) (hk : k < w.heap.size) : (w.alloc o).heap[k]? = w.heap[k]? := by
  unfold World.alloc
  rw [Array.getElem?_push, if_neg (by omega)]
set_option maxHeartbeats 8000000 in
set_option maxRecDepth 100000 in
theorem new_any (w : World) (A : Option Addr) (c : Nat) (l : List S37) (hr : Kd.C k37 w A l.length l) (hc : l.length ≤ c) (hl : l.length ≤ 100000) (hw : ∀ r ∈ l, 0 ≤ r.f0 ∧ r.f0 ≤ 18446744073709551615) :
    Calls Try.prog 7 #[.slice A l.length c] w (NewPost l w) := by
  have HR := Aside0.mk hr
  have HW := Aside0.mk hw
  have HL := Aside0.mk hl
  clear hr hw
  go_enter Try.func7, Try.ntmps7
  go_wp2
  go_loopw [16] (fun v wr => ∃ i : Nat, i ≤ l.length ∧ v = .int .i64 i ∧ Aside0 (∀ j (h : j < l.length), j < i → ¬ Bad1 l[j]) ∧ Aside0 (RowKit.Below w.heap.size w wr)) (fun v _ => l.length - (intOf v).toNat)
  case atStart => exact ⟨0, Nat.zero_le _, rfl, ⟨fun j _ h => absurd h (Nat.not_lt_zero _)⟩, ⟨Below.refl _ _⟩⟩
  case round =>
    obtain ⟨i, hi, rfl, HP, HB⟩ := hrel
    by_cases hlt : i < l.length
    · have hr1 := Kd.C_below HR.out (HB.out)
      obtain ⟨ad, e, hx0, hx1, hx2⟩ := at_T37 hr1 i (by omega) (by omega)
      clear hr1
      obtain ⟨hm, hg⟩ := rd_mem l i hlt
      have HM := Aside0.mk hm
      have HG := Aside0.mk hg
      clear hm hg
      cases e
      obtain ⟨r, hr⟩ : ∃ r, rd_T37 l i = r := ⟨_, rfl⟩
      rw [hr] at hx0 hx1 hx2
      rw [Int.toNat_natCast] at hx0 hx1 hx2
      rw [hr] at HM HG
      clear hr
      by_cases hb : Bad1 r
      · have H := Aside0.mk (show (∃ r ∈ l, Bad1 r ∨ Bad2 r) ∨ 2 ≤ l.length from .inl ⟨r, HM.out, .inl hb⟩)
        unfold Bad1 at hb
        by_cases c1 : r.f1 < 1
        · clear hb
          go_wp2
          go_ret2
          exact newPost_bad (by decide) (HB.out.alloc HB.out.size _) H.out
        · by_cases c2 : 3 < r.f1
          · clear hb
            go_wp2
            go_ret2
            exact newPost_bad (by decide) (HB.out.alloc HB.out.size _) H.out
          · by_cases c3 : r.f2.size = 0
            · have c3a : ((r.f2.size : Int) == 0) = true := by simpa using c3
              have c3b : (r.f2.size == 0) = true := by simpa using c3
              clear hb c3
              go_wp2
              go_ret2
              exact newPost_bad (by decide) (HB.out.alloc HB.out.size _) H.out
            · have c3a : ((r.f2.size : Int) == 0) = false := by simpa using c3
              have c4 : 65536 < r.f2.size := by omega
              clear hb c3
              go_wp2
              go_ret2
              exact newPost_bad (by decide) (HB.out.alloc HB.out.size _) H.out
      · have HN := Aside0.mk (all_succ hlt HG.out HP.out hb)
        unfold Bad1 at hb
        have c1 : 1 ≤ r.f1 := by omega
        have c2 : r.f1 ≤ 3 := by omega
        have c3 : r.f2.size ≠ 0 := by omega
        have c3a : ((r.f2.size : Int) == 0) = false := by simpa using c3
        have c4 : r.f2.size ≤ 65536 := by omega
        clear hb c3
        go_wp2
        go_roundw
        case rel => exact ⟨i + 1, by omega, by go_num, HN, ⟨HB.out.alloc HB.out.size _⟩⟩
        case measure => simp [intOf]; omega
    · obtain rfl : i = l.length := by omega
      clear hlt hi
      go_wp2
      have HP1 := HP
      clear HP
      go_loopw [43] (fun v wr => ∃ i : Nat, i ≤ l.length ∧ v = .int .i64 i ∧ Aside0 (∀ j (h : j < l.length), j < i → ¬ Bad2 l[j]) ∧ Aside0 (RowKit.Below w.heap.size w wr)) (fun v _ => l.length - (intOf v).toNat)
      case atStart => exact ⟨0, Nat.zero_le _, rfl, ⟨fun j _ h => absurd h (Nat.not_lt_zero _)⟩, HB⟩
      case round =>
        clear HB
        obtain ⟨i, hi, rfl, HP, HB⟩ := hrel
        by_cases hlt : i < l.length
        · have hr1 := Kd.C_below HR.out (HB.out)
          obtain ⟨ad, e, hx0, hx1, hx2⟩ := at_T37 hr1 i (by omega) (by omega)
          clear hr1
          obtain ⟨hm, hg⟩ := rd_mem l i hlt
          have HM := Aside0.mk hm
          have HG := Aside0.mk hg
          clear hm hg
          cases e
          obtain ⟨r, hr⟩ : ∃ r, rd_T37 l i = r := ⟨_, rfl⟩
          rw [hr] at hx0 hx1 hx2
          rw [Int.toNat_natCast] at hx0 hx1 hx2
          rw [hr] at HM HG
          clear hr
          by_cases hb : Bad2 r
          · have H := Aside0.mk (show (∃ r ∈ l, Bad1 r ∨ Bad2 r) ∨ 2 ≤ l.length from .inl ⟨r, HM.out, .inr hb⟩)
            unfold Bad2 at hb
            go_wp2
            go_ret2
            exact newPost_bad (by decide) (HB.out.alloc HB.out.size _) H.out
          · have HN := Aside0.mk (all_succ hlt HG.out HP.out hb)
            unfold Bad2 at hb
            have c1 : r.f0 ≤ 4611686018427387904 := by omega
            clear hb
            go_wp2
            go_roundw
            case rel => exact ⟨i + 1, by omega, by go_num, HN, ⟨HB.out.alloc HB.out.size _⟩⟩
            case measure => simp [intOf]; omega
        · obtain rfl : i = l.length := by omega
          clear hlt hi
          obtain ⟨wo, rfl⟩ : ∃ wo : World, wo = wr := ⟨_, rfl⟩
          have hmk := fun (W : World) => make_parts l.length HL.out W
          go_wp2
          have HP2 := HP
          clear HP hmk
          have HZ := Aside0.mk (holds_zero l wo)
          have hbx : ((wo.alloc (.cells (madeCells zeroP (l.length * 4)) 47)).alloc (.cells #[.slice (some ⟨wo.heap.size, 0, none⟩) l.length l.length] 44)).cell? ⟨wo.heap.size + 1, 0, none⟩ = some (.slice (some ⟨wo.heap.size, 0, none⟩) l.length l.length) :=
            (blk_cell (by have := blk_new (wo.alloc (.cells (madeCells zeroP (l.length * 4)) 47)) (.cells #[.slice (some ⟨wo.heap.size, 0, none⟩) l.length l.length] 44); simpa using this) 0).trans rfl
          have HX := Aside0.mk hbx
          clear hbx
          go_loopw [56] (fun v wr => ∃ i : Nat, i ≤ l.length ∧ v = .int .i64 i ∧ Aside0 (Sort.HoldsK encR 4 wr wo.heap.size 0 (fill l i)) ∧ Aside0 (wr.cell? ⟨wo.heap.size + 1, 0, none⟩ = some (.slice (some ⟨wo.heap.size, 0, none⟩) l.length l.length)) ∧ Aside0 (wo.heap.size + 2 ≤ wr.heap.size) ∧ Aside0 (RowKit.Below wo.heap.size wo wr)) (fun v _ => l.length - (intOf v).toNat)
          case atStart => exact ⟨0, Nat.zero_le _, rfl, ⟨holds_alloc HZ.out (by simp) (fun k hk => blk_alloc_eq _ _ k hk)⟩, HX, ⟨by simp⟩, ⟨((Below.refl _ wo).alloc (Nat.le_refl _) _).alloc (by simp) _⟩⟩
          case round =>
            clear HZ HX
            obtain ⟨i, hi, rfl, HH, HX, HS, HB2⟩ := hrel
            by_cases hlt : i < l.length
            · have hr1 := Kd.C_below HR.out (below_step HB.out HB2.out)
              obtain ⟨ad, e, hx0, hx1, hx2⟩ := at_T37 hr1 i (by omega) (by omega)
              clear hr1
              obtain ⟨hm, hg⟩ := rd_mem l i hlt
              have HG := Aside0.mk hg
              clear hm hg
              cases e
              obtain ⟨r, hr⟩ : ∃ r, rd_T37 l i = r := ⟨_, rfl⟩
              rw [hr] at hx0 hx1 hx2
              rw [Int.toNat_natCast] at hx0 hx1 hx2
              rw [hr] at HG
              clear hr
              have hH3 := holds_alloc HH.out (by have := HS.out; omega) (w1 := wr.alloc (.cells #[.int .u64 r.f0, .int .i64 r.f1, .string r.f2] 37)) (fun k hk => blk_alloc_eq _ _ k hk)
              have HN := Aside0.mk (holds_fill l i hlt _ _ hH3 r HG.out)
              obtain ⟨v0, v1, v2, k0, k1, k2, f0, f1, f2⟩ := fill_cells hH3 i hlt
              have hx := cell_alloc_sl (.cells #[.int .u64 r.f0, .int .i64 r.f1, .string r.f2] 37) HX.out
              have HX3 := Aside0.mk hx
              have hne1 : wo.heap.size + 1 ≠ wo.heap.size := by omega
              clear hH3
              go_wp2
              go_roundw
              case rel => exact ⟨i + 1, by omega, by go_num, HN, ⟨by rw [far_set _ _ _ _ _ _ hne1, far_set _ _ _ _ _ _ hne1, far_set _ _ _ _ _ _ hne1]; exact HX3.out⟩, ⟨by simp; have := HS.out; omega⟩, ⟨(((HB2.out.alloc HB2.out.size _).setCell (Nat.le_refl _) _).setCell (Nat.le_refl _) _).setCell (Nat.le_refl _) _⟩⟩
              case measure => simp [intOf]; omega
            · obtain rfl : i = l.length := by omega
              clear hlt hi
              have hs := sort_any wr (wo.heap.size + 1) wo.heap.size l.length (fill l l.length) (by rw [fill_size]; exact HL.out) HH.out (by have := HS.out; omega) (by rw [fill_size]; exact HX.out) (by have := HS.out; omega) (by omega)
              rw [fill_size] at hs
              have HSO := Aside0.mk hs
              clear hs
              have hbx := HX.out
              go_wp2_with (go_at_call 14; (with_reducible refine HSO.out.mono ?_); rintro e w3 ⟨rfl, D, hD⟩; have HD := Aside0.mk hD; clear hD)
              have hb1 : w3.cell? ⟨wo.heap.size + 1, 0, none⟩ = some (.slice (some ⟨wo.heap.size, 0, none⟩) l.length l.length) := by
                have e := HD.out.2.2.2.2.1 (wo.heap.size + 1) (by have := HS.out; omega) (by omega)
                have h := HX.out
                unfold World.cell? at h ⊢
                rw [e]
                exact h
              have hB3 : RowKit.Below w.heap.size w w3 := (below_step HB.out HB2.out).trans (HD.out.2.2.2.2.2.2 w.heap.size (by have := HB.out.size; omega) (by have := HB.out.size; have := HB2.out.size; omega))
              have h3s : wo.heap.size + 2 ≤ w3.heap.size := by have := HS.out; have := HD.out.2.2.2.2.2.1; omega
              have H3 := Aside0.mk hB3
              have HZ3 := Aside0.mk h3s
              obtain ⟨d1, d2, d3, d4, _⟩ := HD.out
              rw [fill_size] at d1 d3
              rw [fill_all] at d2
              have HD1 := Aside0.mk d1
              have HD2 := Aside0.mk d2
              have HD3 := Aside0.mk d3
              have HD4 := Aside0.mk d4
              clear hB3 h3s HD HSO HH HX HS HB2 d1 d2 d3 d4
              have HX := Aside0.mk hb1
              clear hb1
              have all : ∀ j, j < l.length → 0 ≤ D[j]!.f0 ∧ D[j]!.f0 ≤ 4611686018427387904 ∧ D[j]!.f2.size ≤ 65536 := by
                intro j hj
                have hm : D[j]! ∈ l := by
                  rw [getElem!_pos D j (by rw [HD1.out]; exact hj)]
                  exact HD2.out.mem_iff.1 (by simp)
                obtain ⟨q, hq, e⟩ := List.getElem_of_mem hm
                have g1 := HP1.out q hq hq
                have g2 := HP2.out q hq hq
                rw [e] at g1 g2
                unfold Bad1 at g1
                unfold Bad2 at g2
                exact ⟨(HW.out _ hm).1, by omega, by omega⟩
              have HA := Aside0.mk all
              clear all hbx
              go_loopw [11] (fun v wr => ∃ q : Nat, (q + 1 ≤ l.length ∨ q = 0) ∧ v = .int .i64 (q + 1) ∧ Aside0 (∀ j, j < q → D[j]!.f0 + D[j]!.f2.size ≤ D[j + 1]!.f0) ∧ Aside0 (Drawn0 w3 wr)) (fun v _ => l.length - (intOf v).toNat)
              case atStart => exact ⟨0, .inr rfl, rfl, ⟨fun j h => absurd h (Nat.not_lt_zero _)⟩, ⟨0, rfl⟩⟩
              case round =>
                obtain ⟨q, hq, rfl, HP, ⟨⟨m, rfl⟩⟩⟩ := hrel
                have hbx := HX.out
                by_cases hlt : q + 1 < l.length
                · obtain ⟨a0, a1, a2⟩ := HA.out q (by omega)
                  obtain ⟨b0, b1, b2⟩ := HA.out (q + 1) (by omega)
                  have ab := HD3.out q (q + 1) (by omega) hlt
                  have k0 := (HD4.out.cell (i := q) (c := 0) (by rw [HD1.out]; omega) (by decide)).1
                  have k2 := (HD4.out.cell (i := q) (c := 2) (by rw [HD1.out]; omega) (by decide)).1
                  have k4 := (HD4.out.cell (i := q + 1) (c := 0) (by rw [HD1.out]; omega) (by decide)).1
                  simp only [Nat.zero_add, Nat.add_zero] at k0 k2 k4
                  replace k0 : w3.cell? ⟨wo.heap.size, q * 4, none⟩ = some (.int .u64 D[q]!.f0) := k0
                  replace k2 : w3.cell? ⟨wo.heap.size, q * 4 + 2, none⟩ = some (.string D[q]!.f2) := k2
                  replace k4 : w3.cell? ⟨wo.heap.size, (q + 1) * 4, none⟩ = some (.int .u64 D[q + 1]!.f0) := k4
                  obtain ⟨x, hx⟩ : ∃ x, D[q]! = x := ⟨_, rfl⟩
                  obtain ⟨y, hy⟩ : ∃ y, D[q + 1]! = y := ⟨_, rfl⟩
                  rw [hx] at a0 a1 a2 ab k0 k2
                  rw [hy] at b0 b1 b2 ab k4
                  have HXE := Aside0.mk hx
                  have HYE := Aside0.mk hy
                  clear hx hy hq
                  by_cases ht : y.f0 - x.f0 < x.f2.size
                  · have hl2 := Aside0.mk (show (∃ r ∈ l, Bad1 r ∨ Bad2 r) ∨ 2 ≤ l.length from .inr (by omega))
                    go_wp2
                    go_quiet (fail)
                    go_wp2
                    go_ret2
                    exact newPost_bad (by decide) (pw_below_drewN (pw_below_drewN H3.out _) _) hl2.out
                  · have hN := Aside0.mk (show ∀ j, j < q + 1 → D[j]!.f0 + D[j]!.f2.size ≤ D[j + 1]!.f0 from fun j hj => by
                      by_cases e : j = q
                      · subst e
                        rw [HXE.out, HYE.out]
                        omega
                      · exact HP.out j (by omega))
                    go_wp2
                    go_quiet (fail)
                    go_wp2
                    go_roundw
                    case rel => exact ⟨q + 1, by omega, by go_num, hN, ⟨_, rfl⟩⟩
                    case measure => simp [intOf]; omega
                · have hnext := Aside0.mk (show ∀ j, j + 1 < l.length → D[j]!.f0 + D[j]!.f2.size ≤ D[j + 1]!.f0 from fun j hj => HP.out j (by omega))
                  go_wp2
                  clear hbx hlt hq HP
                  have HH0 := Aside0.mk (half_start (B := w.heap.size) (w := w3.drewN m) (by rw [HD1.out]; exact HX.out) HD4.out (by have := HZ3.out; show wo.heap.size + 1 < w3.heap.size; omega) (by have := HZ3.out; show wo.heap.size < w3.heap.size; omega) (by omega))
                  have HB4 := Aside0.mk (pw_below_drewN H3.out m)
                  obtain ⟨w4, hw4⟩ : ∃ w4 : World, w3.drewN m = w4 := ⟨_, rfl⟩
                  rw [hw4] at HH0 HB4 ⊢
                  clear hw4 H3 HX HD4 HD3 HZ3
                  have HWO := Aside0.mk HB.out.size
                  go_loopw [103] (fun v wr => ∃ (i : Nat) (bl : Nat → Nat), i ≤ l.length ∧ v = .int .i64 i ∧ Aside0 (Half w.heap.size wr (wo.heap.size + 1) wo.heap.size D bl i) ∧ Aside0 (RowKit.Below w.heap.size w wr)) (fun v _ => l.length - (intOf v).toNat)
                  case atStart => exact ⟨0, _, Nat.zero_le _, rfl, HH0, HB4⟩
                  case round =>
                    clear HH0 HB4
                    obtain ⟨i, bl, hi, rfl, HH, HB5⟩ := hrel
                    have hbx := HH.out.box
                    rw [HD1.out] at hbx
                    have HX := Aside0.mk hbx
                    by_cases hlt : i < l.length
                    · obtain ⟨k2, k3, f2, f3⟩ := HH.out.cells (by rw [HD1.out]; exact hlt)
                      have hsz := (HA.out i hlt).2.2
                      have HN := Aside0.mk (fun n => half_round HH.out (by rw [HD1.out]; exact hlt) (by have := HB5.out.size; omega) n)
                      generalize D[i]!.f2 = s at k2 hsz HN
                      have hmk := fun (W : World) => make_bytes s.size hsz W
                      have k2a := cell_alloc_sl (.cells (madeCells #[.int .u8 0] s.size) 5) k2
                      have k3a := cell_alloc_sl (.cells (madeCells #[.int .u8 0] s.size) 5) k3
                      have hlw : wo.heap.size < wr.heap.size := HH.out.lt.2.1
                      have f3a := ((alloc_far wr (.cells (madeCells #[.int .u8 0] s.size) 5) wo.heap.size (i * 4 + 3) hlw).2).trans f3
                      have f2a := Aside0.mk (((alloc_far wr (.cells (madeCells #[.int .u8 0] s.size) 5) wo.heap.size (i * 4 + 2) hlw).2).trans f2)
                      have HBX := Aside0.mk (cell_alloc_sl (.cells (madeCells #[.int .u8 0] s.size) 5) hbx)
                      have K2 := Aside0.mk k2a
                      have K3 := Aside0.mk k3a
                      have HLW := Aside0.mk hlw
                      clear hlw
                      go_wp2
                      have m1 : ((wr.alloc (.cells (madeCells #[.int .u8 0] s.size) 5)).setCell ⟨wo.heap.size, i * 4 + 3, none⟩ (.slice (some ⟨wr.heap.size, 0, none⟩) s.size s.size)).cell? ⟨wo.heap.size, i * 4 + 3, none⟩ = some (.slice (some ⟨wr.heap.size, 0, none⟩) s.size s.size) := World.cell?_setCell_same _ _ _ K3.out
                      have m2 : ((wr.alloc (.cells (madeCells #[.int .u8 0] s.size) 5)).setCell ⟨wo.heap.size, i * 4 + 3, none⟩ (.slice (some ⟨wr.heap.size, 0, none⟩) s.size s.size)).cell? ⟨wo.heap.size, i * 4 + 2, none⟩ = some (.string s) := (World.cell?_setCell_other _ _ _ _ (by intro e; injection e with _ e; omega)).trans K2.out
                      have m3 : ((wr.alloc (.cells (madeCells #[.int .u8 0] s.size) 5)).setCell ⟨wo.heap.size, i * 4 + 3, none⟩ (.slice (some ⟨wr.heap.size, 0, none⟩) s.size s.size)).frozen? ⟨wo.heap.size, i * 4 + 2, none⟩ = false := (World.frozen?_setCell ..).trans f2a.out
                      have m4 : ∀ j, j < s.size → (((wr.alloc (.cells (madeCells #[.int .u8 0] s.size) 5)).setCell ⟨wo.heap.size, i * 4 + 3, none⟩ (.slice (some ⟨wr.heap.size, 0, none⟩) s.size s.size)).cell? ⟨wr.heap.size, 0 + j, none⟩).isSome = true := fun j hj => by
                        rw [far_set _ _ _ _ _ _ (Nat.ne_of_gt HLW.out), blk_cell (blk_new wr _)]
                        simp [madeCells, hj]
                      have m5 : ∀ j, j < s.size → ((wr.alloc (.cells (madeCells #[.int .u8 0] s.size) 5)).setCell ⟨wo.heap.size, i * 4 + 3, none⟩ (.slice (some ⟨wr.heap.size, 0, none⟩) s.size s.size)).frozen? ⟨wr.heap.size, 0 + j, none⟩ = false := fun j hj => (World.frozen?_setCell ..).trans (blk_frozen (blk_new wr _) _)
                      obtain ⟨wm, hwm⟩ : ∃ wm : World, (wr.alloc (.cells (madeCells #[.int .u8 0] s.size) 5)).setCell ⟨wo.heap.size, i * 4 + 3, none⟩ (.slice (some ⟨wr.heap.size, 0, none⟩) s.size s.size) = wm := ⟨_, rfl⟩
                      rw [hwm] at m1 m2 m3 m4 m5 ⊢
                      have HWM := Aside0.mk hwm
                      have M2 := Aside0.mk m2
                      have M3 := Aside0.mk m3
                      have M4 := Aside0.mk m4
                      have M5 := Aside0.mk m5
                      clear hwm m4 m5 m3 k2 k3 f2 f3 k2a k3a f3a hbx hmk
                      have hz : ∀ W, (Go.sizeOf 5).run Try.prog W = .ok 1 W := fun W => Try.sizeOf5 W
                      go_region_law (refine step_copy_string rfl (.tmp 122) (.tmp 127) 45 9 rfl 5 Try.underlying45 hz wr.heap.size 0 s.size s.size (by simp [Act.eval, Act.put]) s (by simp [Act.eval, Act.put]) (Nat.le_refl _) (fun j hj => M4.out j hj) (fun j hj => M5.out j hj) ?_)
                      all_goals
                        have q2 := (cells_far wr.heap.size (s.data.toList.map fun x => Value.int .u8 (x.toNat : Int)) wm.drew wo.heap.size (i * 4 + 2) (Nat.ne_of_lt HLW.out)).trans M2.out
                        have q3 := (World.frozen?_setCells wr.heap.size (s.data.toList.map fun x => Value.int .u8 (x.toNat : Int)) 0 wm.drew ⟨wo.heap.size, i * 4 + 2, none⟩).trans M3.out
                        have hfin : (wm.drew.setCells wr.heap.size 0 (s.data.toList.map fun x => Value.int .u8 (x.toNat : Int))).setCell ⟨wo.heap.size, i * 4 + 2, none⟩ (.string ⟨#[]⟩) = roundW wr wo.heap.size i s 1 := by rw [← HWM.out]; rfl
                        obtain ⟨w6, hw6⟩ : ∃ w6 : World, wm.drew.setCells wr.heap.size 0 (s.data.toList.map fun x => Value.int .u8 (x.toNat : Int)) = w6 := ⟨_, rfl⟩
                        rw [hw6] at q2 q3 hfin ⊢
                        have HF := Aside0.mk hfin
                        clear hw6 hfin
                        go_wp2
                        go_roundw
                        case rel => exact ⟨i + 1, _, by omega, by go_num, ⟨by rw [HF.out]; exact HN.out 1⟩, ⟨by rw [HF.out]; exact roundW_below HB5.out _ _ _ _ HWO.out HB5.out.size⟩⟩
                        case measure => simp [intOf]; omega
                    · obtain rfl : i = l.length := by omega
                      clear hlt hi
                      go_wp2
                      go_ret2
                      have := new_done (by rw [HD1.out]; exact HH.out) HB5.out HL.out HD1.out HD2.out HW.out HP1.out HP2.out hnext.out 52
                      rw [HD1.out] at this
                      exact this
end Go.Proofs.Ytjllhcfcdimbfaa.P
