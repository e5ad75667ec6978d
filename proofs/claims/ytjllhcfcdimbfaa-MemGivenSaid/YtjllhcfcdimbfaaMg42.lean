/- The law 'MemGiven' walked: it returns true. -/
import Derived.Test.YtjllhcfcdimbfaaMg39
namespace Go.Proofs.Ytjllhcfcdimbfaa.P
open Go Go.RowKit Go.Lib Go.Shelf Go.Proofs.YtjllhcfcdimbfaaW.PrintWords Go.Proofs.YtjllhcfcdimbfaaW.PrintLast Go.Proofs.YtjllhcfcdimbfaaW.PrintMore
set_option linter.unusedVariables false
set_option linter.unusedSimpArgs false
/-- The three cells of a region that came in. -/
def At3 (w : World) (a : Addr) (r : S37) : Prop := w.cell? a = some (.int .u64 r.f0) ∧ w.cell? ⟨a.block, a.off + 1, none⟩ = some (.int .i64 r.f1) ∧ w.cell? ⟨a.block, a.off + 2, none⟩ = some (.string r.f2)
theorem keep3 {w w1 : World} {a : Addr} {r : S37} (h : At3 w a r) (hb : RowKit.Below w.heap.size w w1) : At3 w1 a r :=
  ⟨(hb.cell (World.block_lt_of_cell? _ _ h.1)).trans h.1, (hb.cell (World.block_lt_of_cell? _ _ h.2.1)).trans h.2.1, (hb.cell (World.block_lt_of_cell? _ _ h.2.2)).trans h.2.2⟩
theorem keep3b {B : Nat} {w w1 : World} {a : Addr} {r : S37} (h : At3 w a r) (hb : RowKit.Below B w w1) (hl : a.block < B) : At3 w1 a r :=
  ⟨(hb.cell (p := a) hl).trans h.1, (hb.cell (p := ⟨a.block, a.off + 1, none⟩) hl).trans h.2.1, (hb.cell (p := ⟨a.block, a.off + 2, none⟩) hl).trans h.2.2⟩
theorem keep2 {W w2 : World} {a b : Addr} {u v : Value} (h : W.cell? a = some u ∧ W.cell? b = some v) (hb : RowKit.Below W.heap.size W w2) : w2.cell? a = some u ∧ w2.cell? b = some v :=
  ⟨(hb.cell (World.block_lt_of_cell? _ _ h.1)).trans h.1, (hb.cell (World.block_lt_of_cell? _ _ h.2)).trans h.2⟩
theorem str_back (s : ByteArray) : strOfNums (ints (bytesN s)) = s := by
  unfold strOfNums ints bytesN
  refine ByteArray.ext (Array.ext (by simp) fun i h1 h2 => ?_)
  simp
/-- What a region that was given answers. -/
theorem given_tx {d : Array Rg} (hg : Good d) {l : List S37} (ho : Of l d) {r : S37} (hr : r ∈ l) : tx d r.f0 r.f2.size = (r.f2, 0) ∧ (tx d r.f0 (r.f2.size + 1)).2 ≠ 0 ∧ ld d r.f0 1 = ((((bytesN r.f2).getD 0 0 : Nat) : Int), 0) ∧ 1 ≤ r.f2.size ∧ r.f2.size ≤ 65536 ∧ 0 ≤ r.f0 ∧ r.f0 ≤ 4611686018427387904 ∧ ∃ k f, hit d r.f0 1 = some (k, f) ∧ d[k]!.kind = r.f1 := by
  obtain ⟨k, hk, h1, h2, h3⟩ := ho.all r hr
  obtain ⟨b1, b2, b3, b4, _⟩ := hg.one k hk
  have hl : d[k]!.bytes.length = r.f2.size := by rw [h3, bytesN_length]
  have hh : ∀ n : Nat, 1 ≤ n → n ≤ r.f2.size → hit d r.f0 n = some (k, 0) := fun n h0 hn => by
    have := hit_of hg (k := k) (f := 0) (n := n) hk h0 (by omega)
    rw [h1] at this
    simpa using this
  have hcut : cut d[k]! 0 r.f2.size = bytesN r.f2 := by
    unfold cut
    rw [List.drop_zero, List.take_of_length_le (by omega), h3]
  refine ⟨?_, ?_, ?_, by omega, by omega, by omega, by omega, k, 0, hh 1 (by decide) (by omega), h2⟩
  · unfold tx
    rw [if_neg (by omega), if_neg (by omega), Int.toNat_natCast, hh r.f2.size (by omega) (Nat.le_refl _)]
    dsimp only
    rw [hcut, str_back]
  · have hn : hit d r.f0 (r.f2.size + 1) = none := by
      cases e : hit d r.f0 (r.f2.size + 1) with
      | none => rfl
      | some t =>
        obtain ⟨q, f⟩ := t
        obtain ⟨e1, e2, e3⟩ := hit_some hg e
        by_cases c : q = k
        · subst c
          omega
        · rcases Nat.lt_or_gt_of_ne c with c | c
          · have := hg.far q k c hk
            omega
          · have := hg.far k q c e1
            omega
    unfold tx
    split
    · decide
    · rw [if_neg (by omega), show ((r.f2.size : Int) + 1).toNat = r.f2.size + 1 by omega, hn]
      show (4 : Int) ≠ 0
      decide
  · unfold ld
    rw [hh 1 (by decide) (by omega)]
    dsimp only
    have e : cut d[k]! 0 1 = [(bytesN r.f2).getD 0 0] := by
      unfold cut
      rw [List.drop_zero, h3]
      have : 0 < (bytesN r.f2).length := by rw [bytesN_length]; omega
      cases h : bytesN r.f2 with
      | nil => rw [h] at this; simp at this
      | cons x y => rfl
    rw [e]
    simp [numv]
theorem first_byte (s : ByteArray) (h : 0 < s.size) : (((bytesN s).getD 0 0 : Nat) : Int) = IntKind.u64.wrap ((s[0]'h).toNat : Int) := by
  have hl : 0 < (bytesN s).length := by rw [bytesN_length]; exact h
  have hl2 : 0 < s.data.toList.length := by rw [← Lib.size_eq]; exact h
  have e : (bytesN s).getD 0 0 = (s[0]'h).toNat := by
    unfold bytesN
    rw [List.getD_eq_getElem?_getD, List.getElem?_map, List.getElem?_eq_getElem hl2]
    rfl
  rw [e, u64_wrap]
  have := (s[0]'h).toNat_lt
  omega
theorem not_empty (s : ByteArray) (h : 0 < s.size) : s.toList.isEmpty = false := by
  have := Lib.size_eq s
  rw [Lib.toList_data]
  cases hs : s.data.toList with
  | nil => rw [hs] at this; exact absurd this (by show ¬ s.size = 0; omega)
  | cons a b => rfl
set_option maxHeartbeats 4000000 in
set_option maxRecDepth 100000 in
theorem memGiven_any (w : World) (A : Option Addr) (c : Nat) (l : List S37) (i : Int) (hr : Kd.C k37 w A l.length l) (hc : l.length ≤ c) (hw : ∀ r ∈ l, 0 ≤ r.f0 ∧ r.f0 ≤ 18446744073709551615) :
    Calls Try.prog 4 #[.slice A l.length c, .int .i64 i] w fun e w' => e = .returned (.bool true) ∧ RowKit.Below w.heap.size w w' := by
  obtain ⟨kb, rb, hb, hl⟩ := big_ends l
  have HBig := Aside0.mk (cleatref07_Big.calls kb A c l rb w hr hc hb)
  have HB0 := Aside0.mk (fun m => pw_below_drewN (Below.refl w.heap.size w) m)
  by_cases hin : rb = false ∧ 0 ≤ i ∧ i < l.length
  case neg =>
    clear hb hr
    cases rb with
    | true =>
      go_enter Try.func4, Try.ntmps4
      go_wp2_with (first | (go_at_call 6; (with_reducible refine HBig.out.mono ?_); rintro e w1 ⟨rfl, m, rfl⟩; have HB := Aside0.mk (HB0.out m)) | (go_at_call 8; (with_reducible refine (kept_any _).mono ?_); rintro e w2 ⟨rfl, hb⟩; have n0 := Aside0.mk (below_step HB.out hb); clear HB hb; have HB := n0; clear n0))
      go_ret
      exact ⟨rfl, HB.out⟩
    | false =>
      by_cases h0 : i < 0
      · clear hin
        go_enter Try.func4, Try.ntmps4
        go_wp2_with (first | (go_at_call 6; (with_reducible refine HBig.out.mono ?_); rintro e w1 ⟨rfl, m, rfl⟩; have HB := Aside0.mk (HB0.out m)) | (go_at_call 8; (with_reducible refine (kept_any _).mono ?_); rintro e w2 ⟨rfl, hb⟩; have n0 := Aside0.mk (below_step HB.out hb); clear HB hb; have HB := n0; clear n0))
        go_ret
        exact ⟨rfl, HB.out⟩
      · have h1 : (l.length : Int) ≤ i := by
          rcases Int.lt_or_le i l.length with h | h
          · exact absurd ⟨rfl, by omega, h⟩ hin
          · exact h
        clear hin
        go_enter Try.func4, Try.ntmps4
        go_wp2_with (first | (go_at_call 6; (with_reducible refine HBig.out.mono ?_); rintro e w1 ⟨rfl, m, rfl⟩; have HB := Aside0.mk (HB0.out m)) | (go_at_call 8; (with_reducible refine (kept_any _).mono ?_); rintro e w2 ⟨rfl, hb⟩; have n0 := Aside0.mk (below_step HB.out hb); clear HB hb; have HB := n0; clear n0))
        go_ret
        exact ⟨rfl, HB.out⟩
  case pos =>
    obtain ⟨rfl, h0, h1⟩ := hin
    obtain ⟨j, rfl⟩ : ∃ j : Nat, i = j := ⟨i.toNat, by omega⟩
    have hj : j < l.length := by omega
    have hl20 := hl rfl
    have HNew := Aside0.mk (fun m => new_any (w.drewN m) A c l (Kd.C_drewN hr m) hc (by omega) hw)
    obtain ⟨ad, e, hx0, hx1, hx2⟩ := at_T37 hr j h0 h1
    obtain ⟨hm, hgj⟩ := rd_mem l j hj
    cases e
    obtain ⟨r, hrr⟩ : ∃ r, rd_T37 l j = r := ⟨_, rfl⟩
    rw [hrr] at hx0 hx1 hx2 hm
    rw [Int.toNat_natCast] at hx0 hx1 hx2
    have HX0 := Aside0.mk (show At3 w (ad.add (j * 3)) r from ⟨hx0, hx1, hx2⟩)
    have HMem := Aside0.mk hm
    clear hb hl hr hw hrr hx0 hx1 hx2 hgj hm
    go_enter Try.func4, Try.ntmps4
    go_wp2_with (go_at_call 6; (with_reducible refine HBig.out.mono ?_); rintro e w1 ⟨rfl, m, rfl⟩)
    (with_reducible refine (HNew.out _).mono ?_)
    rintro e w1 ⟨hb, ⟨c1, hc1, rfl, _⟩ | ⟨pm, bp, d, rfl, hM, hg, ho⟩⟩
    · have HB := Aside0.mk (below_step (pw_below_drewN (Below.refl w.heap.size w) m) hb)
      replace hc1 := bne_iff_ne.mpr hc1
      clear hb
      go_wp2_with (go_at_call 8; (with_reducible refine (kept_any _).mono ?_); rintro e w2 ⟨rfl, hb⟩; have n0 := Aside0.mk (below_step HB.out hb); clear HB hb; have HB := n0; clear n0)
      go_ret
      exact ⟨rfl, HB.out⟩
    · have HB := Aside0.mk (below_step (pw_below_drewN (Below.refl w.heap.size w) m) hb)
      have HX := Aside0.mk (keep3 HX0.out HB.out)
      have HLT := Aside0.mk (World.block_lt_of_cell? _ _ HX0.out.1)
      have HM : Aside0 (MemS w.heap.size w1 pm bp d) := Aside0.mk hM
      obtain ⟨t1, t2, t3, s1, s2, z0, z1, k, f, hh, hkd⟩ := given_tx hg ho HMem.out
      have hz : 0 < r.f2.size := by omega
      have hne := not_empty r.f2 hz
      rw [first_byte r.f2 hz] at t3
      have HT1 := Aside0.mk (fun (W : World) (h : MemS w.heap.size W pm bp d) => text_any w.heap.size W pm bp d r.f0 r.f2.size h hg z0 (by omega))
      have HT2 := Aside0.mk (fun (W : World) (h : MemS w.heap.size W pm bp d) => text_any w.heap.size W pm bp d r.f0 (r.f2.size + 1) h hg z0 (by omega))
      have HL := Aside0.mk (fun (W : World) (h : MemS w.heap.size W pm bp d) => load_any w.heap.size W pm bp d r.f0 1 h hg z0 (by omega) (.inl rfl))
      rw [t1] at HT1
      rw [t3] at HL
      rw [show ((1 : Nat) : Int) = 1 from rfl] at HL
      generalize hgx : tx d r.f0 (r.f2.size + 1) = g at t2 HT2
      obtain ⟨g1, g2⟩ := g
      dsimp only at t2 HT2
      replace t2 := bne_iff_ne.mpr t2
      have hwr : (r.f2.size : Int) + 1 = IntKind.i64.wrap ((r.f2.size : Int) + 1) := ((i64_w _).trans (by unfold wrap64; omega)).symm
      rw [hwr] at HT2
      clear hwr
      have hx0 := HX.out.1
      have hx1 := HX.out.2.1
      have hx2 := HX.out.2.2
      by_cases h3 : r.f1 = 3
      · have HSt := Aside0.mk (fun (W : World) (hB : w.heap.size ≤ W.heap.size) (h : MemS w.heap.size W pm bp d) => (store_some w.heap.size W pm bp d r.f0 7 1 k f h hB hg (by decide) (.inl rfl) hh (hkd.trans h3)).mono fun e w' h => And.intro h.1 h.2.1)
        rw [show ((1 : Nat) : Int) = 1 from rfl, show ((7 : Nat) : Int) = 7 from rfl] at HSt
        clear hb hM ho HNew HBig HB0 t1 t3 hgx hh hkd hg
        go_wp2
        go_region_held3 (fun w' => w'.cell? (ad.add (j * 3)) = some (.int .u64 r.f0) ∧ w'.cell? ⟨(ad.add (j * 3)).block, (ad.add (j * 3)).off + 2, none⟩ = some (.string r.f2)) (first | go_keep | exact keep2 (by assumption) hb) (first | (go_at_call 11; (with_reducible refine (HT1.out _ (HM.out.below ?gb)).mono ?_); (case gb => repeat (first | exact Below.refl _ _ | apply below_drew1 | apply pw_below_drewN)); rintro e w2 ⟨rfl, hb⟩))
        all_goals
          rename_i hHeld
          clear hHeld
          have hb1 : RowKit.Below w1.heap.size w1 w2 := below_step (by repeat (first | exact Below.refl _ _ | apply below_drew1 | apply pw_below_drewN)) hb
          have n0 := Aside0.mk (below_step HB.out hb1)
          have n1 := Aside0.mk (HM.out.below hb1)
          have n2 := Aside0.mk (keep3 HX.out hb1)
          clear HB hb hb1 HM HX hx0 hx1 hx2
          have HB := n0
          have HM := n1
          have HX := n2
          have hx0 := HX.out.1
          have hx1 := HX.out.2.1
          have hx2 := HX.out.2.2
          clear n0 n1 n2
          go_wp2
          go_region_held3 (fun w' => w'.cell? (ad.add (j * 3)) = some (.int .u64 r.f0) ∧ w'.cell? ⟨(ad.add (j * 3)).block, (ad.add (j * 3)).off + 2, none⟩ = some (.string r.f2)) (first | go_keep | exact keep2 (by assumption) hb) (first | (go_at_call 11; (with_reducible refine (HT2.out _ (HM.out.below ?gb)).mono ?_); (case gb => repeat (first | exact Below.refl _ _ | apply below_drew1 | apply pw_below_drewN)); rintro e w3 ⟨rfl, hb⟩))
          all_goals
            rename_i hHeld
            clear hHeld
            have hb1 : RowKit.Below w2.heap.size w2 w3 := below_step (by repeat (first | exact Below.refl _ _ | apply below_drew1 | apply pw_below_drewN)) hb
            have n0 := Aside0.mk (below_step HB.out hb1)
            have n1 := Aside0.mk (HM.out.below hb1)
            have n2 := Aside0.mk (keep3 HX.out hb1)
            clear HB hb hb1 HM HX hx0 hx1 hx2
            have HB := n0
            have HM := n1
            have HX := n2
            have hx0 := HX.out.1
            have hx1 := HX.out.2.1
            have hx2 := HX.out.2.2
            clear n0 n1 n2
            go_wp2_with (first | (go_at_call 9; (with_reducible refine (HL.out _ HM.out).mono ?_); rintro e w2 ⟨rfl, hb⟩; have n0 := Aside0.mk (below_step HB.out hb); have n1 := Aside0.mk (HM.out.below hb); have n2 := Aside0.mk (keep3 HX.out hb); clear HB hb HM HX hx0 hx1 hx2; have HB := n0; have HM := n1; have HX := n2; have hx0 := HX.out.1; have hx1 := HX.out.2.1; have hx2 := HX.out.2.2; clear n0 n1 n2) | (go_at_call 10; (with_reducible refine (HSt.out _ HB.out.size HM.out).mono ?_); rintro e w2 ⟨rfl, hb⟩; have n0 := Aside0.mk (HB.out.trans hb); have n2 := Aside0.mk (keep3b HX.out hb HLT.out); clear HB hb HM HX hx0 hx1 hx2; have HB := n0; have HX := n2; have hx0 := HX.out.1; have hx1 := HX.out.2.1; have hx2 := HX.out.2.2; clear n0 n2) | (go_at_call 8; (with_reducible refine (kept_any _).mono ?_); rintro e w2 ⟨rfl, hb⟩; have n0 := Aside0.mk (below_step HB.out hb); have n2 := Aside0.mk (keep3 HX.out hb); clear HB hb HX hx0 hx1 hx2; have HB := n0; have HX := n2; have hx0 := HX.out.1; have hx1 := HX.out.2.1; have hx2 := HX.out.2.2; clear n0 n2))
            go_ret
            exact ⟨rfl, HB.out⟩
      · have h3b : (r.f1 == 3) = false := by simpa using h3
        have HSt := Aside0.mk (fun (W : World) (hB : w.heap.size ≤ W.heap.size) (h : MemS w.heap.size W pm bp d) => (store_kind w.heap.size W pm bp d r.f0 7 1 k f h hg (.inl rfl) hh (fun e => h3 (hkd.symm.trans e))).mono fun e w' h => And.intro h.1 (h.2.mono hB))
        rw [show ((1 : Nat) : Int) = 1 from rfl] at HSt
        clear hb hM ho HNew HBig HB0 t1 t3 hgx hh hkd hg h3
        go_wp2
        go_region_held3 (fun w' => w'.cell? (ad.add (j * 3)) = some (.int .u64 r.f0) ∧ w'.cell? ⟨(ad.add (j * 3)).block, (ad.add (j * 3)).off + 2, none⟩ = some (.string r.f2)) (first | go_keep | exact keep2 (by assumption) hb) (first | (go_at_call 11; (with_reducible refine (HT1.out _ (HM.out.below ?gb)).mono ?_); (case gb => repeat (first | exact Below.refl _ _ | apply below_drew1 | apply pw_below_drewN)); rintro e w2 ⟨rfl, hb⟩))
        all_goals
          rename_i hHeld
          clear hHeld
          have hb1 : RowKit.Below w1.heap.size w1 w2 := below_step (by repeat (first | exact Below.refl _ _ | apply below_drew1 | apply pw_below_drewN)) hb
          have n0 := Aside0.mk (below_step HB.out hb1)
          have n1 := Aside0.mk (HM.out.below hb1)
          have n2 := Aside0.mk (keep3 HX.out hb1)
          clear HB hb hb1 HM HX hx0 hx1 hx2
          have HB := n0
          have HM := n1
          have HX := n2
          have hx0 := HX.out.1
          have hx1 := HX.out.2.1
          have hx2 := HX.out.2.2
          clear n0 n1 n2
          go_wp2
          go_region_held3 (fun w' => w'.cell? (ad.add (j * 3)) = some (.int .u64 r.f0) ∧ w'.cell? ⟨(ad.add (j * 3)).block, (ad.add (j * 3)).off + 2, none⟩ = some (.string r.f2)) (first | go_keep | exact keep2 (by assumption) hb) (first | (go_at_call 11; (with_reducible refine (HT2.out _ (HM.out.below ?gb)).mono ?_); (case gb => repeat (first | exact Below.refl _ _ | apply below_drew1 | apply pw_below_drewN)); rintro e w3 ⟨rfl, hb⟩))
          all_goals
            rename_i hHeld
            clear hHeld
            have hb1 : RowKit.Below w2.heap.size w2 w3 := below_step (by repeat (first | exact Below.refl _ _ | apply below_drew1 | apply pw_below_drewN)) hb
            have n0 := Aside0.mk (below_step HB.out hb1)
            have n1 := Aside0.mk (HM.out.below hb1)
            have n2 := Aside0.mk (keep3 HX.out hb1)
            clear HB hb hb1 HM HX hx0 hx1 hx2
            have HB := n0
            have HM := n1
            have HX := n2
            have hx0 := HX.out.1
            have hx1 := HX.out.2.1
            have hx2 := HX.out.2.2
            clear n0 n1 n2
            go_wp2_with (first | (go_at_call 9; (with_reducible refine (HL.out _ HM.out).mono ?_); rintro e w2 ⟨rfl, hb⟩; have n0 := Aside0.mk (below_step HB.out hb); have n1 := Aside0.mk (HM.out.below hb); have n2 := Aside0.mk (keep3 HX.out hb); clear HB hb HM HX hx0 hx1 hx2; have HB := n0; have HM := n1; have HX := n2; have hx0 := HX.out.1; have hx1 := HX.out.2.1; have hx2 := HX.out.2.2; clear n0 n1 n2) | (go_at_call 10; (with_reducible refine (HSt.out _ HB.out.size HM.out).mono ?_); rintro e w2 ⟨rfl, hb⟩; have n0 := Aside0.mk (HB.out.trans hb); have n2 := Aside0.mk (keep3b HX.out hb HLT.out); clear HB hb HM HX hx0 hx1 hx2; have HB := n0; have HX := n2; have hx0 := HX.out.1; have hx1 := HX.out.2.1; have hx2 := HX.out.2.2; clear n0 n2) | (go_at_call 8; (with_reducible refine (kept_any _).mono ?_); rintro e w2 ⟨rfl, hb⟩; have n0 := Aside0.mk (below_step HB.out hb); have n2 := Aside0.mk (keep3 HX.out hb); clear HB hb HX hx0 hx1 hx2; have HB := n0; have HX := n2; have hx0 := HX.out.1; have hx1 := HX.out.2.1; have hx2 := HX.out.2.2; clear n0 n2))
            go_ret
            exact ⟨rfl, HB.out⟩
end Go.Proofs.Ytjllhcfcdimbfaa.P
