/- The law 'MemStores' walked: it returns true. -/
import Derived.Test.YtjllhcfcdimbfaaMs39
namespace Go.Proofs.Ytjllhcfcdimbfaa.P
open Go Go.RowKit Go.Lib Go.Shelf Go.Proofs.YtjllhcfcdimbfaaW.PrintWords Go.Proofs.YtjllhcfcdimbfaaW.PrintLast Go.Proofs.YtjllhcfcdimbfaaW.PrintMore
set_option linter.unusedVariables false
set_option linter.unusedSimpArgs false
/-- Whatever the size: Load answers by the row alone. -/
theorem load_every (B : Nat) (pm bp : Nat) (d : Array Rg) (hg : Good d) (at_ s : Int) (a0 : 0 ≤ at_) (a1 : at_ ≤ 18446744073709551615) : ∃ z i : Int, (∀ w, MemS B w pm bp d →
    Calls Try.prog 9 #[.pointer (some ⟨pm, 0, none⟩), .int .u64 at_, .int .i64 s] w fun x w' => x = .returned (.tuple #[.int .u64 z, .int .i64 i]) ∧ RowKit.Below w.heap.size w w') ∧ ∀ n : Nat, s = n → n = 1 ∨ n = 8 → (z, i) = ld d at_ n := by
  by_cases h : s = 1 ∨ s = 8
  · obtain ⟨n, rfl, hn⟩ : ∃ n : Nat, s = n ∧ (n = 1 ∨ n = 8) := by
      rcases h with rfl | rfl
      · exact ⟨1, rfl, .inl rfl⟩
      · exact ⟨8, rfl, .inr rfl⟩
    exact ⟨_, _, fun w hM => load_any B w pm bp d at_ n hM hg a0 a1 hn, fun m hm _ => by
      obtain rfl : n = m := by omega
      rfl⟩
  · refine ⟨0, 1, fun w hM => (load_bad w pm at_ s (fun e => h (.inl e)) (fun e => h (.inr e))).mono fun x w' ⟨h1, h2⟩ => ⟨h1, h2 ▸ Below.refl _ _⟩, fun n hs hn => absurd (show s = 1 ∨ s = 8 by omega) h⟩
/-- Store: it is refused, or what there is is turned. -/
theorem store_every (B : Nat) (pm bp : Nat) (d : Array Rg) (hg : Good d) (at_ s : Int) (v : Nat) (a0 : 0 ≤ at_) (a1 : at_ ≤ 18446744073709551615) (hv : v < 18446744073709551616) :
    (∃ g : Int, g ≠ 0 ∧ ∀ w, MemS B w pm bp d → Calls Try.prog 10 #[.pointer (some ⟨pm, 0, none⟩), .int .u64 at_, .int .i64 s, .int .u64 (v : Int)] w fun x w' => x = .returned (.int .i64 g) ∧ RowKit.Below w.heap.size w w') ∨
    (∃ n k f : Nat, s = (n : Int) ∧ (n = 1 ∨ n = 8) ∧ hit d at_ n = some (k, f) ∧ d[k]!.kind = 3 ∧ ∀ w, B ≤ w.heap.size → MemS B w pm bp d → Calls Try.prog 10 #[.pointer (some ⟨pm, 0, none⟩), .int .u64 at_, .int .i64 s, .int .u64 (v : Int)] w fun x w' => x = .returned (.int .i64 0) ∧ RowKit.Below B w w' ∧ MemS B w' pm bp (sto d k f v n)) := by
  by_cases h : s = 1 ∨ s = 8
  · obtain ⟨n, rfl, hn⟩ : ∃ n : Nat, s = n ∧ (n = 1 ∨ n = 8) := by
      rcases h with rfl | rfl
      · exact ⟨1, rfl, .inl rfl⟩
      · exact ⟨8, rfl, .inr rfl⟩
    cases hh : hit d at_ n with
    | none => exact .inl ⟨4, by decide, fun w hM => store_none B w pm bp d at_ v n hM hg a0 a1 hn hh⟩
    | some t =>
      obtain ⟨k, f⟩ := t
      by_cases h3 : d[k]!.kind = 3
      · exact .inr ⟨n, k, f, rfl, hn, hh, h3, fun w hB hM => store_some B w pm bp d at_ v n k f hM hB hg hv hn hh h3⟩
      · exact .inl ⟨10, by decide, fun w hM => store_kind B w pm bp d at_ v n k f hM hg hn hh h3⟩
  · exact .inl ⟨1, by decide, fun w hM => (store_bad w pm at_ s v (fun e => h (.inl e)) (fun e => h (.inr e))).mono fun x w' ⟨h1, h2⟩ => ⟨h1, h2 ▸ Below.refl _ _⟩⟩
set_option maxHeartbeats 4000000 in
set_option maxRecDepth 100000 in
theorem memStores_any (w : World) (A : Option Addr) (c : Nat) (l : List S37) (at_ s : Int) (v : Nat) (o : Int) (hr : Kd.C k37 w A l.length l) (hc : l.length ≤ c) (hw : ∀ r ∈ l, 0 ≤ r.f0 ∧ r.f0 ≤ 18446744073709551615)
    (a0 : 0 ≤ at_) (a1 : at_ ≤ 18446744073709551615) (s0 : -9223372036854775808 ≤ s) (s1 : s ≤ 9223372036854775807) (hv : v < 18446744073709551616) (o0 : 0 ≤ o) (o1 : o ≤ 18446744073709551615) :
    Calls Try.prog 3 #[.slice A l.length c, .int .u64 at_, .int .i64 s, .int .u64 (v : Int), .int .u64 o] w fun e w' => e = .returned (.bool true) ∧ RowKit.Below w.heap.size w w' := by
  obtain ⟨kb, rb, hb, hl⟩ := big_ends l
  have HBig := Aside0.mk (cleatref07_Big.calls kb A c l rb w hr hc hb)
  cases rb with
  | true =>
    clear hb hl hr
    go_enter Try.func3, Try.ntmps3
    go_wp2_with (go_at_call 6; (with_reducible refine HBig.out.mono ?_); rintro e w1 ⟨rfl, m, rfl⟩)
    go_ret
    exact ⟨rfl, pw_below_drewN (Below.refl _ _) _⟩
  | false =>
    have hl20 := hl rfl
    have HNew := Aside0.mk (fun m => new_any (w.drewN m) A c l (Kd.C_drewN hr m) hc (by omega) hw)
    clear hb hl hr hw
    go_enter Try.func3, Try.ntmps3
    go_wp2_with (go_at_call 6; (with_reducible refine HBig.out.mono ?_); rintro e w1 ⟨rfl, m, rfl⟩)
    (with_reducible refine (HNew.out _).mono ?_)
    rintro e w1 ⟨hb, ⟨c1, hc1, rfl, _⟩ | ⟨pm, bp, d, rfl, hM, hg, ho⟩⟩
    · have HB := Aside0.mk (below_step (pw_below_drewN (Below.refl w.heap.size w) m) hb)
      replace hc1 := bne_iff_ne.mpr hc1
      clear hb
      go_wp2_with (go_at_call 8; (with_reducible refine (kept_any _).mono ?_); rintro e w2 ⟨rfl, hb⟩; have n0 := Aside0.mk (below_step HB.out hb); clear HB hb; have HB := n0; clear n0)
      go_ret
      exact ⟨rfl, HB.out⟩
    · have HB := Aside0.mk (below_step (pw_below_drewN (Below.refl w.heap.size w) m) hb)
      have HM : Aside0 (MemS w.heap.size w1 pm bp d) := Aside0.mk hM
      obtain ⟨x, e, hLo, hlo⟩ := load_every w.heap.size pm bp d hg o 1 o0 o1
      have HLo := Aside0.mk hLo
      clear hLo hb hM ho HNew HBig
      rcases store_every w.heap.size pm bp d hg at_ s v a0 a1 hv with ⟨g, hg0, hSt⟩ | ⟨n, k, f, rfl, hn, hh, h3, hSt⟩
      · obtain ⟨z, i, hLa, hla⟩ := load_every w.heap.size pm bp d hg at_ s a0 a1
        have HLa := Aside0.mk hLa
        have HSt := Aside0.mk hSt
        replace hg0 := bne_iff_ne.mpr hg0
        clear hSt hLa hla hlo hg
        go_wp2_with (first | (go_at_call 9; (with_reducible refine (HLo.out _ HM.out).mono ?_); rintro e w2 ⟨rfl, hb⟩; have n0 := Aside0.mk (below_step HB.out hb); have n1 := Aside0.mk (HM.out.below hb); clear HB hb HM; have HB := n0; have HM := n1; clear n0 n1) | (go_at_call 9; (with_reducible refine (HLa.out _ HM.out).mono ?_); rintro e w2 ⟨rfl, hb⟩; have n0 := Aside0.mk (below_step HB.out hb); have n1 := Aside0.mk (HM.out.below hb); clear HB hb HM; have HB := n0; have HM := n1; clear n0 n1) | (go_at_call 10; (with_reducible refine (HSt.out _ HM.out).mono ?_); rintro e w2 ⟨rfl, hb⟩; have n0 := Aside0.mk (below_step HB.out hb); have n1 := Aside0.mk (HM.out.below hb); clear HB hb HM; have HB := n0; have HM := n1; clear n0 n1) | (go_at_call 8; (with_reducible refine (kept_any _).mono ?_); rintro e w2 ⟨rfl, hb⟩; have n0 := Aside0.mk (below_step HB.out hb); clear HB hb; have HB := n0; clear n0))
        go_ret
        exact ⟨rfl, HB.out⟩
      · have HSt := Aside0.mk hSt
        have hg2 := good_sto hg k f v n (hit_some hg hh).1
        obtain ⟨x2, e2, hLo2, hlo2⟩ := load_every w.heap.size pm bp (sto d k f v n) hg2 o 1 o0 o1
        obtain ⟨z, i, hLa, hla⟩ := load_every w.heap.size pm bp (sto d k f v n) hg2 at_ n a0 a1
        have q1 := hlo 1 rfl (.inl rfl)
        have q2 := hlo2 1 rfl (.inl rfl)
        have q3 := hla n rfl hn
        rw [ld_sto hg v hh] at q3
        simp only [Prod.mk.injEq] at q3
        obtain ⟨rfl, rfl⟩ := q3
        have he : e2 = e := by
          have h1 := congrArg Prod.snd q1
          have h2 := congrArg Prod.snd q2
          dsimp only at h1 h2
          rw [h1, h2]
          unfold ld
          rw [hit_sto]
          cases hit d o 1 <;> rfl
        subst he
        have hx : (o < at_ ∨ at_ + n ≤ o) → x2 = x := fun h => by
          have h1 := congrArg Prod.fst q1
          have h2 := congrArg Prod.fst q2
          dsimp only at h1 h2
          rw [h1, h2, ld_far hg v hh h]
        have HX := Aside0.mk hx
        have HLa := Aside0.mk hLa
        have HLo2 := Aside0.mk hLo2
        clear hSt hLa hla hlo hlo2 hg hg2 hh h3 hLo2 q1 q2 hx
        rcases hn with rfl | rfl
        · have e1 : ((v % 2 ^ (8 * 1) : Nat) : Int) = (v : Int) % 256 := Int.natCast_emod v 256
          rw [e1] at HLa
          rw [show ((1 : Nat) : Int) = 1 from rfl] at HLa HSt ⊢
          clear e1
          by_cases c1 : o < at_
          · obtain rfl := HX.out (.inl c1)
            go_wp2_with (first | (go_at_call 9; (with_reducible refine (HLo.out _ HM.out).mono ?_); rintro e w2 ⟨rfl, hb⟩; have n0 := Aside0.mk (below_step HB.out hb); have n1 := Aside0.mk (HM.out.below hb); clear HB hb HM; have HB := n0; have HM := n1; clear n0 n1) | (go_at_call 9; (with_reducible refine (HLa.out _ HM2.out).mono ?_); rintro e w2 ⟨rfl, hb⟩; have n0 := Aside0.mk (below_step HB.out hb); have n1 := Aside0.mk (HM2.out.below hb); clear HB hb HM2; have HB := n0; have HM2 := n1; clear n0 n1) | (go_at_call 9; (with_reducible refine (HLo2.out _ HM2.out).mono ?_); rintro e w2 ⟨rfl, hb⟩; have n0 := Aside0.mk (below_step HB.out hb); have n1 := Aside0.mk (HM2.out.below hb); clear HB hb HM2; have HB := n0; have HM2 := n1; clear n0 n1) | (go_at_call 10; (with_reducible refine (HSt.out _ HB.out.size HM.out).mono ?_); rintro e w2 ⟨rfl, hb, hM⟩; have n0 := Aside0.mk (HB.out.trans hb); clear HB hb HM; have HB := n0; have HM2 := Aside0.mk hM; clear n0 hM) | (go_at_call 8; (with_reducible refine (kept_any _).mono ?_); rintro e w2 ⟨rfl, hb⟩; have n0 := Aside0.mk (below_step HB.out hb); clear HB hb; have HB := n0; clear n0))
            go_ret
            exact ⟨rfl, HB.out⟩
          · by_cases c2 : at_ + 1 ≤ o
            · obtain rfl := HX.out (.inr c2)
              go_wp2_with (first | (go_at_call 9; (with_reducible refine (HLo.out _ HM.out).mono ?_); rintro e w2 ⟨rfl, hb⟩; have n0 := Aside0.mk (below_step HB.out hb); have n1 := Aside0.mk (HM.out.below hb); clear HB hb HM; have HB := n0; have HM := n1; clear n0 n1) | (go_at_call 9; (with_reducible refine (HLa.out _ HM2.out).mono ?_); rintro e w2 ⟨rfl, hb⟩; have n0 := Aside0.mk (below_step HB.out hb); have n1 := Aside0.mk (HM2.out.below hb); clear HB hb HM2; have HB := n0; have HM2 := n1; clear n0 n1) | (go_at_call 9; (with_reducible refine (HLo2.out _ HM2.out).mono ?_); rintro e w2 ⟨rfl, hb⟩; have n0 := Aside0.mk (below_step HB.out hb); have n1 := Aside0.mk (HM2.out.below hb); clear HB hb HM2; have HB := n0; have HM2 := n1; clear n0 n1) | (go_at_call 10; (with_reducible refine (HSt.out _ HB.out.size HM.out).mono ?_); rintro e w2 ⟨rfl, hb, hM⟩; have n0 := Aside0.mk (HB.out.trans hb); clear HB hb HM; have HB := n0; have HM2 := Aside0.mk hM; clear n0 hM) | (go_at_call 8; (with_reducible refine (kept_any _).mono ?_); rintro e w2 ⟨rfl, hb⟩; have n0 := Aside0.mk (below_step HB.out hb); clear HB hb; have HB := n0; clear n0))
              go_ret
              exact ⟨rfl, HB.out⟩
            · have c3 : o - at_ < 1 := by omega
              go_wp2_with (first | (go_at_call 9; (with_reducible refine (HLo.out _ HM.out).mono ?_); rintro e w2 ⟨rfl, hb⟩; have n0 := Aside0.mk (below_step HB.out hb); have n1 := Aside0.mk (HM.out.below hb); clear HB hb HM; have HB := n0; have HM := n1; clear n0 n1) | (go_at_call 9; (with_reducible refine (HLa.out _ HM2.out).mono ?_); rintro e w2 ⟨rfl, hb⟩; have n0 := Aside0.mk (below_step HB.out hb); have n1 := Aside0.mk (HM2.out.below hb); clear HB hb HM2; have HB := n0; have HM2 := n1; clear n0 n1) | (go_at_call 9; (with_reducible refine (HLo2.out _ HM2.out).mono ?_); rintro e w2 ⟨rfl, hb⟩; have n0 := Aside0.mk (below_step HB.out hb); have n1 := Aside0.mk (HM2.out.below hb); clear HB hb HM2; have HB := n0; have HM2 := n1; clear n0 n1) | (go_at_call 10; (with_reducible refine (HSt.out _ HB.out.size HM.out).mono ?_); rintro e w2 ⟨rfl, hb, hM⟩; have n0 := Aside0.mk (HB.out.trans hb); clear HB hb HM; have HB := n0; have HM2 := Aside0.mk hM; clear n0 hM) | (go_at_call 8; (with_reducible refine (kept_any _).mono ?_); rintro e w2 ⟨rfl, hb⟩; have n0 := Aside0.mk (below_step HB.out hb); clear HB hb; have HB := n0; clear n0))
              go_ret
              exact ⟨rfl, HB.out⟩
        · have e1 : ((v % 2 ^ (8 * 8) : Nat) : Int) = (v : Int) := by rw [Nat.mod_eq_of_lt (Nat.lt_of_lt_of_eq hv (by decide))]
          rw [e1] at HLa
          rw [show ((8 : Nat) : Int) = 8 from rfl] at HLa HSt ⊢
          clear e1
          by_cases c1 : o < at_
          · obtain rfl := HX.out (.inl c1)
            go_wp2_with (first | (go_at_call 9; (with_reducible refine (HLo.out _ HM.out).mono ?_); rintro e w2 ⟨rfl, hb⟩; have n0 := Aside0.mk (below_step HB.out hb); have n1 := Aside0.mk (HM.out.below hb); clear HB hb HM; have HB := n0; have HM := n1; clear n0 n1) | (go_at_call 9; (with_reducible refine (HLa.out _ HM2.out).mono ?_); rintro e w2 ⟨rfl, hb⟩; have n0 := Aside0.mk (below_step HB.out hb); have n1 := Aside0.mk (HM2.out.below hb); clear HB hb HM2; have HB := n0; have HM2 := n1; clear n0 n1) | (go_at_call 9; (with_reducible refine (HLo2.out _ HM2.out).mono ?_); rintro e w2 ⟨rfl, hb⟩; have n0 := Aside0.mk (below_step HB.out hb); have n1 := Aside0.mk (HM2.out.below hb); clear HB hb HM2; have HB := n0; have HM2 := n1; clear n0 n1) | (go_at_call 10; (with_reducible refine (HSt.out _ HB.out.size HM.out).mono ?_); rintro e w2 ⟨rfl, hb, hM⟩; have n0 := Aside0.mk (HB.out.trans hb); clear HB hb HM; have HB := n0; have HM2 := Aside0.mk hM; clear n0 hM) | (go_at_call 8; (with_reducible refine (kept_any _).mono ?_); rintro e w2 ⟨rfl, hb⟩; have n0 := Aside0.mk (below_step HB.out hb); clear HB hb; have HB := n0; clear n0))
            go_ret
            exact ⟨rfl, HB.out⟩
          · by_cases c2 : at_ + 8 ≤ o
            · obtain rfl := HX.out (.inr c2)
              go_wp2_with (first | (go_at_call 9; (with_reducible refine (HLo.out _ HM.out).mono ?_); rintro e w2 ⟨rfl, hb⟩; have n0 := Aside0.mk (below_step HB.out hb); have n1 := Aside0.mk (HM.out.below hb); clear HB hb HM; have HB := n0; have HM := n1; clear n0 n1) | (go_at_call 9; (with_reducible refine (HLa.out _ HM2.out).mono ?_); rintro e w2 ⟨rfl, hb⟩; have n0 := Aside0.mk (below_step HB.out hb); have n1 := Aside0.mk (HM2.out.below hb); clear HB hb HM2; have HB := n0; have HM2 := n1; clear n0 n1) | (go_at_call 9; (with_reducible refine (HLo2.out _ HM2.out).mono ?_); rintro e w2 ⟨rfl, hb⟩; have n0 := Aside0.mk (below_step HB.out hb); have n1 := Aside0.mk (HM2.out.below hb); clear HB hb HM2; have HB := n0; have HM2 := n1; clear n0 n1) | (go_at_call 10; (with_reducible refine (HSt.out _ HB.out.size HM.out).mono ?_); rintro e w2 ⟨rfl, hb, hM⟩; have n0 := Aside0.mk (HB.out.trans hb); clear HB hb HM; have HB := n0; have HM2 := Aside0.mk hM; clear n0 hM) | (go_at_call 8; (with_reducible refine (kept_any _).mono ?_); rintro e w2 ⟨rfl, hb⟩; have n0 := Aside0.mk (below_step HB.out hb); clear HB hb; have HB := n0; clear n0))
              go_ret
              exact ⟨rfl, HB.out⟩
            · have c3 : o - at_ < 8 := by omega
              go_wp2_with (first | (go_at_call 9; (with_reducible refine (HLo.out _ HM.out).mono ?_); rintro e w2 ⟨rfl, hb⟩; have n0 := Aside0.mk (below_step HB.out hb); have n1 := Aside0.mk (HM.out.below hb); clear HB hb HM; have HB := n0; have HM := n1; clear n0 n1) | (go_at_call 9; (with_reducible refine (HLa.out _ HM2.out).mono ?_); rintro e w2 ⟨rfl, hb⟩; have n0 := Aside0.mk (below_step HB.out hb); have n1 := Aside0.mk (HM2.out.below hb); clear HB hb HM2; have HB := n0; have HM2 := n1; clear n0 n1) | (go_at_call 9; (with_reducible refine (HLo2.out _ HM2.out).mono ?_); rintro e w2 ⟨rfl, hb⟩; have n0 := Aside0.mk (below_step HB.out hb); have n1 := Aside0.mk (HM2.out.below hb); clear HB hb HM2; have HB := n0; have HM2 := n1; clear n0 n1) | (go_at_call 10; (with_reducible refine (HSt.out _ HB.out.size HM.out).mono ?_); rintro e w2 ⟨rfl, hb, hM⟩; have n0 := Aside0.mk (HB.out.trans hb); clear HB hb HM; have HB := n0; have HM2 := Aside0.mk hM; clear n0 hM) | (go_at_call 8; (with_reducible refine (kept_any _).mono ?_); rintro e w2 ⟨rfl, hb⟩; have n0 := Aside0.mk (below_step HB.out hb); clear HB hb; have HB := n0; clear n0))
              go_ret
              exact ⟨rfl, HB.out⟩
end Go.Proofs.Ytjllhcfcdimbfaa.P
