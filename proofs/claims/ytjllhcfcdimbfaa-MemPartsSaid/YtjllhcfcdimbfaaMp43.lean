/- The law 'MemParts' walked: it returns true. -/
import Derived.Test.YtjllhcfcdimbfaaMp41
namespace Go.Proofs.Ytjllhcfcdimbfaa.P
open Go Go.RowKit Go.Lib Go.Shelf Go.Proofs.YtjllhcfcdimbfaaW.PrintWords Go.Proofs.YtjllhcfcdimbfaaW.PrintLast Go.Proofs.YtjllhcfcdimbfaaW.PrintMore
set_option linter.unusedVariables false
set_option linter.unusedSimpArgs false
theorem str_get (l : List Nat) (hb : ∀ x ∈ l, x < 256) (i : Nat) (hi : i < (strOfNums (ints l)).size) : ((l.getD i 0 : Nat) : Int) = IntKind.u64.wrap (((strOfNums (ints l))[i]'hi).toNat : Int) := by
  have h1 : i < l.length := by rw [str_size] at hi; exact hi
  have := str_bt l hb i h1
  unfold bt at this
  rw [Int.toNat_natCast, dif_pos hi] at this
  rw [u64_wrap, this]
  have := hb _ (List.getElem_mem h1)
  rw [List.getD_eq_getElem?_getD, List.getElem?_eq_getElem h1]
  show ((l[i] : Nat) : Int) = ((l[i] : Nat) : Int) % _
  omega
theorem str_take (l : List Nat) (n : Nat) : (strOfNums (ints l)).extract 0 n = strOfNums (ints (l.take n)) := by
  unfold strOfNums ints
  refine ByteArray.ext ?_
  rw [ByteArray.data_extract]
  simp [List.map_take]
set_option maxHeartbeats 4000000 in
set_option maxRecDepth 100000 in
theorem memParts_any (w : World) (A : Option Addr) (c : Nat) (l : List S37) (at_ : Int) (hr : Kd.C k37 w A l.length l) (hc : l.length ≤ c) (hw : ∀ r ∈ l, 0 ≤ r.f0 ∧ r.f0 ≤ 18446744073709551615) (a0 : 0 ≤ at_) (a1 : at_ ≤ 18446744073709551615) :
    Calls Try.prog 5 #[.slice A l.length c, .int .u64 at_] w fun e w' => e = .returned (.bool true) ∧ RowKit.Below w.heap.size w w' := by
  obtain ⟨kb, rb, hb, hl⟩ := big_ends l
  have HBig := Aside0.mk (cleatref07_Big.calls kb A c l rb w hr hc hb)
  have HB0 := Aside0.mk (fun m => pw_below_drewN (Below.refl w.heap.size w) m)
  by_cases hin : rb = false ∧ at_ ≤ 9223372036854775807
  case neg =>
    clear hb hr
    cases rb with
    | true =>
      go_enter Try.func5, Try.ntmps5
      go_wp2_with (first | (go_at_call 6; (with_reducible refine HBig.out.mono ?_); rintro e w1 ⟨rfl, m, rfl⟩; have HB := Aside0.mk (HB0.out m)) | (go_at_call 8; (with_reducible refine (kept_any _).mono ?_); rintro e w2 ⟨rfl, hb⟩; have n0 := Aside0.mk (below_step HB.out hb); clear HB hb; have HB := n0; clear n0))
      go_ret
      exact ⟨rfl, HB.out⟩
    | false =>
      have h1 : 9223372036854775807 < at_ := by
        rcases Int.lt_or_le 9223372036854775807 at_ with h | h
        · exact h
        · exact absurd ⟨rfl, h⟩ hin
      clear hin
      go_enter Try.func5, Try.ntmps5
      go_wp2_with (first | (go_at_call 6; (with_reducible refine HBig.out.mono ?_); rintro e w1 ⟨rfl, m, rfl⟩; have HB := Aside0.mk (HB0.out m)) | (go_at_call 8; (with_reducible refine (kept_any _).mono ?_); rintro e w2 ⟨rfl, hb⟩; have n0 := Aside0.mk (below_step HB.out hb); clear HB hb; have HB := n0; clear n0))
      go_ret
      exact ⟨rfl, HB.out⟩
  case pos =>
    obtain ⟨rfl, h1⟩ := hin
    have hl20 := hl rfl
    have HNew := Aside0.mk (fun m => new_any (w.drewN m) A c l (Kd.C_drewN hr m) hc (by omega) hw)
    clear hb hl hr hw
    go_enter Try.func5, Try.ntmps5
    go_wp2_with (go_at_call 6; (with_reducible refine HBig.out.mono ?_); rintro e w1 ⟨rfl, m, rfl⟩)
    (with_reducible refine (HNew.out _).mono ?_)
    rintro e w1 ⟨hb, ⟨c1, hc1, rfl, _⟩ | ⟨pm, bp, d, rfl, hM, hg, ho⟩⟩
    · have HB := Aside0.mk (below_step (pw_below_drewN (Below.refl w.heap.size w) m) hb)
      replace hc1 := bne_iff_ne.mpr hc1
      clear hb
      go_wp2_with (go_at_call 8; (with_reducible refine (kept_any _).mono ?_); rintro e w2 ⟨rfl, hb⟩; have n0 := Aside0.mk (below_step HB.out hb); clear HB hb; have HB := n0; clear n0)
      go_ret
      exact ⟨rfl, HB.out⟩
    · have HB := Aside0.mk (below_step (pw_below_drewN (Below.refl w.heap.size w) m) hb)
      have HM : Aside0 (MemS w.heap.size w1 pm bp d) := Aside0.mk hM
      have HL := Aside0.mk (fun (W : World) (h : MemS w.heap.size W pm bp d) => load_any w.heap.size W pm bp d at_ 8 h hg a0 a1 (.inr rfl))
      have HT := Aside0.mk (fun (W : World) (h : MemS w.heap.size W pm bp d) => text_any w.heap.size W pm bp d at_ 8 h hg a0 a1)
      rw [show ((8 : Nat) : Int) = 8 from rfl] at HL
      unfold ld at HL
      unfold tx at HT
      rw [if_neg (by decide), if_neg (by decide), show (8 : Int).toNat = 8 from rfl] at HT
      cases hh : hit d at_ 8 with
      | none =>
        rw [hh] at HL HT
        dsimp only at HL HT
        clear hb hM ho HNew HBig HB0 hh hg
        go_wp2_with (first | (go_at_call 9; (with_reducible refine (HL.out _ HM.out).mono ?_); rintro e w2 ⟨rfl, hb⟩; have n0 := Aside0.mk (below_step HB.out hb); have n1 := Aside0.mk (HM.out.below hb); clear HB hb HM; have HB := n0; have HM := n1; clear n0 n1) | (go_at_call 11; (with_reducible refine (HT.out _ HM.out).mono ?_); rintro e w2 ⟨rfl, hb⟩; have n0 := Aside0.mk (below_step HB.out hb); have n1 := Aside0.mk (HM.out.below hb); clear HB hb HM; have HB := n0; have HM := n1; clear n0 n1) | (go_at_call 8; (with_reducible refine (kept_any _).mono ?_); rintro e w2 ⟨rfl, hb⟩; have n0 := Aside0.mk (below_step HB.out hb); clear HB hb; have HB := n0; clear n0))
        go_ret
        exact ⟨rfl, HB.out⟩
      | some t =>
        obtain ⟨k, f⟩ := t
        rw [hh] at HL HT
        dsimp only at HL HT
        obtain ⟨hk, hxa, hf⟩ := hit_some hg hh
        clear hxa
        have hx : ∀ x ∈ cut d[k]! f 8, x < 256 := fun x hx => (hg.one k hk).2.2.2.2.2.2 x (cut_mem _ _ _ _ hx)
        have hlen := cut_length d[k]! f 8 hf
        have HE := Aside0.mk (fun (i : Nat) (hi : i < 8) (W : World) (h : MemS w.heap.size W pm bp d) => load_any w.heap.size W pm bp d (at_ + i) 1 h hg (by omega) (by omega) (.inl rfl))
        have HLE := Aside0.mk (fun i hi => ld_each hg hh i hi)
        have HW := Aside0.mk (fun (W : World) (h : MemS w.heap.size W pm bp d) => word_any w.heap.size W pm bp d at_ h hg a0 a1)
        have hwd := wd_of hg hh
        clear hb hM ho HNew HBig HB0 hh hg hk hf
        generalize cut d[k]! f 8 = b at HL HT HLE hwd hx hlen
        have hss := str_size b
        rw [hlen] at hss
        obtain ⟨s, hs⟩ : ∃ s, strOfNums (ints b) = s := ⟨_, rfl⟩
        have key : ∀ s, strOfNums (ints b) = s → ∀ (i : Nat) (hi : i < s.size), ((b.getD i 0 : Nat) : Int) = IntKind.u64.wrap ((s[i]'hi).toNat : Int) := by
          rintro s rfl
          exact fun i hi => str_get b hx i hi
        have HV := Aside0.mk (key s hs)
        have HTK := Aside0.mk (show s.extract 0 4 = strOfNums (ints (b.take 4)) by rw [← hs]; exact str_take b 4)
        clear key
        rw [hs] at HT hss
        have HN4 := Number_eq (b.take 4) (by simp; omega) (fun x h => hx x (List.mem_of_mem_take h))
        obtain ⟨kn, hkn⟩ := HN4
        rw [← HTK.out] at hkn
        have HNum := Aside0.mk (fun (W : World) => cleatref07_Number.calls kn (s.extract 0 4) _ W hkn)
        have HD := Aside0.mk (fun i hi => numv_cons_drop b i hi)
        have h0 := numv_lt b hx
        have h4 := numv_lt (b.take 4) (fun x h => hx x (List.mem_of_mem_take h))
        rw [List.length_take, hlen] at h4
        have h4b : numv (b.take 4) < 4294967296 := by simpa using h4
        have HX := Aside0.mk hx
        have HLEN := Aside0.mk hlen
        have e0 : b.drop 0 = b := rfl
        clear hs hkn h0 h4 hx hlen e0 HTK
        go_wp2_with (first | (go_at_call 9; (with_reducible refine (HL.out _ HM.out).mono ?_); rintro e w2 ⟨rfl, hb⟩; have n0 := Aside0.mk (below_step HB.out hb); have n1 := Aside0.mk (HM.out.below hb); clear HB hb HM; have HB := n0; have HM := n1; clear n0 n1) | (go_at_call 11; (with_reducible refine (HT.out _ HM.out).mono ?_); rintro e w2 ⟨rfl, hb⟩; have n0 := Aside0.mk (below_step HB.out hb); have n1 := Aside0.mk (HM.out.below hb); clear HB hb HM; have HB := n0; have HM := n1; clear n0 n1))
        go_loopw [7, 11] (fun v i wr => ∃ q : Nat, q ≤ 8 ∧ i = .int .i64 q ∧ v = .int .u64 (numv (b.drop q) : Nat) ∧ Aside0 (MemS w.heap.size wr pm bp d) ∧ Aside0 (RowKit.Below w.heap.size w wr)) (fun _ i _ => 8 - (intOf i).toNat)
        case atStart => exact ⟨0, by omega, rfl, rfl, HM, HB⟩
        case round =>
          clear HM HB HL HT
          obtain ⟨q, hq, rfl, rfl, HM, HB⟩ := hrel
          by_cases hlt : q < 8
          · have hs1 : q < s.size := by omega
            have hL := HE.out q hlt
            rw [HLE.out q hlt, HV.out q hs1, show ((1 : Nat) : Int) = 1 from rfl] at hL
            have HL1 := Aside0.mk hL
            have hd := HD.out q (by have := HLEN.out; omega)
            have hv := HV.out q hs1
            have hb256 : b.getD q 0 < 256 := by
              rw [List.getD_eq_getElem?_getD, List.getElem?_eq_getElem (by have := HLEN.out; omega)]
              exact HX.out _ (List.getElem_mem _)
            have hmod : IntKind.u64.wrap ((s[q]'hs1).toNat : Int) = ((numv (b.drop q) : Nat) : Int) % 256 := by rw [← hv]; omega
            have hneq : (IntKind.u64.wrap ((s[q]'hs1).toNat : Int) != ((numv (b.drop q) : Nat) : Int) % 256) = false := by rw [hmod]; simp
            have hdiv := Aside0.mk (show ((numv (b.drop q) : Nat) : Int) / 256 = ((numv (b.drop (q + 1)) : Nat) : Int) by omega)
            have hnl : ((numv (b.drop q) : Nat) : Int) ≤ 18446744073709551615 := by
              have h := numv_lt (b.drop q) (fun x h => HX.out x (List.mem_of_mem_drop h))
              rw [List.length_drop, HLEN.out] at h
              have h2 : 2 ^ (8 * (8 - q)) ≤ 2 ^ 64 := Nat.pow_le_pow_right (by decide) (by omega)
              omega
            clear hL hd hv hb256 hmod
            go_wp2_with (go_at_call 9; (with_reducible refine (HL1.out _ HM.out).mono ?_); rintro e w2 ⟨rfl, hb⟩; have n0 := Aside0.mk (below_step HB.out hb); have n1 := Aside0.mk (HM.out.below hb); clear HB hb HM; have HB := n0; have HM := n1; clear n0 n1)
            go_roundw
            case rel => exact ⟨q + 1, by omega, by go_num, by rw [hdiv.out], HM, HB⟩
            case measure => simp [intOf]; omega
          · rcases hwd with ⟨wd1, wd2⟩ | hwd
            · generalize wd d at_ = g at wd1 wd2 HW
              obtain ⟨g1, g2⟩ := g
              dsimp only at wd1 wd2 HW
              subst wd2
              have wd3 : (g2 == 0) = false := by simpa using wd1
              replace wd1 := bne_iff_ne.mpr wd1
              go_wp2_with (first | (go_at_call 12; (with_reducible refine (HW.out _ HM.out).mono ?_); rintro e w2 ⟨rfl, hb⟩; have n0 := Aside0.mk (below_step HB.out hb); have n1 := Aside0.mk (HM.out.below hb); clear HB hb HM; have HB := n0; have HM := n1; clear n0 n1) | (go_at_call 13; (with_reducible refine (HNum.out _).mono ?_); rintro e w2 ⟨rfl, q, rfl⟩; have n0 := Aside0.mk (pw_below_drewN HB.out q); clear HB; have HB := n0; clear n0) | (go_at_call 8; (with_reducible refine (kept_any _).mono ?_); rintro e w2 ⟨rfl, hb⟩; have n0 := Aside0.mk (below_step HB.out hb); clear HB hb; have HB := n0; clear n0))
              go_ret
              exact ⟨rfl, HB.out⟩
            · rw [hwd] at HW
              dsimp only at HW
              generalize numv (b.take 4) = v4 at HW HNum h4b
              clear hwd
              go_wp2_with (first | (go_at_call 12; (with_reducible refine (HW.out _ HM.out).mono ?_); rintro e w2 ⟨rfl, hb⟩; have n0 := Aside0.mk (below_step HB.out hb); have n1 := Aside0.mk (HM.out.below hb); clear HB hb HM; have HB := n0; have HM := n1; clear n0 n1) | (go_at_call 13; (with_reducible refine (HNum.out _).mono ?_); rintro e w2 ⟨rfl, q, rfl⟩; have n0 := Aside0.mk (pw_below_drewN HB.out q); clear HB; have HB := n0; clear n0) | (go_at_call 8; (with_reducible refine (kept_any _).mono ?_); rintro e w2 ⟨rfl, hb⟩; have n0 := Aside0.mk (below_step HB.out hb); clear HB hb; have HB := n0; clear n0))
              go_ret
              exact ⟨rfl, HB.out⟩
end Go.Proofs.Ytjllhcfcdimbfaa.P
