/- The law 'GraphClosed' walked: it returns true. -/
import Derived.Test.YtngmipfodjgmmaaDoorGc55
import Derived.Test.YtngmipfodjgmmaaDoorGc57
namespace Go.Proofs.YtngmipfodjgmmaaDoor.Pure
open Go Go.RowKit Go.Lib Go.Shelf Go.Proofs.YtngmipfodjgmmaaDoorW.PrintWords Go.Proofs.YtngmipfodjgmmaaDoorW.PrintLast Go.Proofs.YtngmipfodjgmmaaDoorW.PrintMore Go.Proofs.YtngmipfodjgmmaaDoor.Reach
open P (Glob UA nd NdOk Rt SpreadPost root_at make_bools made_bools)
set_option linter.unusedVariables false
set_option linter.unusedSimpArgs false
/-- A row of bools of one's own, as a block. -/
def BB (w : World) (b : Nat) (l : List Bool) : Prop := w.heap[b]? = some (.cells (l.map Value.bool).toArray 4 (0, 0))
theorem BB.cell {w : World} {b : Nat} {l : List Bool} (h : BB w b l) (k : Nat) (hk : k < l.length) : w.cell? ⟨b, k, none⟩ = some (.bool (l.getD k false)) := by
  refine (blk_cell h k).trans ?_
  simp [List.getD_eq_getElem?_getD, List.getElem?_eq_getElem hk]
theorem BB.frz {w : World} {b : Nat} {l : List Bool} (h : BB w b l) (k : Nat) : w.frozen? ⟨b, k, none⟩ = false := by
  simp [World.frozen?, show w.heap[b]? = _ from h]
theorem BB.set {w : World} {b : Nat} {l : List Bool} (h : BB w b l) (k : Nat) (v : Bool) : BB (w.setCell ⟨b, k, none⟩ (.bool v)) b (l.set k v) := by
  obtain ⟨hlt, hk2⟩ := Array.getElem?_eq_some_iff.1 h
  show (w.heap.modify b _)[b]? = _
  rw [Array.getElem?_eq_getElem (by rw [Array.size_modify]; exact hlt), Array.getElem_modify_self, hk2]
  simp [List.map_set]
theorem BB.below {w w1 : World} {b : Nat} {l : List Bool} (h : BB w b l) (hb : Below w.heap.size w w1) : BB w1 b l := blk_below h hb
theorem BB.keep {w w1 : World} {b B : Nat} {l : List Bool} (h : BB w b l) (hb : Below B w w1) (hB : b < B) : BB w1 b l := (hb.block b hB).trans h
theorem BB.new (w : World) (n : Nat) : BB (w.alloc (.cells (madeCells #[.bool false] n) 4)) w.heap.size (List.replicate n false) := by
  unfold BB
  rw [← made_bools]
  exact blk_new w _
/-- What is needed by what has been gone through: the roots; what units before i that are reached need, but for themselves; and of unit i its first k. -/
structure Nn (us : List P.S36) (roots : List Int) (seen need : List Bool) (i k : Nat) : Prop where
  len : need.length = us.length
  root : ∀ j, j < roots.length → sn need (roots.getD j 0).toNat
  done : ∀ q, q < i → sn seen q → ∀ j ∈ nd us q, j ≠ q → sn need j
  now : sn seen i → ∀ q, q < k → (nd us i).getD q 0 ≠ i → sn need ((nd us i).getD q 0)
theorem Nn.next {us roots seen need i k} (h : Nn us roots seen need i k) (hk : sn seen i → (nd us i).length ≤ k) : Nn us roots seen need (i + 1) 0 := by
  refine ⟨h.len, h.root, fun q hq hs j hj hne => ?_, fun _ q hq => absurd hq (Nat.not_lt_zero _)⟩
  by_cases e : q = i
  · subst e
    obtain ⟨x, hx, rfl⟩ := List.getElem_of_mem hj
    have := h.now hs x (by have := hk hs; omega)
    rw [List.getD_eq_getElem?_getD, List.getElem?_eq_getElem hx] at this
    exact this hne
  · exact h.done q (by omega) hs j hj hne
theorem Nn.step {us roots seen need i k z} (h : Nn us roots seen need i k) (ht : z < us.length) (he : (nd us i).getD k 0 = z) (b : Bool) (hb : b = (need.getD z false || decide (z ≠ i))) : Nn us roots seen (need.set z b) i (k + 1) := by
  have hs : ∀ j, sn need j → sn (need.set z b) j := by
    intro j hj
    unfold sn at hj ⊢
    rw [List.getD_eq_getElem?_getD] at hj ⊢
    rw [List.getElem?_set]
    by_cases c : z = j
    · subst c
      rw [if_pos rfl, if_pos (by rw [h.len]; exact ht), hb, List.getD_eq_getElem?_getD, hj]
      rfl
    · rw [if_neg c]; exact hj
  refine ⟨by rw [List.length_set]; exact h.len, fun j hj => hs _ (h.root j hj), fun q hq h1 j hj hne => hs _ (h.done q hq h1 j hj hne), fun h1 q hq hne => ?_⟩
  by_cases c : q = k
  · subst c
    rw [he] at hne ⊢
    unfold sn
    rw [List.getD_eq_getElem?_getD, List.getElem?_set, if_pos rfl, if_pos (by rw [h.len]; exact ht), hb, decide_eq_true hne]
    simp
  · exact hs _ (h.now h1 q (by omega) hne)
theorem Nn.all {us roots seen need} (h : Nn us roots seen need us.length 0) (hs : ∀ i, sn seen i ↔ RS (nd us) (Rt roots) i) (hl : seen.length = us.length) (i : Nat) (hi : sn seen i) : sn need i := by
  rcases ((hs i).1 hi).needed with c | ⟨j, hne, hj, hm⟩
  · exact P.roots_all h.root i c
  · have := (hs j).2 hj
    exact h.done j (by have := sn_lt this; omega) this i hm (Ne.symm hne)
set_option maxRecDepth 100000 in
set_option maxHeartbeats 8000000 in
theorem closed_any (w : World) (A A2 : Option Addr) (us : List P.S36) (roots : List Int) (c c2 : Nat) (hG : Glob w) (hu : UA w A us) (hc : us.length ≤ c) (hh : Held us) (hr : IA w A2 roots) (hrl : roots.length ≤ 17592186043904) :
    Calls Tryd.prog 10 #[.slice A us.length c, .slice A2 roots.length c2] w fun e w' => e = .returned (.bool true) ∧ Below w.heap.size w w' := by
  obtain ⟨b, hb, hfew⟩ := bigU_calls us hh w A c hu hc
  have HBig := Aside0.mk hb
  have HG := Aside0.mk hG
  have HU := Aside0.mk hu
  have HR := Aside0.mk hr
  clear hb hG hu hr
  cases b with
  | true =>
    go_enter Tryd.func10, Tryd.ntmps10
    go_wp2_with (go_at_call 12; (with_reducible refine HBig.out.mono ?_); rintro e w1 ⟨rfl, hb⟩; have HB := Aside0.mk hb; clear hb)
    go_ret
    exact ⟨rfl, HB.out⟩
  | false =>
    have HF := Aside0.mk (hfew rfl)
    clear hfew hh
    by_cases h3 : (roots.length : Int) > 300
    · go_enter Tryd.func10, Tryd.ntmps10
      go_wp2_with (go_at_call 12; (with_reducible refine HBig.out.mono ?_); rintro e w1 ⟨rfl, hb⟩; have HB := Aside0.mk hb; clear hb)
      go_ret
      exact ⟨rfl, HB.out⟩
    · have hul := HF.out.1
      have hrl2 : roots.length ≤ 300 := by omega
      clear hrl
      go_enter Tryd.func10, Tryd.ntmps10
      go_wp2_with fail
      (with_reducible refine HBig.out.mono ?_)
      rintro e w1 ⟨rfl, hb⟩
      have HB := Aside0.mk hb
      clear hb HBig
      go_wp2_with fail
      (with_reducible refine (reach_any w1 A A2 us roots c c2 (HG.out.below HB.out) (Kd.C_below HU.out HB.out) hc HF.out.narrow (by omega) (Kd.C_below HR.out HB.out) (by omega)).mono ?_)
      rintro e w2 ⟨hb, ⟨_, rfl⟩ | ⟨hok, hrk, sb, seen, rfl, h1, h2, h3, h4⟩⟩
      · replace HB := Aside0.mk (below_step HB.out hb)
        clear hb
        go_wp2_with fail
        (with_reducible refine (linked_any w2 (HG.out.below HB.out)).mono ?_)
        rintro e w3 ⟨rfl, hb⟩
        replace HB := Aside0.mk (below_step HB.out hb)
        clear hb
        go_wp2
        go_ret
        exact ⟨rfl, HB.out⟩
      · replace HB := Aside0.mk (below_step HB.out hb)
        rw [h1]
        have HS := Aside0.mk (show BB w2 sb seen from h3)
        have HL := Aside0.mk h1
        have HX := Aside0.mk h2
        have HO := Aside0.mk hok
        have HRk := Aside0.mk hrk
        clear hb h1 h2 h3 h4 hok hrk
        have hmk := make_bools us.length (by omega) w2
        have hne : ((us.length : Int) != us.length) = false := by simp
        have hne2 : (us.length != us.length) = false := by simp
        go_wp2
        have HV := Aside0.mk (HB.out.alloc HB.out.size (.cells (madeCells #[.bool false] us.length) 4))
        have HVB := Aside0.mk (below_alloc (Below.refl w2.heap.size w2) (.cells (madeCells #[.bool false] us.length) 4))
        have HN := Aside0.mk (BB.new w2 us.length)
        obtain ⟨V, hV⟩ : ∃ V, V = w2.alloc (.cells (madeCells #[.bool false] us.length) 4) := ⟨_, rfl⟩
        obtain ⟨nb, hnb⟩ : ∃ nb, nb = w2.heap.size := ⟨_, rfl⟩
        rw [← hV, ← hnb] at HVB
        rw [← hV] at HV
        rw [← hV, ← hnb] at HN ⊢
        have hsb : sb < nb := by rw [hnb]; exact (Array.getElem?_eq_some_iff.1 HS.out).1
        replace HS := Aside0.mk (HS.out.keep HVB.out hsb)
        have HBn := Aside0.mk (show w.heap.size ≤ nb by rw [hnb]; exact HB.out.size)
        clear hV hnb hmk HVB HB hne hne2
        go_loopw [8] (fun v wr => ∃ i : Nat, i ≤ roots.length ∧ v = .int .i64 i ∧ ∃ need, Aside0 (BB wr nb need) ∧ Aside0 (need.length = us.length ∧ ∀ j, j < i → sn need (roots.getD j 0).toNat) ∧ Aside0 (Below nb V wr) ∧ Aside0 (Below w.heap.size w wr)) (fun v _ => roots.length - (RowKit.intOf v).toNat)
        case atStart => exact ⟨0, Nat.zero_le _, rfl, _, HN, ⟨List.length_replicate, fun j hj => absurd hj (Nat.not_lt_zero _)⟩, ⟨Below.refl _ _⟩, HV⟩
        case round =>
          clear HN
          obtain ⟨i, hi, rfl, need, HN, HP, HVr, HB⟩ := hrel
          by_cases hlt : i < roots.length
          · obtain ⟨ad, e, hx⟩ := root_at wr A2 roots (Kd.C_below HR.out HB.out) i hlt
            cases e
            obtain ⟨k, hk, hkn, hks⟩ : ∃ k : Nat, roots.getD i 0 = (k : Int) ∧ k < us.length ∧ sn seen k := by
              have hm : roots.getD i 0 ∈ roots := by rw [List.getD_eq_getElem?_getD, List.getElem?_eq_getElem hlt]; exact List.getElem_mem hlt
              obtain ⟨h0, h1⟩ := HRk.out _ hm
              exact ⟨(roots.getD i 0).toNat, by omega, by omega, (HX.out _).2 (.root (by unfold Rt; rw [Int.toNat_of_nonneg h0]; exact hm))⟩
            have HK := Aside0.mk hk
            rw [hk] at hx
            have hs := (HS.out.keep HVr.out hsb).cell k (by rw [HL.out]; exact hkn)
            rw [show seen.getD k false = true from hks] at hs
            have hn := HN.out.cell k (by rw [HP.out.1]; exact hkn)
            have hf := HN.out.frz k
            have HKs := Aside0.mk hks
            clear hk hks
            go_wp2
            go_roundw
            case rel =>
              have HP2 := HP.out
              refine ⟨i + 1, by omega, by go_num, need.set k true, ⟨HN.out.set k true⟩, ⟨by rw [List.length_set]; exact HP2.1, fun j hj => ?_⟩, ⟨HVr.out.setCell (p := ⟨nb, k, none⟩) (Nat.le_refl _) _⟩, ⟨HB.out.setCell (p := ⟨nb, k, none⟩) HBn.out _⟩⟩
              have hs := fun q => sn_set (seen := need) (k := k) (by rw [HP2.1]; exact hkn) q
              by_cases e : j = i
              · rw [e, HK.out]
                exact (hs _).2 (.inl (by omega))
              · exact (hs _).2 (.inr (HP2.2 j (by omega)))
            case measure => simp [RowKit.intOf]; omega
          · obtain rfl : i = roots.length := by omega
            have HNn : Aside0 (Nn us roots seen need 0 0) := ⟨⟨HP.out.1, HP.out.2, fun q hq => absurd hq (Nat.not_lt_zero _), fun _ q hq => absurd hq (Nat.not_lt_zero _)⟩⟩
            clear HP hlt hi
            go_wp2
            go_loopw [9] (fun v wr => ∃ i : Nat, i ≤ us.length ∧ v = .int .i64 i ∧ ∃ need, Aside0 (BB wr nb need) ∧ Aside0 (Nn us roots seen need i 0) ∧ Aside0 (Below nb V wr) ∧ Aside0 (Below w.heap.size w wr)) (fun v _ => us.length - (RowKit.intOf v).toNat)
            case atStart => exact ⟨0, Nat.zero_le _, rfl, _, HN, HNn, HVr, HB⟩
            case round =>
              clear HN HNn HVr HB
              obtain ⟨i, hi, rfl, need, HN, HNn, HVr, HB⟩ := hrel
              by_cases hlt : i < us.length
              · obtain ⟨au, Au, cu, e, _, _, _, _, _, y5, l5, hCr⟩ := P.at_T36 HU.out i (by omega) (by omega)
                cases e
                rw [Int.toNat_natCast] at y5
                have hy0 := y5
                replace y5 := (HB.out.cell (World.block_lt_of_cell? _ _ y5)).trans y5
                have hi_ok := (nd_ok HO.out).2 i hlt
                obtain ⟨u, hu⟩ : ∃ u, P.rd_T36 us i = u := ⟨_, rfl⟩
                have hndi : nd us i = u.f5.map (fun r => r.f2.toNat) := by unfold nd P.ndI; rw [hu, List.map_map]; rfl
                have hpos : ∀ r ∈ u.f5, 0 ≤ r.f2 ∧ r.f2 < us.length := fun r hr => hi_ok.2 r.f2 (by unfold P.ndI; rw [hu]; exact List.mem_map_of_mem hr)
                have hl5 := hi_ok.1
                rw [hu] at y5 l5 hCr hl5 hy0
                have HY0 := Aside0.mk hy0
                clear hy0
                have HCr := Aside0.mk hCr
                have HNd := Aside0.mk hndi
                have HPs := Aside0.mk hpos
                clear hCr hndi hpos hi_ok hu
                have hss := (HS.out.keep HVr.out hsb).cell i (by rw [HL.out]; exact hlt)
                by_cases hsi : seen.getD i false = true
                · rw [hsi] at hss
                  have HSi := Aside0.mk (show sn seen i from hsi)
                  clear hsi hss
                  go_wp2
                  go_loopw [10] (fun v wr2 => ∃ k : Nat, k ≤ u.f5.length ∧ v = .int .i64 k ∧ ∃ need, Aside0 (BB wr2 nb need) ∧ Aside0 (Nn us roots seen need i k) ∧ Aside0 (Below nb V wr2) ∧ Aside0 (Below w.heap.size w wr2)) (fun v _ => u.f5.length - (RowKit.intOf v).toNat)
                  case atStart => exact ⟨0, Nat.zero_le _, rfl, _, HN, HNn, HVr, HB⟩
                  case round =>
                    clear HN HNn HVr HB
                    obtain ⟨k, hk, rfl, need2, HN, HNn, HVr, HB⟩ := hrel
                    have hss := (HS.out.keep HVr.out hsb).cell i (by rw [HL.out]; exact hlt)
                    rw [show seen.getD i false = true from HSi.out] at hss
                    have y5 := (HB.out.cell (World.block_lt_of_cell? _ _ HY0.out)).trans HY0.out
                    by_cases hkl : k < u.f5.length
                    · obtain ⟨ar, er, _, _, x2, _⟩ := P.at_T64 (Kd.C_below HCr.out HB.out) k (by omega) (by omega)
                      cases er
                      rw [Int.toNat_natCast] at x2
                      obtain ⟨z, hz, hzn, hzs, hzk⟩ : ∃ z : Nat, (P.rd_T64 u.f5 k).f2 = (z : Int) ∧ z < us.length ∧ sn seen z ∧ (nd us i).getD k 0 = z := by
                        have e2 : P.rd_T64 u.f5 (k : Int) = u.f5[k] := rd_get _ _ _ hkl
                        obtain ⟨h0, h1⟩ := HPs.out _ (List.getElem_mem hkl)
                        refine ⟨u.f5[k].f2.toNat, by rw [e2]; omega, by omega, (HX.out _).2 (.step ((HX.out i).1 HSi.out) ?_), ?_⟩
                        · rw [HNd.out]
                          exact List.mem_map.2 ⟨_, List.getElem_mem hkl, rfl⟩
                        · rw [HNd.out, List.getD_eq_getElem?_getD, List.getElem?_map, List.getElem?_eq_getElem hkl]
                          rfl
                      rw [hz] at x2
                      have hsz := (HS.out.keep HVr.out hsb).cell z (by rw [HL.out]; exact hzn)
                      rw [show seen.getD z false = true from hzs] at hsz
                      have hn := HN.out.cell z (by rw [HNn.out.len]; exact hzn)
                      have hf := HN.out.frz z
                      have HZ := Aside0.mk hzk
                      clear hz hzs hzk
                      have HStep := Aside0.mk (fun b hb => HNn.out.step hzn HZ.out b hb)
                      cases hb : need2.getD z false with
                      | true =>
                        rw [hb] at hn HStep
                        clear hb
                        go_wp2
                        go_roundw
                        case rel => exact ⟨k + 1, by omega, by go_num, need2.set z true, ⟨HN.out.set z true⟩, ⟨HStep.out true rfl⟩, ⟨HVr.out.setCell (p := ⟨nb, z, none⟩) (Nat.le_refl _) _⟩, ⟨HB.out.setCell (p := ⟨nb, z, none⟩) HBn.out _⟩⟩
                        case measure => simp [RowKit.intOf]; omega
                      | false =>
                        rw [hb] at hn HStep
                        clear hb
                        by_cases ezi : z = i
                        · have g1 : ((z : Int) != (i : Int)) = false := by rw [ezi]; simp
                          have g2 : (z != i) = false := by rw [ezi]; simp
                          have HE := Aside0.mk ezi
                          clear ezi
                          go_wp2
                          go_roundw
                          case rel => exact ⟨k + 1, by omega, by go_num, need2.set z false, ⟨HN.out.set z false⟩, ⟨HStep.out false (by rw [decide_eq_false (fun h => h HE.out)]; rfl)⟩, ⟨HVr.out.setCell (p := ⟨nb, z, none⟩) (Nat.le_refl _) _⟩, ⟨HB.out.setCell (p := ⟨nb, z, none⟩) HBn.out _⟩⟩
                          case measure => simp [RowKit.intOf]; omega
                        · have g1 : ((z : Int) != (i : Int)) = true := by simp; omega
                          have g2 : (z != i) = true := by simp; omega
                          have HE := Aside0.mk ezi
                          clear ezi
                          go_wp2
                          go_roundw
                          case rel => exact ⟨k + 1, by omega, by go_num, need2.set z true, ⟨HN.out.set z true⟩, ⟨HStep.out true (by rw [decide_eq_true HE.out]; rfl)⟩, ⟨HVr.out.setCell (p := ⟨nb, z, none⟩) (Nat.le_refl _) _⟩, ⟨HB.out.setCell (p := ⟨nb, z, none⟩) HBn.out _⟩⟩
                          case measure => simp [RowKit.intOf]; omega
                    · obtain rfl : k = u.f5.length := by omega
                      have HNx := Aside0.mk (HNn.out.next (fun _ => by rw [HNd.out]; simp))
                      go_wp2
                      go_roundw
                      case rel => exact ⟨i + 1, by omega, by go_num, need2, HN, HNx, HVr, HB⟩
                      case measure => simp [RowKit.intOf]; omega
                · have hsf : seen.getD i false = false := by simpa using hsi
                  rw [hsf] at hss
                  have HNx := Aside0.mk (HNn.out.next (fun h => absurd h hsi))
                  clear hsi hsf
                  go_wp2
                  go_loopw [10] (fun v wr2 => v = .int .i64 0 ∧ wr2 = wr) (fun _ _ => 0)
                  case atStart => exact ⟨rfl, rfl⟩
                  case round =>
                    obtain ⟨rfl, rfl⟩ := hrel
                    by_cases hz : 0 < u.f5.length
                    all_goals
                      go_wp2
                      go_roundw
                    case rel => exact ⟨i + 1, by omega, by go_num, need, HN, HNx, HVr, HB⟩
                    case measure => simp [RowKit.intOf]; omega
                    case rel => exact ⟨i + 1, by omega, by go_num, need, HN, HNx, HVr, HB⟩
                    case measure => simp [RowKit.intOf]; omega
              · obtain rfl : i = us.length := by omega
                have HA := Aside0.mk (HNn.out.all HX.out HL.out)
                have HNl := Aside0.mk HNn.out.len
                clear HNn hlt hi
                go_wp2
                go_loopw [12] (fun v wr2 => ∃ i : Nat, i ≤ us.length ∧ v = .int .i64 i ∧ wr2 = wr) (fun v _ => us.length - (RowKit.intOf v).toNat)
                case atStart => exact ⟨0, Nat.zero_le _, rfl, rfl⟩
                case round =>
                  obtain ⟨i, hi, rfl, rfl⟩ := hrel
                  by_cases hlt : i < us.length
                  · have hss := (HS.out.keep HVr.out hsb).cell i (by rw [HL.out]; exact hlt)
                    cases hb : seen.getD i false with
                    | true =>
                      have hn := HN.out.cell i (by rw [HNl.out]; exact hlt)
                      rw [show need.getD i false = true from HA.out i hb] at hn
                      rw [hb] at hss
                      clear hb
                      go_wp2
                      go_roundw
                      case rel => exact ⟨i + 1, by omega, by go_num, trivial⟩
                      case measure => simp [RowKit.intOf]; omega
                    | false =>
                      rw [hb] at hss
                      clear hb
                      go_wp2
                      go_roundw
                      case rel => exact ⟨i + 1, by omega, by go_num, trivial⟩
                      case measure => simp [RowKit.intOf]; omega
                  · obtain rfl : i = us.length := by omega
                    go_wp2_with fail
                    (with_reducible refine (linked_any _ (HG.out.below HB.out)).mono ?_)
                    rintro e w3 ⟨rfl, hb⟩
                    have HE := Aside0.mk (below_step HB.out hb)
                    clear hb
                    go_wp2
                    go_ret
                    exact ⟨rfl, HE.out⟩
end Go.Proofs.YtngmipfodjgmmaaDoor.Pure
