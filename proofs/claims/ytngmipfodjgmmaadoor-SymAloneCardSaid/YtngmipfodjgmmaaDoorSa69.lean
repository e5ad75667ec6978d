/- The law 'SymAlone' walked: it returns true. -/
import Derived.Test.YtngmipfodjgmmaaDoorSa68
import Derived.Deep.QuietTactic
import Derived.BigQuiet
namespace Go.Proofs.YtngmipfodjgmmaaDoor.Pure
open Go Go.RowKit Go.Lib Go.Shelf Go.Maps Go.Proofs.YtngmipfodjgmmaaDoorW.PrintWords Go.Proofs.YtngmipfodjgmmaaDoorW.PrintLast Go.Proofs.YtngmipfodjgmmaaDoorW.PrintMore
open P (Glob)
set_option linter.unusedVariables false
set_option linter.unusedSimpArgs false
theorem mem_alone {o : Ob} {t : Tg} (h : t ∈ allS [o]) : ∃ j, j < o.f1.length ∧ t = (0, j, smN o j) := by
  obtain ⟨i, j, hi, hj, rfl⟩ := mem_all.1 h
  obtain rfl : i = 0 := by have : i < 1 := hi; omega
  exact ⟨j, hj, rfl⟩
theorem alone_all {o : Ob} (h : ObOk o) : AllOkO [o] := ⟨by show 1 ≤ 8; omega, fun i hi => by
  have : i = 0 := by have : i < 1 := hi; omega
  subst this
  exact h⟩
theorem alone_few {o : Ob} (h : FewL [o]) : FewO o := h.2 0 (by decide : 0 < 1)
theorem alone_noTw {o : Ob} (h : ObOk o) : NoTw [o] 1 0 := by
  intro i j hl hj ht
  obtain rfl : i = 0 := by unfold LexLt at hl; omega
  obtain ⟨hq, u, hu⟩ := ht
  obtain ⟨hm, hq2, hn⟩ := firstS_some hu
  obtain ⟨i', j', hl', _, rfl⟩ := of_ahead hm
  obtain ⟨rfl, hj'⟩ : i' = 0 ∧ j' < j := by unfold LexLt at hl'; omega
  have hjj : j < o.f1.length := hj
  have hp := h.pos (i := j) hjj (by have := (strong_iff.1 hq).1; show (syN [o] 0 j).f1 ≠ 1; omega)
  have := h.unique (i := j') (k := j) (by omega) hjj hn (by rw [show (smN o j').f0 = (smN o j).f0 from hn]; exact hp)
  omega
theorem alone_lost {o : Ob} (h : ObOk o) {k : Nat} (hk : k < o.f1.length) (hs : (smN o k).f2 < 0) : Lost [o] (smN o k) := by
  have hb : (smN o k).f1 ≠ 1 := by
    rcases (h.sym k hk).2.1 with a | a
    · exact a.2.1
    · omega
  have hp := h.pos hk hb
  refine ⟨hb, ?_⟩
  cases e : placeT [o] (smN o k).f0 with
  | none => rfl
  | some t =>
    obtain ⟨h1, h2, h3, _⟩ := placeT_some e
    obtain ⟨j, hj, rfl⟩ := mem_alone h1
    obtain rfl := h.unique hj hk h2 (by rw [show (smN o j).f0 = (smN o k).f0 from h2]; exact hp)
    have h3 : 0 ≤ (smN o j).f2 := h3
    omega
theorem alone_place {o : Ob} (h : ObOk o) {k : Nat} (hk : k < o.f1.length) (hs : 0 ≤ (smN o k).f2) : plS [o] 0 k = ⟨0, (smN o k).f2, (smN o k).f3⟩ := by
  unfold plS
  by_cases hb : (syN [o] 0 k).f1 = 1
  · rw [if_pos hb]
    rfl
  · rw [if_neg hb]
    have hp := h.pos hk hb
    obtain ⟨t, ht⟩ := placeT_there (alone_all h) (i := 0) (j := k) (by decide : 0 < 1) hk hs hb
    obtain ⟨h1, h2, _⟩ := placeT_some ht
    obtain ⟨j, hj, rfl⟩ := mem_alone h1
    obtain rfl := h.unique hj hk h2 (by rw [show (smN o j).f0 = (smN o k).f0 from h2]; exact hp)
    unfold placeS
    rw [ht]
    rfl
theorem big_ev_calls {os : List Ob} {b : Bool} (hb : Ev (fun k => P.cleatref20_Big.f k os) b) (W : World) (A : Option Addr) (c : Nat) (h : OA W A os) (hc : os.length ≤ c) : Calls Tryd.prog 18 #[.slice A os.length c] W fun x w' => x = .returned (.bool b) ∧ Below W.heap.size W w' := by
  obtain ⟨K, hK⟩ := hb
  exact P.cleatref20_Big.calls K A c os b W h hc (hK K (Nat.le_refl _))
theorem rd_plRow {os : List Ob} {o n k : Nat} (hk : k < n) : P.rd_T56 (plRow os o n) k = plS os o k := by
  unfold P.rd_T56 plRow
  rw [Int.toNat_natCast, List.getD_eq_getElem?_getD, List.getElem?_map, List.getElem?_range hk]
  rfl
theorem obv_parts {w : World} {o : Ob} {A0 A1 : Option Addr} {c0 c1 : Nat} (h : ObV w o A0 A1 c0 c1) : SeA w A0 o.f0 ∧ o.f0.length ≤ c0 ∧ SyA w A1 o.f1 ∧ o.f1.length ≤ c1 := h
theorem big1 {o : Ob} {b : Bool} (hb : Ev (fun k => P.cleatref20_Big.f k [o]) b) (W : World) (A : Option Addr) (c : Nat) (h : OA W A [o]) (hc : 1 ≤ c) : Calls Tryd.prog 18 #[.slice A 1 c] W fun x w' => x = .returned (.bool b) ∧ Below W.heap.size W w' := big_ev_calls hb W A c h hc
theorem res1 (w : World) (A : Option Addr) (c : Nat) (o : Ob) (hG : Glob w) (hos : OA w A [o]) (hc : 1 ≤ c) (hf : FewL [o]) : Calls Tryd.prog 19 #[.slice A 1 c] w (ResPost [o] w) := resolve_any w A c [o] hG hos hc hf
set_option maxRecDepth 100000 in
set_option maxHeartbeats 8000000 in
theorem symalone_any (w : World) (A0 A1 : Option Addr) (c0 c1 : Nat) (o : Ob) (hG : Glob w) (hse : SeA w A0 o.f0) (hc0 : o.f0.length ≤ c0) (hsy : SyA w A1 o.f1) (hc1 : o.f1.length ≤ c1) :
    Calls Tryd.prog 8 #[.agg #[.slice A0 o.f0.length c0, .slice A1 o.f1.length c1]] w fun e w' => e = .returned (.bool true) ∧ Below w.heap.size w w' := by
  obtain ⟨b, hb, hfew⟩ := big_objs [o]
  have HBig := Aside0.mk hb
  have HG := Aside0.mk hG
  have HV := Aside0.mk (show ObV w o A0 A1 c0 c1 from ⟨hse, hc0, hsy, hc1⟩)
  clear hb hG hse hsy
  go_enter Tryd.func8, Tryd.ntmps8
  go_wp2_with fail
  have HX := Aside0.mk (blk_new w (.cells #[.slice A0 o.f0.length c0, .slice A1 o.f1.length c1] 48))
  have b0 := (Below.refl w.heap.size w).alloc (Nat.le_refl _) (.cells #[.slice A0 o.f0.length c0, .slice A1 o.f1.length c1] 48)
  have n1 := blk_new (w.alloc (.cells #[.slice A0 o.f0.length c0, .slice A1 o.f1.length c1] 48)) (.cells #[.slice A0 o.f0.length c0, .slice A1 o.f1.length c1] 48)
  rw [World.size_alloc] at n1
  have b1 := b0.alloc (by simp) (.cells #[.slice A0 o.f0.length c0, .slice A1 o.f1.length c1] 48)
  have HO := Aside0.mk (show OA _ (some ⟨w.heap.size + 1, 0, none⟩) [o] from obs1 n1 (HV.out.below b1))
  replace HX := Aside0.mk (blk_alloc HX.out (.cells #[.slice A0 o.f0.length c0, .slice A1 o.f1.length c1] 48))
  have HB := Aside0.mk b1
  clear b0 n1 b1
  (with_reducible refine (big1 HBig.out _ _ 1 HO.out (Nat.le_refl 1)).mono ?_)
  rintro e w1 ⟨rfl, hb⟩
  replace HX := Aside0.mk (blk_below HX.out hb)
  replace HB := Aside0.mk (below_step HB.out hb)
  clear hb HO
  obtain ⟨z0, z1⟩ := blk2_cells HX.out
  cases b with
  | true =>
    go_wp2_with fail
    (with_reducible refine (resolved_any _ (HG.out.below HB.out)).mono ?_)
    rintro e w2 ⟨rfl, hb⟩
    replace HB := Aside0.mk (below_step HB.out hb)
    clear hb
    go_wp2
    go_ret
    exact ⟨rfl, HB.out⟩
  | false =>
    have HF := Aside0.mk (hfew rfl)
    clear hfew
    go_wp2_with fail
    (with_reducible refine (objIs_any _ A0 A1 c0 c1 o (HG.out.below HB.out) (obv_parts (HV.out.below HB.out)).1 hc0 (obv_parts (HV.out.below HB.out)).2.2.1 hc1 (alone_few HF.out)).mono ?_)
    rintro e w2 ⟨bi, rfl, hbi, hb⟩
    replace HX := Aside0.mk (blk_below HX.out hb)
    replace HB := Aside0.mk (below_step HB.out hb)
    have HBi := Aside0.mk hbi
    clear hb hbi z0 z1
    obtain ⟨z0, z1⟩ := blk2_cells HX.out
    cases bi with
    | false =>
      go_wp2_with fail
      (with_reducible refine (resolved_any _ (HG.out.below HB.out)).mono ?_)
      rintro e w3 ⟨rfl, hb⟩
      replace HB := Aside0.mk (below_step HB.out hb)
      clear hb
      go_wp2
      go_ret
      exact ⟨rfl, HB.out⟩
    | true =>
      have HOk := Aside0.mk (HBi.out.1 rfl)
      clear HBi
      go_wp2_with fail
      have HO := Aside0.mk (show OA _ (some ⟨w2.heap.size, 0, none⟩) [o] from obs1 (blk_new w2 (.cells #[.slice A0 o.f0.length c0, .slice A1 o.f1.length c1] 48)) (HV.out.below (HB.out.alloc HB.out.size _)))
      (with_reducible refine (res1 _ _ 1 o (HG.out.below (HB.out.alloc HB.out.size _)) HO.out (Nat.le_refl 1) HF.out).mono ?_)
      rintro e w3 ⟨hb, hr⟩
      have HRp := Aside0.mk hr
      have b2 := below_step ((Below.refl w2.heap.size w2).alloc (Nat.le_refl _) _) hb
      replace HX := Aside0.mk (blk_below HX.out b2)
      replace HB := Aside0.mk (below_step HB.out b2)
      clear hb hr HO b2 z0 z1
      have hly := (alone_few HF.out).syms
      by_cases hl : ∃ k, k < o.f1.length ∧ (smN o k).f2 < 0
      · have hfa : ∃ j : Nat, e = .returned (.tuple #[.slice none 0 0, .agg #[.int .i64 6, .int .i64 0, .int .i64 j]]) := by
          obtain ⟨k, hk, hs⟩ := hl
          rcases HRp.out with ⟨c', o', k', hf, rfl⟩ | ⟨_, _, h, _⟩
          · rcases hf with ⟨h, _⟩ | ⟨_, i, j, h, _⟩ | ⟨_, _, i, j, h, rfl, rfl, rfl⟩
            · exact absurd (alone_all HOk.out) h
            · exact absurd h.2.2.1 (alone_noTw HOk.out i j (.inl h.1) h.2.1)
            · obtain rfl : i = 0 := by have : i < 1 := h.1; omega
              exact ⟨j, rfl⟩
          · exact absurd (alone_lost HOk.out hk hs) (h 0 k (.inl (by show 0 < 1; omega)) hk)
        obtain ⟨j, rfl⟩ := hfa
        clear HRp
        go_wp2_with fail
        have HFd := Aside0.mk (blk_new w3 (.cells #[.int .i64 6, .int .i64 0, .int .i64 j] 41))
        replace HX := Aside0.mk (blk_alloc HX.out (.cells #[.int .i64 6, .int .i64 0, .int .i64 j] 41))
        replace HB := Aside0.mk (HB.out.alloc HB.out.size (.cells #[.int .i64 6, .int .i64 0, .int .i64 j] 41))
        generalize w3.alloc (.cells #[.int .i64 6, .int .i64 0, .int .i64 j] 41) = w4 at HFd HX HB ⊢
        obtain ⟨z0, z1⟩ := blk2_cells HX.out
        go_loopw [5, 6] (fun v5 v wr => ∃ (i : Nat) (y : Bool), i ≤ o.f1.length ∧ v = .int .i64 i ∧ v5 = .bool y ∧ Aside0 (y = true ↔ ∃ k, k < i ∧ (smN o k).f2 < 0) ∧ w4 = wr) (fun _ v _ => o.f1.length - (RowKit.intOf v).toNat)
        case atStart => exact ⟨0, false, Nat.zero_le _, rfl, rfl, ⟨⟨fun h => absurd h (by decide), fun ⟨k, h, _⟩ => absurd h (Nat.not_lt_zero _)⟩⟩, rfl⟩
        case round =>
          obtain ⟨i, y, hi, rfl, rfl, HY, rfl⟩ := hrel
          by_cases hlt : i < o.f1.length
          · obtain ⟨ad, e1, y0, y1, y2, y3⟩ := P.at_T50 (obv_parts (HV.out.below HB.out)).2.2.1 i (by omega) (by omega)
            subst e1
            rw [Int.toNat_natCast] at y0 y1 y2 y3
            obtain ⟨s, hs⟩ : ∃ s, smN o i = s := ⟨_, rfl⟩
            have HS := Aside0.mk hs
            unfold smN at hs
            rw [hs] at y0 y1 y2 y3
            clear hs
            have hi0 : (0 : Int) ≤ (i : Int) := by omega
            have hi1 : (i : Int) < o.f1.length := by omega
            cases y with
            | true =>
              go_wp2
              go_roundw
              case rel => exact ⟨i + 1, true, by omega, by go_num, rfl, ⟨⟨fun _ => by obtain ⟨k, a, b⟩ := HY.out.1 rfl; exact ⟨k, by omega, b⟩, fun _ => rfl⟩⟩, trivial⟩
              case measure => simp [RowKit.intOf]; omega
            | false =>
              have hno : ¬ ∃ k, k < i ∧ (smN o k).f2 < 0 := fun h => absurd (HY.out.2 h) (by decide)
              have HNo := Aside0.mk hno
              clear hno
              by_cases hs : s.f2 < 0
              · go_wp2
                go_roundw
                case rel => exact ⟨i + 1, true, by omega, by go_num, rfl, ⟨⟨fun _ => ⟨i, by omega, by rw [HS.out]; exact hs⟩, fun _ => rfl⟩⟩, trivial⟩
                case measure => simp [RowKit.intOf]; omega
              · go_wp2
                go_roundw
                case rel =>
                  refine ⟨i + 1, false, by omega, by go_num, rfl, ⟨⟨fun h => absurd h (by decide), fun ⟨k, a, b⟩ => ?_⟩⟩, trivial⟩
                  by_cases ek : k = i
                  · rw [ek, HS.out] at b
                    exact absurd b hs
                  · exact absurd ⟨k, by omega, b⟩ HNo.out
                case measure => simp [RowKit.intOf]; omega
          · obtain rfl : i = o.f1.length := by omega
            obtain rfl : y = true := HY.out.2 hl
            go_wp2_with fail
            (with_reducible refine (resolved_any _ (HG.out.below HB.out)).mono ?_)
            rintro e w5 ⟨rfl, hb⟩
            replace HFd := Aside0.mk (blk_below HFd.out hb)
            replace HB := Aside0.mk (below_step HB.out hb)
            clear hb z0 z1
            obtain ⟨q0, q1, q2⟩ := cq3 HFd.out
            go_wp2
            go_ret
            exact ⟨rfl, HB.out⟩
      · have hall : ∀ k, k < o.f1.length → 0 ≤ (smN o k).f2 := fun k hk => by
          rcases Int.lt_or_le (smN o k).f2 0 with h | h
          · exact absurd ⟨k, hk, h⟩ hl
          · exact h
        have HAll := Aside0.mk hall
        have hsu : ∃ al vs, e = .returned (.tuple #[.slice (some ⟨al, 0, none⟩) 1 1, .agg #[.int .i64 0, .int .i64 0, .int .i64 0]]) ∧ Rows2 0 [o] al vs 1 0 w3 := by
          rcases HRp.out with ⟨c', o', k', hf, rfl⟩ | ⟨_, _, _, al, vs, h, hr, _⟩
          · rcases hf with ⟨h, _⟩ | ⟨_, i, j, h, _⟩ | ⟨_, _, i, j, h, _⟩
            · exact absurd (alone_all HOk.out) h
            · exact absurd h.2.2.1 (alone_noTw HOk.out i j (.inl h.1) h.2.1)
            · exfalso
              obtain rfl : i = 0 := by have : i < 1 := h.1; omega
              have hj : j < o.f1.length := h.2.1
              obtain ⟨t, ht⟩ := placeT_there (alone_all HOk.out) (i := 0) (j := j) (by show 0 < 1; omega) hj (hall j hj) h.2.2.1.1
              have := h.2.2.1.2
              rw [ht] at this
              cases this
          · exact ⟨al, vs, h, rows_lower hr (Nat.zero_le _)⟩
        obtain ⟨al, vs, rfl, hr⟩ := hsu
        clear HRp hl hall
        have hrow := hr.row 0 (by show 0 < 1; omega)
        rw [show toldN [o] 1 0 0 = o.f1.length from rfl] at hrow
        obtain ⟨Av, cv, hv, hcv, hC⟩ := Kd.R_reads hrow
        rw [plRow_length] at hv hcv hC
        have hc0v : w3.cell? ⟨al, 0, none⟩ = some (.slice Av o.f1.length cv) := by
          have hl1 : vs.length = 1 := hr.len
          refine (blk_cell hr.blk 0).trans ?_
          rw [List.getElem?_toArray, ← hv, List.getD_eq_getElem?_getD, List.getElem?_eq_getElem (by omega)]
          rfl
        clear hrow hr hv
        go_wp2_with fail
        have b3 := (Below.refl w3.heap.size w3).alloc (Nat.le_refl _) (.cells #[.int .i64 0, .int .i64 0, .int .i64 0] 41)
        have HFd := Aside0.mk (blk_new w3 (.cells #[.int .i64 0, .int .i64 0, .int .i64 0] 41))
        replace HX := Aside0.mk (blk_alloc HX.out (.cells #[.int .i64 0, .int .i64 0, .int .i64 0] 41))
        replace HB := Aside0.mk (HB.out.alloc HB.out.size (.cells #[.int .i64 0, .int .i64 0, .int .i64 0] 41))
        have HCr := Aside0.mk (Kd.C_below hC b3)
        have HC0 := Aside0.mk (keepS hc0v b3)
        clear hC hc0v b3
        generalize w3.alloc (.cells #[.int .i64 0, .int .i64 0, .int .i64 0] 41) = w4 at HFd HX HB HCr HC0 ⊢
        obtain ⟨z0, z1⟩ := blk2_cells HX.out
        go_loopw [5, 6] (fun v5 v wr => ∃ i : Nat, i ≤ o.f1.length ∧ v = .int .i64 i ∧ v5 = .bool false ∧ w4 = wr) (fun _ v _ => o.f1.length - (RowKit.intOf v).toNat)
        case atStart => exact ⟨0, Nat.zero_le _, rfl, rfl, rfl⟩
        case round =>
          obtain ⟨i, hi, rfl, rfl, rfl⟩ := hrel
          by_cases hlt : i < o.f1.length
          · obtain ⟨ad, e1, y0, y1, y2, y3⟩ := P.at_T50 (obv_parts (HV.out.below HB.out)).2.2.1 i (by omega) (by omega)
            subst e1
            rw [Int.toNat_natCast] at y0 y1 y2 y3
            obtain ⟨s, hs⟩ : ∃ s, smN o i = s := ⟨_, rfl⟩
            have hs2 := HAll.out i hlt
            rw [hs] at hs2
            unfold smN at hs
            rw [hs] at y0 y1 y2 y3
            clear hs
            have hi0 : (0 : Int) ≤ (i : Int) := by omega
            have hi1 : (i : Int) < o.f1.length := by omega
            have hs3 : ¬ s.f2 < 0 := by omega
            go_wp2
            go_roundw
            case rel => exact ⟨i + 1, by omega, by go_num, rfl, trivial⟩
            case measure => simp [RowKit.intOf]; omega
          · obtain rfl : i = o.f1.length := by omega
            obtain ⟨q0, q1, q2⟩ := cq3 HFd.out
            have hr0 := HC0.out
            have hnn : ((o.f1.length : Int) != (o.f1.length : Int)) = false := by simp
            go_wp2
            go_quiet (fail)
            go_wp2
            go_loopw [7] (fun v wr => ∃ i : Nat, i ≤ o.f1.length ∧ v = .int .i64 i ∧ Aside0 (Below w4.heap.size w4 wr)) (fun v _ => o.f1.length - (RowKit.intOf v).toNat)
            case atStart => exact ⟨0, Nat.zero_le _, rfl, ⟨pw_below_drewN (Below.refl _ _) _⟩⟩
            case round =>
              clear q0 q1 q2 hr0 z0 z1
              obtain ⟨i, hi, rfl, HB4⟩ := hrel
              have hr0 := keepS HC0.out HB4.out
              obtain ⟨z0, z1⟩ := blk2_cells (blk_below HX.out HB4.out)
              by_cases hlt : i < o.f1.length
              · obtain ⟨ad, e1, y0, y1, y2, y3⟩ := P.at_T50 (obv_parts (HV.out.below (below_step HB.out HB4.out))).2.2.1 i (by omega) (by omega)
                subst e1
                rw [Int.toNat_natCast] at y0 y1 y2 y3
                obtain ⟨s, hs⟩ : ∃ s, smN o i = s := ⟨_, rfl⟩
                have hpl := alone_place HOk.out hlt (HAll.out i hlt)
                rw [hs] at hpl
                unfold smN at hs
                rw [hs] at y0 y1 y2 y3
                clear hs
                obtain ⟨ad2, e2, x0, x1, x2⟩ := P.at_T56 (Kd.C_below HCr.out HB4.out) i (by omega) (by omega)
                subst e2
                rw [Int.toNat_natCast, rd_plRow hlt, hpl] at x0 x1 x2
                clear hpl
                have hi0 : (0 : Int) ≤ (i : Int) := by omega
                have hi1 : (i : Int) < o.f1.length := by omega
                go_wp2
                go_quiet (fail)
                go_wp2
                go_roundw
                case rel => exact ⟨i + 1, by omega, by go_num, ⟨pw_below_drewN HB4.out _⟩⟩
                case measure => simp [RowKit.intOf]; omega
              · obtain rfl : i = o.f1.length := by omega
                go_wp2_with fail
                (with_reducible refine (resolved_any _ (HG.out.below (below_step HB.out HB4.out))).mono ?_)
                rintro e w5 ⟨rfl, hb⟩
                replace HB := Aside0.mk (below_step (below_step HB.out HB4.out) hb)
                clear hb
                go_wp2
                go_ret
                exact ⟨rfl, HB.out⟩
end Go.Proofs.YtngmipfodjgmmaaDoor.Pure
