/- Walks and plain laws of this claim, a part. -/
import Derived.Test.YtngmipfodjgmmaaDoorSm70
import Derived.Test.YtngmipfodjgmmaaDoorSm60
namespace Go.Proofs.YtngmipfodjgmmaaDoor.Pure
open Go Go.RowKit Go.Lib Go.Shelf Go.Maps Go.Proofs.YtngmipfodjgmmaaDoorW.PrintWords Go.Proofs.YtngmipfodjgmmaaDoorW.PrintLast Go.Proofs.YtngmipfodjgmmaaDoorW.PrintMore
open P (Glob)
set_option linter.unusedVariables false
set_option linter.unusedSimpArgs false
/-- Elements as they were read in a world: they are copied as they are. -/
def kAt {α : Type} (d : Kd α) (w0 : World) : Kd α where
  sz := d.sz
  E := []
  K := fun _ x cs => d.K w0 x cs
  M := fun _ _ _ x cs => d.K w0 x cs
  K_len := fun h => d.K_len h
  K_one := fun h => d.K_one h
  K_below := fun _ h => h
  K_of_M := fun h => h
  M_mono := fun _ h => h
  M_bound := fun h => h
  M_move := fun _ h => h
  M_lower := fun _ h => h
theorem kAt_C {α : Type} {d : Kd α} {w0 w : World} {A : Option Addr} {n : Nat} {xs : List α} (hb : Below w0.heap.size w0 w) (h : (kAt d w0).C w A n xs) : d.C w A n xs := ReadsRow.imp_ h (Below.refl _ _) fun _ _ hp => d.K_below hb hp
theorem C_kAt {α : Type} {d : Kd α} {w0 w : World} {A : Option Addr} {n : Nat} {xs : List α} (hb : Below w0.heap.size w0 w) (h : d.C w0 A n xs) : (kAt d w0).C w A n xs := ReadsRow.imp_ h hb fun _ _ hp => hp
theorem info_ob : (Tryd.prog.info? 48).map (fun i => (i.zero, i.size, i.bytes)) = some (some (.agg #[.slice none 0 0, .slice none 0 0]), 2, 48) := by kernel_rfl
theorem reads_prefix {α : Type} {R : α → List Value → Prop} {size : Nat} {w : World} {A : Option Addr} {n : Nat} {ps : List α} {q : α} (h : ReadsRow R size w A (n + 1) (ps ++ [q])) (hl : ps.length = n) : ReadsRow R size w A n ps :=
  ⟨hl, by have := h.2.1; omega, fun hn => by
    obtain ⟨ad, e, hc⟩ := h.2.2 (by omega)
    exact ⟨ad, e, fun j p hj => hc j p (by rw [List.getElem?_append_left (List.getElem?_eq_some_iff.1 hj).1]; exact hj)⟩⟩
theorem few_more {os : List Ob} {o : Ob} (h : FewL os) (ho : FewO o) (hn : os.length < 8) : FewL (os ++ [o]) := ⟨by rw [len_more]; omega, fun i hi => by
  rw [len_more] at hi
  by_cases c : i < os.length
  · rw [obN_old c]
    exact h.2 i c
  · obtain rfl : i = os.length := by omega
    rw [obN_new]
    exact ho⟩
theorem flt_ne {os : List Ob} {c a b : Int} (h : Flt os c a b) : c ≠ 0 := by
  rcases h with ⟨h, h2, _⟩ | ⟨_, i, j, _, rfl, _⟩ | ⟨_, _, i, j, _, rfl, _⟩
  · exact fun e => h (h2.ok.1 e)
  · decide
  · decide
theorem one_ob {w W : World} {g : Nat} {o : Ob} {A0 A1 : Option Addr} {c0 c1 : Nat} (h : W.heap[g]? = some (.cells #[.slice A0 o.f0.length c0, .slice A1 o.f1.length c1] 48 (0, 0))) (hv : ObV w o A0 A1 c0 c1) : (kAt P.k48 w).C W (some ⟨g, 0, none⟩) 1 [o] :=
  have hr : Reps ((kAt P.k48 w).K W) 2 [o] (([] : List Value) ++ [.slice A0 o.f0.length c0, .slice A1 o.f1.length c1]) := (Reps.none _ 2).snoc hv.K rfl
  C_blk (d := kAt P.k48 w) (xs := [o]) h hr (by simp [maxLen])
theorem slice_head_r (A : Option Addr) (n c m : Nat) (h : m ≤ c) (W : World) : (Instr.slice 39 (.slice A n c) none (some (.int .i64 (m : Int))) none).run Tryd.prog W = .ok (.slice A m c) W := by
  have hl : Tryd.prog.elem 39 = 52 := by kernel_rfl
  have hu : Tryd.prog.underlying 39 = some (.slice (Tryd.prog.elem 39)) := by rw [hl]; exact Tryd.underlying39
  rw [run_slice_h (P := Tryd.prog) W 39 A n c hu .i64 m (by omega) (by omega), hl, Tryd.sizeOf52]
  have e : A.map (fun x : Addr => x.add 0) = A := by cases A <;> simp [Addr.add]
  simp [sliced, e, Result.andThen]
theorem add0r (al i : Nat) : (⟨al, 0, none⟩ : Addr).add i = ⟨al, i, none⟩ := by
  by_cases h : i = 0
  · subst h; rfl
  · simp [Addr.add, h]
theorem same_rows {os : List Ob} (w : World) (al g ca cb : Nat) (hl : os.length ≤ 12) (hr : ∀ i, i < os.length → nsy os i ≤ 100000) (hca : os.length ≤ ca) (hcb : os.length ≤ cb) (h1 : Kd.C kRows w (some ⟨al, 0, none⟩) os.length (rowsOf os)) (h2 : Kd.C kRows w (some ⟨g, 0, none⟩) os.length (rowsOf os)) :
    Calls Tryd.prog 23 #[.slice (some ⟨al, 0, none⟩) os.length ca, .slice (some ⟨g, 0, none⟩) os.length cb] w fun e w' => e = .returned (.bool true) ∧ Below w.heap.size w w' := by
  have hlen : (rowsOf os).length = os.length := by simp [rowsOf]
  obtain ⟨K, hK⟩ := same_refl_ev (rowsOf os) (by omega) (fun i hi => by
    rw [hlen] at hi
    rw [rowsOf_get hi, plRow_length]
    exact hr i hi)
  rw [← hlen] at h1 h2 hca hcb ⊢
  refine (P.cleatref20_Same.calls K (some ⟨al, 0, none⟩) ca _ (some ⟨g, 0, none⟩) cb _ true w h1 hca h2 hcb (hK K (Nat.le_refl _))).mono ?_
  intro e w' h
  exact ⟨h.1, h.2.below⟩
set_option maxRecDepth 100000 in
set_option maxHeartbeats 8000000 in
theorem symmore_any (w : World) (A A0 A1 : Option Addr) (c c0 c1 : Nat) (os : List Ob) (o : Ob) (hG : Glob w) (hos : OA w A os) (hc : os.length ≤ c) (hse : SeA w A0 o.f0) (hc0 : o.f0.length ≤ c0) (hsy : SyA w A1 o.f1) (hc1 : o.f1.length ≤ c1) :
    Calls Tryd.prog 7 #[.slice A os.length c, .agg #[.slice A0 o.f0.length c0, .slice A1 o.f1.length c1]] w fun e w' => e = .returned (.bool true) ∧ Below w.heap.size w w' := by
  obtain ⟨b1, hb1, hfew1⟩ := big_objs os
  obtain ⟨b2, hb2, hfew2⟩ := big_objs [o]
  have HBig1 := Aside0.mk hb1
  have HBig2 := Aside0.mk hb2
  have HG := Aside0.mk hG
  have HO := Aside0.mk hos
  have HV := Aside0.mk (show ObV w o A0 A1 c0 c1 from ⟨hse, hc0, hsy, hc1⟩)
  clear hb1 hb2 hG hos hse hsy
  go_enter Tryd.func7, Tryd.ntmps7
  go_wp2_with fail
  have HX := Aside0.mk (blk_new w (.cells #[.slice A0 o.f0.length c0, .slice A1 o.f1.length c1] 48))
  have HB := Aside0.mk ((Below.refl w.heap.size w).alloc (Nat.le_refl _) (.cells #[.slice A0 o.f0.length c0, .slice A1 o.f1.length c1] 48))
  (with_reducible refine (big_ev_calls HBig1.out _ _ c (Kd.C_below HO.out HB.out) hc).mono ?_)
  rintro e w1 ⟨rfl, hb⟩
  replace HX := Aside0.mk (blk_below HX.out hb)
  replace HB := Aside0.mk (below_step HB.out hb)
  clear hb
  obtain ⟨z0, z1⟩ := blk2_cells HX.out
  cases b1 with
  | true =>
    go_wp2_with fail
    (with_reducible refine (resolved_any _ (HG.out.below HB.out)).mono ?_)
    rintro e w9 ⟨rfl, hb⟩
    replace HB := Aside0.mk (below_step HB.out hb)
    clear hb
    go_wp2
    go_ret
    exact ⟨rfl, HB.out⟩
  | false =>
    have HF1 := Aside0.mk (hfew1 rfl)
    have hol := HF1.out.1
    clear hfew1
    go_wp2_with fail
    have HO1 := Aside0.mk (show OA _ (some ⟨w1.heap.size, 0, none⟩) [o] from obs1 (blk_new w1 (.cells #[.slice A0 o.f0.length c0, .slice A1 o.f1.length c1] 48)) (HV.out.below (HB.out.alloc HB.out.size _)))
    replace HX := Aside0.mk (blk_alloc HX.out (.cells #[.slice A0 o.f0.length c0, .slice A1 o.f1.length c1] 48))
    replace HB := Aside0.mk (HB.out.alloc HB.out.size (.cells #[.slice A0 o.f0.length c0, .slice A1 o.f1.length c1] 48))
    (with_reducible refine (big1 HBig2.out _ _ 1 HO1.out (Nat.le_refl 1)).mono ?_)
    rintro e w2 ⟨rfl, hb⟩
    replace HX := Aside0.mk (blk_below HX.out hb)
    replace HB := Aside0.mk (below_step HB.out hb)
    clear hb HO1 z0 z1
    obtain ⟨z0, z1⟩ := blk2_cells HX.out
    cases b2 with
    | true =>
      go_wp2_with fail
      (with_reducible refine (resolved_any _ (HG.out.below HB.out)).mono ?_)
      rintro e w9 ⟨rfl, hb⟩
      replace HB := Aside0.mk (below_step HB.out hb)
      clear hb
      go_wp2
      go_ret
      exact ⟨rfl, HB.out⟩
    | false =>
      have HF2 := Aside0.mk (alone_few (hfew2 rfl))
      have hly := HF2.out.syms
      clear hfew2
      by_cases hn : 8 ≤ os.length
      · have e8 : ((8 : Int) ≤ (os.length : Int)) = True := by simp; omega
        go_wp2_with fail
        (with_reducible refine (resolved_any _ (HG.out.below HB.out)).mono ?_)
        rintro e w9 ⟨rfl, hb⟩
        replace HB := Aside0.mk (below_step HB.out hb)
        clear hb
        go_wp2
        go_ret
        exact ⟨rfl, HB.out⟩
      · have e8 : ((8 : Int) ≤ (os.length : Int)) = False := by simp; omega
        go_wp2_with fail
        (with_reducible refine (objIs_any _ A0 A1 c0 c1 o (HG.out.below HB.out) (obv_parts (HV.out.below HB.out)).1 hc0 (obv_parts (HV.out.below HB.out)).2.2.1 hc1 HF2.out).mono ?_)
        rintro e w3 ⟨bi, rfl, hbi, hb⟩
        replace HX := Aside0.mk (blk_below HX.out hb)
        replace HB := Aside0.mk (below_step HB.out hb)
        have HBi := Aside0.mk hbi
        clear hb hbi z0 z1 e8
        obtain ⟨z0, z1⟩ := blk2_cells HX.out
        cases bi with
        | false =>
          go_wp2_with fail
          (with_reducible refine (resolved_any _ (HG.out.below HB.out)).mono ?_)
          rintro e w9 ⟨rfl, hb⟩
          replace HB := Aside0.mk (below_step HB.out hb)
          clear hb
          go_wp2
          go_ret
          exact ⟨rfl, HB.out⟩
        | true =>
          have HOk := Aside0.mk (HBi.out.1 rfl)
          clear HBi
          go_wp2
          go_loopw [5] (fun v wr => ∃ i : Nat, i ≤ o.f1.length ∧ v = .int .i64 i ∧ Aside0 (∀ j, j < i → (smN o j).f1 = 1) ∧ w3 = wr) (fun v _ => o.f1.length - (RowKit.intOf v).toNat)
          case atStart => exact ⟨0, Nat.zero_le _, rfl, ⟨fun j h => absurd h (Nat.not_lt_zero _)⟩, rfl⟩
          case round =>
            obtain ⟨i, hi, rfl, HL, rfl⟩ := hrel
            by_cases hlt : i < o.f1.length
            · obtain ⟨ad, e1, y0, y1, y2, y3⟩ := P.at_T50 (obv_parts (HV.out.below HB.out)).2.2.1 i (by omega) (by omega)
              subst e1
              rw [Int.toNat_natCast] at y0 y1 y2 y3
              obtain ⟨s, hs⟩ : ∃ s, smN o i = s := ⟨_, rfl⟩
              have HS := Aside0.mk hs
              unfold smN at hs
              rw [hs] at y0 y1 y2 y3
              clear hs
              have hi0 : (0 : Int) ≤ (i : Int) := by omega
              have hi1 : (i : Int) < o.f1.length := by omega
              by_cases hl1 : s.f1 = 1
              · rw [hl1] at y1
                go_wp2
                go_roundw
                case rel => exact ⟨i + 1, by omega, by go_num, ⟨upto1 HL.out (by rw [HS.out]; exact hl1)⟩, trivial⟩
                case measure => simp [RowKit.intOf]; omega
              · have hne : (s.f1 != 1) = true := bne_iff_ne.mpr hl1
                go_wp2_with fail
                (with_reducible refine (resolved_any _ (HG.out.below HB.out)).mono ?_)
                rintro e w9 ⟨rfl, hb⟩
                replace HB := Aside0.mk (below_step HB.out hb)
                clear hb
                go_wp2
                go_ret
                exact ⟨rfl, HB.out⟩
            · obtain rfl : i = o.f1.length := by omega
              have HLoc := Aside0.mk (show Loc o from HL.out)
              clear HL
              have hl8 : os.length < 8 := by omega
              obtain ⟨os', ho'⟩ : ∃ q, os ++ [o] = q := ⟨_, rfl⟩
              have HM := Aside0.mk ho'
              clear ho'
              go_wp2_with (first
                | (at_builtin; (refine Kd.R_append_rows (kAt P.k48 w) (w0 := w3) w3.heap.size rfl (.tmp 44) (.tmp 45) 37 48 (.agg #[.slice none 0 0, .slice none 0 0]) 48 rfl Tryd.underlying37 info_ob rfl (show 0 < 2 by decide) (by decide) (.slice none 0 0) [] os A os.length c (fun _ => True) (fun _ => False) rfl rfl (Kd.R_nil _ _ w3 w3.heap.size _) (C_kAt HB.out HO.out) (fun _ _ h => h) (fun _ h => h.elim) (fun _ _ => trivial) (Below.refl _ _) (Nat.le_refl _) (by simp; omega) ?_; intro v1 w4 ho1 hb1 _ _; rw [List.nil_append] at ho1; obtain ⟨A4, c4, rfl⟩ := Kd.R_slice ho1; have HO1 := Aside0.mk ho1; have HB4 := Aside0.mk hb1; clear ho1 hb1; (have zq := keepS z0 HB4.out); (have zr := keepS z1 HB4.out)))
                | (at_builtin; (refine Kd.R_append_rows (kAt P.k48 w) (w0 := w3) w3.heap.size rfl (.tmp 47) (.tmp 49) 37 48 (.agg #[.slice none 0 0, .slice none 0 0]) 48 rfl Tryd.underlying37 info_ob rfl (show 0 < 2 by decide) (by decide) _ os [o] (some ⟨w4.heap.size, 0, none⟩) 1 1 (fun _ => True) (fun _ => False) rfl rfl (Kd.R_alloc HO1.out _) (one_ob (blk_new w4 (.cells #[.slice A0 o.f0.length c0, .slice A1 o.f1.length c1] 48)) HV.out) (fun _ _ h => h) (fun _ h => h.elim) (fun _ _ => trivial) (HB4.out.alloc HB4.out.size _) (HB4.out.alloc HB4.out.size _).size (by omega) ?_; intro v2 w5 ho2 hb2 _ _; rw [HM.out] at ho2; obtain ⟨A5, c5, rfl, hc5, hC5⟩ := Kd.R_reads ho2; have HB5 := Aside0.mk hb2; have HC5 := Aside0.mk hC5; clear ho2 hb2 hC5)))
              have HO5 := Aside0.mk (kAt_C (below_step HB.out HB5.out) HC5.out)
              replace HX := Aside0.mk (blk_below HX.out HB5.out)
              replace HB := Aside0.mk (below_step HB.out HB5.out)
              clear HC5 HO1 HB4 HB5 z0 z1 zq zr
              obtain ⟨z0, z1⟩ := blk2_cells HX.out
              (with_reducible refine (resolve_any _ A c os (HG.out.below HB.out) (Kd.C_below HO.out HB.out) hc HF1.out).mono ?_)
              rintro e w6 ⟨hb, hr⟩
              replace HX := Aside0.mk (blk_below HX.out hb)
              replace HO5 := Aside0.mk (Kd.C_below HO5.out hb)
              replace HB := Aside0.mk (below_step HB.out hb)
              clear hb z0 z1
              rcases hr with ⟨c', o', k', hf, rfl⟩ | ⟨hok, htw, hnl, al, vs, rfl, hr, _⟩
              · have hne : (c' != 0) = true := bne_iff_ne.mpr (flt_ne hf)
                have hf2 := flt_more HOk.out HLoc.out hl8 hf
                rw [HM.out] at hf2
                have HFl := Aside0.mk hf2
                clear hf hf2
                go_wp2_with fail
                have HFd := Aside0.mk (blk_new w6 (.cells #[.int .i64 c', .int .i64 o', .int .i64 k'] 41))
                replace HO5 := Aside0.mk (Kd.C_below HO5.out ((Below.refl w6.heap.size w6).alloc (Nat.le_refl _) (.cells #[.int .i64 c', .int .i64 o', .int .i64 k'] 41)))
                replace HX := Aside0.mk (blk_alloc HX.out (.cells #[.int .i64 c', .int .i64 o', .int .i64 k'] 41))
                replace HB := Aside0.mk (HB.out.alloc HB.out.size (.cells #[.int .i64 c', .int .i64 o', .int .i64 k'] 41))
                (with_reducible refine (resolve_any _ A5 c5 os' (HG.out.below HB.out) HO5.out hc5 (by rw [← HM.out]; exact few_more HF1.out HF2.out hl8)).mono ?_)
                rintro e w7 ⟨hb, hr⟩
                have hE : e = .returned (.tuple #[.slice none 0 0, .agg #[.int .i64 c', .int .i64 o', .int .i64 k']]) := by
                  rcases hr with ⟨c2, o2, k2, hf, rfl⟩ | ⟨hok, htw, hnl, _⟩
                  · obtain ⟨rfl, rfl, rfl⟩ := flt_one HFl.out hf
                    rfl
                  · exact (flt_not HFl.out hok htw hnl).elim
                subst hE
                replace HFd := Aside0.mk (blk_below HFd.out hb)
                replace HB := Aside0.mk (below_step HB.out hb)
                clear hb hr
                obtain ⟨q0, q1, q2⟩ := cq3 HFd.out
                have q0a := fun ob => keepS q0 ((Below.refl w7.heap.size w7).alloc (Nat.le_refl _) ob)
                go_wp2_with fail
                have HGd := Aside0.mk (blk_new w7 (.cells #[.int .i64 c', .int .i64 o', .int .i64 k'] 41))
                replace HFd := Aside0.mk (blk_alloc HFd.out (.cells #[.int .i64 c', .int .i64 o', .int .i64 k'] 41))
                replace HB := Aside0.mk (HB.out.alloc HB.out.size (.cells #[.int .i64 c', .int .i64 o', .int .i64 k'] 41))
                (with_reducible refine (resolved_any _ (HG.out.below HB.out)).mono ?_)
                rintro e w8 ⟨rfl, hb⟩
                replace HFd := Aside0.mk (blk_below HFd.out hb)
                replace HGd := Aside0.mk (blk_below HGd.out hb)
                replace HB := Aside0.mk (below_step HB.out hb)
                clear hb q0 q1 q2 q0a
                obtain ⟨q0, q1, q2⟩ := cq3 HFd.out
                obtain ⟨p0, p1, p2⟩ := cq3 HGd.out
                go_wp2
                go_ret
                exact ⟨rfl, HB.out⟩
              · have hg1 := (allOk_more HOk.out hl8).2 hok
                have hg2 := noTw_all HLoc.out htw
                have hg3 := noLost_all HLoc.out hnl
                rw [HM.out] at hg1 hg2 hg3
                have HG1 := Aside0.mk hg1
                have HG2 := Aside0.mk hg2
                have HG3 := Aside0.mk hg3
                have HCa := Aside0.mk (rows_read hr (by omega))
                clear hok htw hnl hr hg1 hg2 hg3
                go_wp2_with fail
                have HFd := Aside0.mk (blk_new w6 (.cells #[.int .i64 0, .int .i64 0, .int .i64 0] 41))
                replace HCa := Aside0.mk (Kd.C_below HCa.out ((Below.refl w6.heap.size w6).alloc (Nat.le_refl _) (.cells #[.int .i64 0, .int .i64 0, .int .i64 0] 41)))
                replace HO5 := Aside0.mk (Kd.C_below HO5.out ((Below.refl w6.heap.size w6).alloc (Nat.le_refl _) (.cells #[.int .i64 0, .int .i64 0, .int .i64 0] 41)))
                replace HX := Aside0.mk (blk_alloc HX.out (.cells #[.int .i64 0, .int .i64 0, .int .i64 0] 41))
                replace HB := Aside0.mk (HB.out.alloc HB.out.size (.cells #[.int .i64 0, .int .i64 0, .int .i64 0] 41))
                (with_reducible refine (resolve_any _ A5 c5 os' (HG.out.below HB.out) HO5.out hc5 (by rw [← HM.out]; exact few_more HF1.out HF2.out hl8)).mono ?_)
                rintro e w7 ⟨hb, hr⟩
                replace HFd := Aside0.mk (blk_below HFd.out hb)
                replace HX := Aside0.mk (blk_below HX.out hb)
                replace HCa := Aside0.mk (Kd.C_below HCa.out hb)
                replace HB := Aside0.mk (below_step HB.out hb)
                clear hb
                have hr2 : ∃ al2 vs2, e = .returned (.tuple #[.slice (some ⟨al2, 0, none⟩) os'.length os'.length, .agg #[.int .i64 0, .int .i64 0, .int .i64 0]]) ∧ Rows2 0 os' al2 vs2 os'.length 0 w7 := by
                  rcases hr with ⟨c2, o2, k2, hf, rfl⟩ | ⟨_, _, _, al2, vs2, h, hr, _⟩
                  · exact (flt_not hf HG1.out HG2.out HG3.out).elim
                  · exact ⟨al2, vs2, h, rows_lower hr (Nat.zero_le _)⟩
                obtain ⟨al2, vs2, rfl, hr2⟩ := hr2
                have hlm : os'.length = os.length + 1 := by rw [← HM.out]; exact len_more
                have HCb := Aside0.mk (rows_read hr2 (by omega))
                clear hr hr2
                obtain ⟨q0, q1, q2⟩ := cq3 HFd.out
                have q0a := fun ob => keepS q0 ((Below.refl w7.heap.size w7).alloc (Nat.le_refl _) ob)
                have HLm := Aside0.mk hlm
                clear hlm
                go_wp2_with fail
                have HGd := Aside0.mk (blk_new w7 (.cells #[.int .i64 0, .int .i64 0, .int .i64 0] 41))
                replace HFd := Aside0.mk (blk_alloc HFd.out (.cells #[.int .i64 0, .int .i64 0, .int .i64 0] 41))
                replace HX := Aside0.mk (blk_alloc HX.out (.cells #[.int .i64 0, .int .i64 0, .int .i64 0] 41))
                have b8 := (Below.refl w7.heap.size w7).alloc (Nat.le_refl _) (.cells #[.int .i64 0, .int .i64 0, .int .i64 0] 41)
                replace HCa := Aside0.mk (Kd.C_below HCa.out b8)
                replace HCb := Aside0.mk (Kd.C_below HCb.out b8)
                replace HB := Aside0.mk (below_step HB.out b8)
                clear q0 q1 q2 q0a b8
                generalize w7.alloc (.cells #[.int .i64 0, .int .i64 0, .int .i64 0] 41) = w8 at HGd HFd HX HCa HCb HB ⊢
                have hle : os.length ≤ os'.length := by have := HLm.out; omega
                have hlt2 : os.length < os'.length := by have := HLm.out; omega
                obtain ⟨_, Ar, cr, er, r0, lr, Cr⟩ := P.at_L18 HCb.out os.length (by omega) (by omega)
                cases er
                rw [rowsOf_get hlt2, plRow_length, show nsy os' os.length = o.f1.length by rw [← HM.out]; exact nsy_new] at r0
                rw [Int.toNat_natCast] at r0
                have HR0 := Aside0.mk (show w8.cell? ⟨al2, os.length, none⟩ = some (.slice Ar o.f1.length cr) by rw [← add0r]; exact r0)
                have HTl := Aside0.mk (show ∀ i, i < os.length → nsy os i ≤ 100000 from fun i hi => by have := (HF1.out.2 i hi).syms; show (obN os i).f1.length ≤ 100000; omega)
                have HCp : Aside0 (Kd.C kRows w8 (some ⟨al2, 0, none⟩) os.length (rowsOf os)) := ⟨by
                  have h := HCb.out
                  rw [← HM.out, rowsOf_more HLoc.out, len_more] at h
                  exact reads_prefix h (by simp [rowsOf])⟩
                have hsl := slice_head_r (some ⟨al2, 0, none⟩) os'.length os'.length os.length hle
                have hi0 : (0 : Int) ≤ (os.length : Int) := by omega
                have hi1 : (os.length : Int) < os'.length := by omega
                have hw : wrap64 ((os.length : Int) + 1) = (os'.length : Int) := by rw [HLm.out]; exact succ_small _ (by omega)
                clear r0 lr Cr
                refine start_ (n := 35) (S := fun w' => w'.cell? ⟨w7.heap.size, 0, none⟩ = some (.int .i64 0) ∧ w'.cell? ⟨w7.heap.size, 1, none⟩ = some (.int .i64 0) ∧ w'.cell? ⟨w7.heap.size, 2, none⟩ = some (.int .i64 0) ∧ w'.cell? ⟨w6.heap.size, 0, none⟩ = some (.int .i64 0) ∧ w'.cell? ⟨w6.heap.size, 1, none⟩ = some (.int .i64 0) ∧ w'.cell? ⟨w6.heap.size, 2, none⟩ = some (.int .i64 0) ∧ w'.cell? ⟨al2, os.length, none⟩ = some (.slice Ar o.f1.length cr) ∧ w'.cell? ⟨w.heap.size, 1, none⟩ = some (.slice A1 o.f1.length c1)) (ds := []) #[false, false, false, false, false, false, false, false, false, false, false, false, false, false, false, false, false, false, false, false, false, false, false, false, false, false, false, false, false, false, false, false, false, false, false] (by kernel_rfl) rfl rfl ⟨(cq3 HGd.out).1, (cq3 HGd.out).2.1, (cq3 HGd.out).2.2, (cq3 HFd.out).1, (cq3 HFd.out).2.1, (cq3 HFd.out).2.2, HR0.out, (blk2_cells HX.out).2⟩ (fun hHeld => ?_)
                have HFx := Aside0.mk (show w8.drew.heap[w6.heap.size]? = some (.cells #[.int .i64 0, .int .i64 0, .int .i64 0] 41) from HFd.out)
                have HGx := Aside0.mk (show w8.drew.heap[w7.heap.size]? = some (.cells #[.int .i64 0, .int .i64 0, .int .i64 0] 41) from HGd.out)
                have HXx := Aside0.mk (show w8.drew.heap[w.heap.size]? = some (.cells #[.slice A0 o.f0.length c0, .slice A1 o.f1.length c1] 48) from HX.out)
                have HW := Aside0.mk (below_drew1 (Below.refl w8.heap.size w8))
                generalize w8.drew = w8d at HFx HGx HXx HW hHeld ⊢
                refine one_ (i := 0) (N := some 75) #[true, false, false, false, false, false, false, false, false, false, false, false, false, false, false, false, false, false, false, false, false, false, false, false, false, false, false, false, false, false, false, false, false, false, false] rfl rfl (by kernel_rfl) (by decide) (fun K hK => ?_)
                refine goes_ Tryd.func21 (by kernel_rfl) rfl #[] (by kernel_rfl) rfl rfl (by kernel_rfl) ?_
                refine (resolved_any _ (HG.out.below (below_step HB.out HW.out))).mono ?_
                rintro e w9 ⟨rfl, hb⟩
                replace HFx := Aside0.mk (blk_below HFx.out hb)
                replace HGx := Aside0.mk (blk_below HGx.out hb)
                replace HXx := Aside0.mk (blk_below HXx.out hb)
                replace HW := Aside0.mk (below_step HW.out hb)
                clear hb
                refine ⟨_, rfl, ?_⟩
                refine hK.out _ _ ⟨(cq3 HGx.out).1, (cq3 HGx.out).2.1, (cq3 HGx.out).2.2, (cq3 HFx.out).1, (cq3 HFx.out).2.1, (cq3 HFx.out).2.2, keepS HR0.out HW.out, (blk2_cells HXx.out).2⟩ (fun hHeld => ?_)
                clear hK K
                refine norm_ (a' := ?_) ?_ ?_
                rotate_left
                · show Act.put _ (some 75) _ = _
                  simp only [Act.put, List.setIfInBounds_toArray, List.set_cons_zero, List.set_cons_succ, i64_w, i32_w]
                  rfl
                refine pure_ (i := 1) (N := some 76) (v := ?_) (a' := ?_) #[true, true, false, false, false, false, false, false, false, false, false, false, false, false, false, false, false, false, false, false, false, false, false, false, false, false, false, false, false, false, false, false, false, false, false] rfl rfl (by kernel_rfl) (fun _ _ _ h => h) (Or.inl ⟨by rfl, ?_⟩) ?_ ?_
                rotate_left
                · intro w'
                  go_simp
                  with_reducible rfl
                rotate_left
                · simp only [Act.put, List.setIfInBounds_toArray, List.set_cons_zero, List.set_cons_succ, i64_w, i32_w]
                  rfl
                refine take_ (i := 2) (N := some 77) (v := ?_) (a' := ?_) #[true, true, true, false, false, false, false, false, false, false, false, false, false, false, false, false, false, false, false, false, false, false, false, false, false, false, false, false, false, false, false, false, false, false, false] rfl rfl (by kernel_rfl) (fun _ _ _ h => h) (Or.inl ⟨by rfl, ?_⟩) hHeld ?_ ?_
                rotate_left
                · rintro w' ⟨s0_, s1_, s2_, s3_, s4_, s5_, s6_, s7_⟩
                  go_simp
                  with_reducible rfl
                rotate_left
                · simp only [Act.put, List.setIfInBounds_toArray, List.set_cons_zero, List.set_cons_succ, i64_w, i32_w]
                  rfl
                refine take_ (i := 3) (N := some 78) (v := ?_) (a' := ?_) #[true, true, true, true, false, false, false, false, false, false, false, false, false, false, false, false, false, false, false, false, false, false, false, false, false, false, false, false, false, false, false, false, false, false, false] rfl rfl (by kernel_rfl) (fun _ _ _ h => h) (Or.inl ⟨by rfl, ?_⟩) hHeld ?_ ?_
                rotate_left
                · rintro w' ⟨s0_, s1_, s2_, s3_, s4_, s5_, s6_, s7_⟩
                  go_simp
                  with_reducible rfl
                rotate_left
                · simp only [Act.put, List.setIfInBounds_toArray, List.set_cons_zero, List.set_cons_succ, i64_w, i32_w]
                  rfl
                refine pure_ (i := 4) (N := some 79) (v := ?_) (a' := ?_) #[true, true, true, true, true, false, false, false, false, false, false, false, false, false, false, false, false, false, false, false, false, false, false, false, false, false, false, false, false, false, false, false, false, false, false] rfl rfl (by kernel_rfl) (fun _ _ _ h => h) (Or.inl ⟨by rfl, ?_⟩) ?_ ?_
                rotate_left
                · intro w'
                  go_simp
                  with_reducible rfl
                rotate_left
                · simp only [Act.put, List.setIfInBounds_toArray, List.set_cons_zero, List.set_cons_succ, i64_w, i32_w]
                  rfl
                refine pure_ (i := 5) (N := some 80) (v := ?_) (a' := ?_) #[true, true, true, true, true, true, false, false, false, false, false, false, false, false, false, false, false, false, false, false, false, false, false, false, false, false, false, false, false, false, false, false, false, false, false] rfl rfl (by kernel_rfl) (fun _ _ _ h => h) (Or.inl ⟨by rfl, ?_⟩) ?_ ?_
                rotate_left
                · intro w'
                  go_simp
                  with_reducible rfl
                rotate_left
                · simp only [Act.put, List.setIfInBounds_toArray, List.set_cons_zero, List.set_cons_succ, i64_w, i32_w]
                  rfl
                refine pure_ (i := 6) (N := some 81) (v := ?_) (a' := ?_) #[true, true, true, true, true, true, true, false, false, false, false, false, false, false, false, false, false, false, false, false, false, false, false, false, false, false, false, false, false, false, false, false, false, false, false] rfl rfl (by kernel_rfl) (fun _ _ _ h => h) (Or.inl ⟨by rfl, ?_⟩) ?_ ?_
                rotate_left
                · intro w'
                  go_simp
                  with_reducible rfl
                rotate_left
                · simp only [Act.put, List.setIfInBounds_toArray, List.set_cons_zero, List.set_cons_succ, i64_w, i32_w]
                  rfl
                refine pure_ (i := 7) (N := some 82) (v := ?_) (a' := ?_) #[true, true, true, true, true, true, true, true, false, false, false, false, false, false, false, false, false, false, false, false, false, false, false, false, false, false, false, false, false, false, false, false, false, false, false] rfl rfl (by kernel_rfl) (fun _ _ _ h => h) (Or.inl ⟨by rfl, ?_⟩) ?_ ?_
                rotate_left
                · intro w'
                  go_simp
                  with_reducible rfl
                rotate_left
                · simp only [Act.put, List.setIfInBounds_toArray, List.set_cons_zero, List.set_cons_succ, i64_w, i32_w]
                  rfl
                refine pure_ (i := 8) (N := some 83) (v := ?_) (a' := ?_) #[true, true, true, true, true, true, true, true, true, false, false, false, false, false, false, false, false, false, false, false, false, false, false, false, false, false, false, false, false, false, false, false, false, false, false] rfl rfl (by kernel_rfl) (fun _ _ _ h => h) (Or.inl ⟨by rfl, ?_⟩) ?_ ?_
                rotate_left
                · intro w'
                  go_simp
                  with_reducible rfl
                rotate_left
                · simp only [Act.put, List.setIfInBounds_toArray, List.set_cons_zero, List.set_cons_succ, i64_w, i32_w]
                  rfl
                refine pure_ (i := 9) (N := some 84) (v := ?_) (a' := ?_) #[true, true, true, true, true, true, true, true, true, true, false, false, false, false, false, false, false, false, false, false, false, false, false, false, false, false, false, false, false, false, false, false, false, false, false] rfl rfl (by kernel_rfl) (fun _ _ _ h => h) (Or.inl ⟨by rfl, ?_⟩) ?_ ?_
                rotate_left
                · intro w'
                  go_simp
                  with_reducible rfl
                rotate_left
                · simp only [Act.put, List.setIfInBounds_toArray, List.set_cons_zero, List.set_cons_succ, i64_w, i32_w]
                  rfl
                refine pure_ (i := 10) (N := some 85) (v := ?_) (a' := ?_) #[true, true, true, true, true, true, true, true, true, true, true, false, false, false, false, false, false, false, false, false, false, false, false, false, false, false, false, false, false, false, false, false, false, false, false] rfl rfl (by kernel_rfl) (fun _ _ _ h => h) (Or.inl ⟨by rfl, ?_⟩) ?_ ?_
                rotate_left
                · intro w'
                  go_simp
                  with_reducible rfl
                rotate_left
                · simp only [Act.put, List.setIfInBounds_toArray, List.set_cons_zero, List.set_cons_succ, i64_w, i32_w]
                  rfl
                refine pure_ (i := 11) (N := some 86) (v := ?_) (a' := ?_) #[true, true, true, true, true, true, true, true, true, true, true, true, false, false, false, false, false, false, false, false, false, false, false, false, false, false, false, false, false, false, false, false, false, false, false] rfl rfl (by kernel_rfl) (fun _ _ _ h => h) (Or.inl ⟨by rfl, ?_⟩) ?_ ?_
                rotate_left
                · intro w'
                  go_simp
                  with_reducible rfl
                rotate_left
                · simp only [Act.put, List.setIfInBounds_toArray, List.set_cons_zero, List.set_cons_succ, i64_w, i32_w]
                  rfl
                refine pure_ (i := 12) (N := some 87) (v := ?_) (a' := ?_) #[true, true, true, true, true, true, true, true, true, true, true, true, true, false, false, false, false, false, false, false, false, false, false, false, false, false, false, false, false, false, false, false, false, false, false] rfl rfl (by kernel_rfl) (fun _ _ _ h => h) (Or.inl ⟨by rfl, ?_⟩) ?_ ?_
                rotate_left
                · intro w'
                  go_simp
                  with_reducible rfl
                rotate_left
                · simp only [Act.put, List.setIfInBounds_toArray, List.set_cons_zero, List.set_cons_succ, i64_w, i32_w]
                  rfl
                refine pure_ (i := 13) (N := some 88) (v := ?_) (a' := ?_) #[true, true, true, true, true, true, true, true, true, true, true, true, true, true, false, false, false, false, false, false, false, false, false, false, false, false, false, false, false, false, false, false, false, false, false] rfl rfl (by kernel_rfl) (fun _ _ _ h => h) (Or.inl ⟨by rfl, ?_⟩) ?_ ?_
                rotate_left
                · intro w'
                  go_simp
                  with_reducible rfl
                rotate_left
                · simp only [Act.put, List.setIfInBounds_toArray, List.set_cons_zero, List.set_cons_succ, i64_w, i32_w]
                  rfl
                refine pure_ (i := 14) (N := some 89) (v := ?_) (a' := ?_) #[true, true, true, true, true, true, true, true, true, true, true, true, true, true, true, false, false, false, false, false, false, false, false, false, false, false, false, false, false, false, false, false, false, false, false] rfl rfl (by kernel_rfl) (fun _ _ _ h => h) (Or.inl ⟨by rfl, ?_⟩) ?_ ?_
                rotate_left
                · intro w'
                  go_simp
                  with_reducible rfl
                rotate_left
                · simp only [Act.put, List.setIfInBounds_toArray, List.set_cons_zero, List.set_cons_succ, i64_w, i32_w]
                  rfl
                refine pure_ (i := 15) (N := some 90) (v := ?_) (a' := ?_) #[true, true, true, true, true, true, true, true, true, true, true, true, true, true, true, true, false, false, false, false, false, false, false, false, false, false, false, false, false, false, false, false, false, false, false] rfl rfl (by kernel_rfl) (fun _ _ _ h => h) (Or.inl ⟨by rfl, ?_⟩) ?_ ?_
                rotate_left
                · intro w'
                  go_simp
                  with_reducible rfl
                rotate_left
                · simp only [Act.put, List.setIfInBounds_toArray, List.set_cons_zero, List.set_cons_succ, i64_w, i32_w]
                  rfl
                refine pure_ (i := 16) (N := some 91) (v := ?_) (a' := ?_) #[true, true, true, true, true, true, true, true, true, true, true, true, true, true, true, true, true, false, false, false, false, false, false, false, false, false, false, false, false, false, false, false, false, false, false] rfl rfl (by kernel_rfl) (fun _ _ _ h => h) (Or.inl ⟨by rfl, ?_⟩) ?_ ?_
                rotate_left
                · intro w'
                  go_simp
                  with_reducible rfl
                rotate_left
                · simp only [Act.put, List.setIfInBounds_toArray, List.set_cons_zero, List.set_cons_succ, i64_w, i32_w]
                  rfl
                refine pure_ (i := 17) (N := some 92) (v := ?_) (a' := ?_) #[true, true, true, true, true, true, true, true, true, true, true, true, true, true, true, true, true, true, false, false, false, false, false, false, false, false, false, false, false, false, false, false, false, false, false] rfl rfl (by kernel_rfl) (fun _ _ _ h => h) (Or.inl ⟨by rfl, ?_⟩) ?_ ?_
                rotate_left
                · intro w'
                  go_simp
                  with_reducible rfl
                rotate_left
                · simp only [Act.put, List.setIfInBounds_toArray, List.set_cons_zero, List.set_cons_succ, i64_w, i32_w]
                  rfl
                refine pure_ (i := 18) (N := some 93) (v := ?_) (a' := ?_) #[true, true, true, true, true, true, true, true, true, true, true, true, true, true, true, true, true, true, true, false, false, false, false, false, false, false, false, false, false, false, false, false, false, false, false] rfl rfl (by kernel_rfl) (fun _ _ _ h => h) (Or.inl ⟨by rfl, ?_⟩) ?_ ?_
                rotate_left
                · intro w'
                  go_simp
                  with_reducible rfl
                rotate_left
                · simp only [Act.put, List.setIfInBounds_toArray, List.set_cons_zero, List.set_cons_succ, i64_w, i32_w]
                  rfl
                refine take_ (i := 19) (N := some 94) (v := ?_) (a' := ?_) #[true, true, true, true, true, true, true, true, true, true, true, true, true, true, true, true, true, true, true, true, false, false, false, false, false, false, false, false, false, false, false, false, false, false, false] rfl rfl (by kernel_rfl) (fun _ _ _ h => h) (Or.inl ⟨by rfl, ?_⟩) hHeld ?_ ?_
                rotate_left
                · rintro w' ⟨s0_, s1_, s2_, s3_, s4_, s5_, s6_, s7_⟩
                  go_simp
                  with_reducible rfl
                rotate_left
                · simp only [Act.put, List.setIfInBounds_toArray, List.set_cons_zero, List.set_cons_succ, i64_w, i32_w]
                  rfl
                refine pure_ (i := 20) (N := some 95) (v := ?_) (a' := ?_) #[true, true, true, true, true, true, true, true, true, true, true, true, true, true, true, true, true, true, true, true, true, false, false, false, false, false, false, false, false, false, false, false, false, false, false] rfl rfl (by kernel_rfl) (fun _ _ _ h => h) (Or.inl ⟨by rfl, ?_⟩) ?_ ?_
                rotate_left
                · intro w'
                  go_simp
                  with_reducible rfl
                rotate_left
                · simp only [Act.put, List.setIfInBounds_toArray, List.set_cons_zero, List.set_cons_succ, i64_w, i32_w]
                  rfl
                refine pure_ (i := 21) (N := some 96) (v := ?_) (a' := ?_) #[true, true, true, true, true, true, true, true, true, true, true, true, true, true, true, true, true, true, true, true, true, true, false, false, false, false, false, false, false, false, false, false, false, false, false] rfl rfl (by kernel_rfl) (fun _ _ _ h => h) (Or.inl ⟨by rfl, ?_⟩) ?_ ?_
                rotate_left
                · intro w'
                  go_simp
                  with_reducible rfl
                rotate_left
                · simp only [Act.put, List.setIfInBounds_toArray, List.set_cons_zero, List.set_cons_succ, i64_w, i32_w]
                  rfl
                refine take_ (i := 22) (N := some 97) (v := ?_) (a' := ?_) #[true, true, true, true, true, true, true, true, true, true, true, true, true, true, true, true, true, true, true, true, true, true, true, false, false, false, false, false, false, false, false, false, false, false, false] rfl rfl (by kernel_rfl) (fun _ _ _ h => h) (Or.inl ⟨by rfl, ?_⟩) hHeld ?_ ?_
                rotate_left
                · rintro w' ⟨s0_, s1_, s2_, s3_, s4_, s5_, s6_, s7_⟩
                  go_simp
                  with_reducible rfl
                rotate_left
                · simp only [Act.put, List.setIfInBounds_toArray, List.set_cons_zero, List.set_cons_succ, i64_w, i32_w]
                  rfl
                refine pure_ (i := 23) (N := some 98) (v := ?_) (a' := ?_) #[true, true, true, true, true, true, true, true, true, true, true, true, true, true, true, true, true, true, true, true, true, true, true, true, false, false, false, false, false, false, false, false, false, false, false] rfl rfl (by kernel_rfl) (fun _ _ _ h => h) (Or.inl ⟨by rfl, ?_⟩) ?_ ?_
                rotate_left
                · intro w'
                  go_simp
                  with_reducible rfl
                rotate_left
                · simp only [Act.put, List.setIfInBounds_toArray, List.set_cons_zero, List.set_cons_succ, i64_w, i32_w]
                  rfl
                refine pure_ (i := 24) (N := some 99) (v := ?_) (a' := ?_) #[true, true, true, true, true, true, true, true, true, true, true, true, true, true, true, true, true, true, true, true, true, true, true, true, true, false, false, false, false, false, false, false, false, false, false] rfl rfl (by kernel_rfl) (fun _ _ _ h => h) (Or.inl ⟨by rfl, ?_⟩) ?_ ?_
                rotate_left
                · intro w'
                  go_simp
                  with_reducible rfl
                rotate_left
                · simp only [Act.put, List.setIfInBounds_toArray, List.set_cons_zero, List.set_cons_succ, i64_w, i32_w]
                  rfl
                refine pure_ (i := 25) (N := some 100) (v := ?_) (a' := ?_) #[true, true, true, true, true, true, true, true, true, true, true, true, true, true, true, true, true, true, true, true, true, true, true, true, true, true, false, false, false, false, false, false, false, false, false] rfl rfl (by kernel_rfl) (fun _ _ _ h => h) (Or.inl ⟨by rfl, ?_⟩) ?_ ?_
                rotate_left
                · intro w'
                  go_simp
                  with_reducible rfl
                rotate_left
                · simp only [Act.put, List.setIfInBounds_toArray, List.set_cons_zero, List.set_cons_succ, i64_w, i32_w]
                  rfl
                refine pure_ (i := 26) (N := some 101) (v := ?_) (a' := ?_) #[true, true, true, true, true, true, true, true, true, true, true, true, true, true, true, true, true, true, true, true, true, true, true, true, true, true, true, false, false, false, false, false, false, false, false] rfl rfl (by kernel_rfl) (fun _ _ _ h => h) (Or.inl ⟨by rfl, ?_⟩) ?_ ?_
                rotate_left
                · intro w'
                  go_simp
                  with_reducible rfl
                rotate_left
                · simp only [Act.put, List.setIfInBounds_toArray, List.set_cons_zero, List.set_cons_succ, i64_w, i32_w]
                  rfl
                refine pure_ (i := 27) (N := some 102) (v := ?_) (a' := ?_) #[true, true, true, true, true, true, true, true, true, true, true, true, true, true, true, true, true, true, true, true, true, true, true, true, true, true, true, true, false, false, false, false, false, false, false] rfl rfl (by kernel_rfl) (fun _ _ _ h => h) (Or.inl ⟨by rfl, ?_⟩) ?_ ?_
                rotate_left
                · intro w'
                  go_simp
                  with_reducible rfl
                rotate_left
                · simp only [Act.put, List.setIfInBounds_toArray, List.set_cons_zero, List.set_cons_succ, i64_w, i32_w]
                  rfl
                refine pure_ (i := 28) (N := some 103) (v := ?_) (a' := ?_) #[true, true, true, true, true, true, true, true, true, true, true, true, true, true, true, true, true, true, true, true, true, true, true, true, true, true, true, true, true, false, false, false, false, false, false] rfl rfl (by kernel_rfl) (fun _ _ _ h => h) (Or.inl ⟨by rfl, ?_⟩) ?_ ?_
                rotate_left
                · intro w'
                  go_simp
                  with_reducible rfl
                rotate_left
                · simp only [Act.put, List.setIfInBounds_toArray, List.set_cons_zero, List.set_cons_succ, i64_w, i32_w]
                  rfl
                refine pure_ (i := 29) (N := some 104) (v := ?_) (a' := ?_) #[true, true, true, true, true, true, true, true, true, true, true, true, true, true, true, true, true, true, true, true, true, true, true, true, true, true, true, true, true, true, false, false, false, false, false] rfl rfl (by kernel_rfl) (fun _ _ _ h => h) (Or.inl ⟨by rfl, ?_⟩) ?_ ?_
                rotate_left
                · intro w'
                  go_simp
                  with_reducible rfl
                rotate_left
                · simp only [Act.put, List.setIfInBounds_toArray, List.set_cons_zero, List.set_cons_succ, i64_w, i32_w]
                  rfl
                refine pure_ (i := 30) (N := some 105) (v := ?_) (a' := ?_) #[true, true, true, true, true, true, true, true, true, true, true, true, true, true, true, true, true, true, true, true, true, true, true, true, true, true, true, true, true, true, true, false, false, false, false] rfl rfl (by kernel_rfl) (fun _ _ _ h => h) (Or.inl ⟨by rfl, ?_⟩) ?_ ?_
                rotate_left
                · intro w'
                  go_simp
                  with_reducible rfl
                rotate_left
                · simp only [Act.put, List.setIfInBounds_toArray, List.set_cons_zero, List.set_cons_succ, i64_w, i32_w]
                  rfl
                refine pure_ (i := 31) (N := some 106) (v := ?_) (a' := ?_) #[true, true, true, true, true, true, true, true, true, true, true, true, true, true, true, true, true, true, true, true, true, true, true, true, true, true, true, true, true, true, true, true, false, false, false] rfl rfl (by kernel_rfl) (fun _ _ _ h => h) (Or.inl ⟨by rfl, ?_⟩) ?_ ?_
                rotate_left
                · intro w'
                  go_simp
                  with_reducible rfl
                rotate_left
                · simp only [Act.put, List.setIfInBounds_toArray, List.set_cons_zero, List.set_cons_succ, i64_w, i32_w]
                  rfl
                refine one_ (i := 32) (N := some 107) #[true, true, true, true, true, true, true, true, true, true, true, true, true, true, true, true, true, true, true, true, true, true, true, true, true, true, true, true, true, true, true, true, true, false, false] rfl rfl (by kernel_rfl) (by decide) (fun K hK => ?_)
                refine goes_ Tryd.func23 (by kernel_rfl) rfl #[.slice (some ⟨al, 0, none⟩) os.length os.length, .slice (some ⟨al2, 0, none⟩) os.length os'.length] (by kernel_rfl) rfl rfl (by kernel_rfl) ?_
                refine (same_rows _ al al2 os.length os'.length hol HTl.out (Nat.le_refl _) hle (Kd.C_below HCa.out HW.out) (Kd.C_below HCp.out HW.out)).mono ?_
                rintro e w10 ⟨rfl, hb⟩
                replace HFx := Aside0.mk (blk_below HFx.out hb)
                replace HGx := Aside0.mk (blk_below HGx.out hb)
                replace HXx := Aside0.mk (blk_below HXx.out hb)
                replace HW := Aside0.mk (below_step HW.out hb)
                clear hb
                refine ⟨_, rfl, ?_⟩
                refine hK.out _ _ ⟨(cq3 HGx.out).1, (cq3 HGx.out).2.1, (cq3 HGx.out).2.2, (cq3 HFx.out).1, (cq3 HFx.out).2.1, (cq3 HFx.out).2.2, keepS HR0.out HW.out, (blk2_cells HXx.out).2⟩ (fun hHeld => ?_)
                clear hK K
                refine norm_ (a' := ?_) ?_ ?_
                rotate_left
                · show Act.put _ (some 107) _ = _
                  simp only [Act.put, List.setIfInBounds_toArray, List.set_cons_zero, List.set_cons_succ, i64_w, i32_w]
                  rfl
                refine pure_ (i := 33) (N := some 108) (v := ?_) (a' := ?_) #[true, true, true, true, true, true, true, true, true, true, true, true, true, true, true, true, true, true, true, true, true, true, true, true, true, true, true, true, true, true, true, true, true, true, false] rfl rfl (by kernel_rfl) (fun _ _ _ h => h) (Or.inl ⟨by rfl, ?_⟩) ?_ ?_
                rotate_left
                · intro w'
                  go_simp
                  with_reducible rfl
                rotate_left
                · simp only [Act.put, List.setIfInBounds_toArray, List.set_cons_zero, List.set_cons_succ, i64_w, i32_w]
                  rfl
                refine pure_ (i := 34) (N := some 4) (v := ?_) (a' := ?_) #[true, true, true, true, true, true, true, true, true, true, true, true, true, true, true, true, true, true, true, true, true, true, true, true, true, true, true, true, true, true, true, true, true, true, true] rfl rfl (by kernel_rfl) (fun _ _ _ h => h) (Or.inl ⟨by rfl, ?_⟩) ?_ ?_
                rotate_left
                · intro w'
                  go_simp
                  with_reducible rfl
                rotate_left
                · simp only [Act.put, List.setIfInBounds_toArray, List.set_cons_zero, List.set_cons_succ, i64_w, i32_w]
                  rfl
                refine done_ (by kernel_rfl) ?_
                go_wp2
                go_ret
                exact ⟨rfl, below_step HB.out HW.out⟩
end Go.Proofs.YtngmipfodjgmmaaDoor.Pure
