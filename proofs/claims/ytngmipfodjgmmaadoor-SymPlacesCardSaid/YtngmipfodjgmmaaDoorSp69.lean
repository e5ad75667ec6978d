/- The law 'SymPlaces' walked: it returns true. -/
import Derived.Test.YtngmipfodjgmmaaDoorSp68
import Derived.Deep.QuietTactic
import Derived.BigQuiet
namespace Go.Proofs.YtngmipfodjgmmaaDoor.Pure
open Go Go.RowKit Go.Lib Go.Shelf Go.Maps Go.Proofs.YtngmipfodjgmmaaDoorW.PrintWords Go.Proofs.YtngmipfodjgmmaaDoorW.PrintLast Go.Proofs.YtngmipfodjgmmaaDoorW.PrintMore
open P (Glob)
set_option linter.unusedVariables false
set_option linter.unusedSimpArgs false
theorem rd_plRow2 {os : List Ob} {o n k : Nat} (hk : k < n) : P.rd_T56 (plRow os o n) k = plS os o k := by
  unfold P.rd_T56 plRow
  rw [Int.toNat_natCast, List.getD_eq_getElem?_getD, List.getElem?_map, List.getElem?_range hk]
  rfl
theorem add0 (al i : Nat) : (⟨al, 0, none⟩ : Addr).add i = ⟨al, i, none⟩ := by
  by_cases h : i = 0
  · subst h; rfl
  · simp [Addr.add, h]
/-- A name that is no local one's: the symbol that is found for it. -/
theorem found_at {os : List Ob} (hok : AllOkO os) (hnl : NoLost os os.length 0) {i k : Nat} (hi : i < os.length) (hk : k < nsy os i) (hb : (syN os i k).f1 ≠ 1) :
    ∃ io jo, io < os.length ∧ jo < nsy os io ∧ (syN os io jo).f0 = (syN os i k).f0 ∧ 0 < (syN os i k).f0.size ∧ placeS os (syN os i k).f0 = some ⟨(io : Int), (syN os io jo).f2, (syN os io jo).f3⟩ ∧ plS os i k = ⟨(io : Int), (syN os io jo).f2, (syN os io jo).f3⟩ ∧ 0 ≤ (syN os io jo).f2 ∧ 2 ≤ (syN os io jo).f1 ∧ ((syN os io jo).f1 ≤ (syN os i k).f1 ∨ ((syN os i k).f1 < (syN os io jo).f1 ∧ (syN os i k).f2 < 0)) := by
  have hp := (hok.2 i hi).pos (i := k) hk hb
  cases h : placeT os (syN os i k).f0 with
  | none => exact absurd ⟨hb, h⟩ (hnl i k (.inl hi) hk)
  | some t =>
    obtain ⟨h1, h2, h3, h4⟩ := placeT_some h
    obtain ⟨io, jo, hio, hjo, rfl⟩ := mem_all.1 h1
    have h2 : (syN os io jo).f0 = (syN os i k).f0 := h2
    have h3 : 0 ≤ (syN os io jo).f2 := h3
    have h4 : (syN os io jo).f1 = 2 ∨ ((syN os io jo).f1 = 3 ∧ firstS strongQ (allS os) (syN os i k).f0 = none) := h4
    have hpl : placeS os (syN os i k).f0 = some ⟨(io : Int), (syN os io jo).f2, (syN os io jo).f3⟩ := by unfold placeS; rw [h]; rfl
    have hbd := (hok.2 i hi).bind (i := k) hk
    have hbd : (syN os i k).f1 = 1 ∨ (syN os i k).f1 = 2 ∨ (syN os i k).f1 = 3 := hbd
    refine ⟨io, jo, hio, hjo, h2, hp, hpl, ?_, h3, by rcases h4 with a | ⟨a, _⟩ <;> omega, ?_⟩
    · unfold plS
      rw [if_neg hb, hpl]
      rfl
    · rcases h4 with a | ⟨a, b⟩
      · left; omega
      · rcases hbd with c | c | c
        · exact absurd c hb
        · by_cases d : (syN os i k).f2 < 0
          · right; omega
          · exact absurd rfl (firstS_none b _ (mem_at hi hk) (strong_iff.2 ⟨c, (show 0 ≤ (syN os i k).f2 by omega)⟩))
        · left; omega
set_option maxRecDepth 100000 in
set_option maxHeartbeats 8000000 in
theorem symplaces_any (w : World) (A : Option Addr) (os : List Ob) (c : Nat) (hG : Glob w) (hos : OA w A os) (hc : os.length ≤ c) :
    Calls Tryd.prog 9 #[.slice A os.length c] w fun e w' => e = .returned (.bool true) ∧ Below w.heap.size w w' := by
  obtain ⟨b, hb, hfew⟩ := bigL_calls os w A c hos hc
  have HBig := Aside0.mk hb
  have HG := Aside0.mk hG
  have HO := Aside0.mk hos
  clear hb hG hos
  cases b with
  | true =>
    go_enter Tryd.func9, Tryd.ntmps9
    go_wp2_with (go_at_call 18; (with_reducible refine HBig.out.mono ?_); rintro e w1 ⟨rfl, hb⟩; have HB := Aside0.mk hb; clear hb)
    go_ret
    exact ⟨rfl, HB.out⟩
  | false =>
    have HF := Aside0.mk (hfew rfl)
    clear hfew
    have hol := HF.out.1
    go_enter Tryd.func9, Tryd.ntmps9
    go_wp2_with (go_at_call 18; (with_reducible refine HBig.out.mono ?_); rintro e w1 ⟨rfl, hb⟩; have HB := Aside0.mk hb; clear hb)
    (with_reducible refine (resolve_any _ A c os (HG.out.below HB.out) (Kd.C_below HO.out HB.out) hc HF.out).mono ?_)
    rintro e w2 ⟨hb, hr⟩
    replace HB := Aside0.mk (below_step HB.out hb)
    clear hb
    rcases hr with ⟨c', o', k', hf, rfl⟩ | ⟨hok, _, hnl, al, vs, rfl, hr, _⟩
    · have hc'0 : c' ≠ 0 := by
        rcases hf with ⟨h, h2, _⟩ | ⟨_, i, j, _, rfl, _⟩ | ⟨_, _, i, j, _, rfl, _⟩
        · exact fun e => h (h2.ok.1 e)
        · decide
        · decide
      have hne : (c' != 0) = true := bne_iff_ne.mpr hc'0
      clear hf
      go_wp2_with fail
      replace HB := Aside0.mk (HB.out.alloc HB.out.size (.cells #[.int .i64 c', .int .i64 o', .int .i64 k'] 41))
      (with_reducible refine (resolved_any _ (HG.out.below HB.out)).mono ?_)
      rintro e w3 ⟨rfl, hb⟩
      replace HB := Aside0.mk (below_step HB.out hb)
      clear hb
      go_wp2
      go_ret
      exact ⟨rfl, HB.out⟩
    · have HOk := Aside0.mk hok
      have HNl := Aside0.mk hnl
      have HTm := Aside0.mk (tame_of hok HF.out)
      have hC := rows_read hr (by omega)
      have b2 := (Below.refl w2.heap.size w2).alloc (Nat.le_refl _) (.cells #[.int .i64 0, .int .i64 0, .int .i64 0] 41)
      clear hok hnl hr
      have hnn : ((os.length : Int) != (os.length : Int)) = false := by simp
      go_wp2_with fail
      have HCr := Aside0.mk (Kd.C_below hC b2)
      replace HB := Aside0.mk (HB.out.alloc HB.out.size (.cells #[.int .i64 0, .int .i64 0, .int .i64 0] 41))
      clear hC b2
      generalize w2.alloc (.cells #[.int .i64 0, .int .i64 0, .int .i64 0] 41) = w3 at HCr HB ⊢
      go_loopw [5] (fun v wr => ∃ i : Nat, i ≤ os.length ∧ v = .int .i64 i ∧ Aside0 (Below w3.heap.size w3 wr)) (fun v _ => os.length - (RowKit.intOf v).toNat)
      case atStart => exact ⟨0, Nat.zero_le _, rfl, ⟨Below.refl _ _⟩⟩
      case round =>
        obtain ⟨i, hi, rfl, HB3⟩ := hrel
        by_cases hlt : i < os.length
        · obtain ⟨ad, A0, c0, A1, c1, e0, x0, x1, l0, C0, l1, C1⟩ := P.at_T48 HO.out i (by omega) (by omega)
          subst e0
          rw [Int.toNat_natCast] at x0 x1
          have hnl : (P.rd_T48 os i).f1.length = nsy os i := rfl
          have HSz : Aside0 (SyA w A1 (obN os i).f1) := ⟨C1⟩
          rw [hnl] at x1 l1
          have HX1 := Aside0.mk x1
          obtain ⟨_, Ar, cr, er, r0, lr, Cr⟩ := P.at_L18 HCr.out i (by omega) (by omega)
          cases er
          rw [rowsOf_get hlt, plRow_length] at r0 lr Cr
          have HR0 : Aside0 (w3.cell? ⟨al, i, none⟩ = some (.slice Ar (nsy os i) cr)) := ⟨by rw [add0] at r0; exact r0⟩
          have HCz := Aside0.mk Cr
          have hi0 : (0 : Int) ≤ (i : Int) := by omega
          have hi1 : (i : Int) < os.length := by omega
          have hnz : ((nsy os i : Int) != (nsy os i : Int)) = false := by simp
          clear C0 C1 l0 x0 x1 r0 Cr
          have x1 := keepS HX1.out (below_step HB.out HB3.out)
          have r0 := keepS HR0.out HB3.out
          go_wp2
          go_quiet (fail)
          go_wp2
          go_loopw [6] (fun v wr => ∃ k : Nat, k ≤ nsy os i ∧ v = .int .i64 k ∧ Aside0 (Below w3.heap.size w3 wr)) (fun v _ => nsy os i - (RowKit.intOf v).toNat)
          case atStart => exact ⟨0, Nat.zero_le _, rfl, ⟨pw_below_drewN HB3.out _⟩⟩
          case round =>
            clear HB3 x1 r0 hnz
            obtain ⟨k, hk, rfl, HB3⟩ := hrel
            have x1 := keepS HX1.out (below_step HB.out HB3.out)
            have r0 := keepS HR0.out HB3.out
            by_cases hkl : k < nsy os i
            · obtain ⟨ad1, e1, y0, y1, y2, y3⟩ := P.at_T50 HSz.out k (by omega) (by show (k : Int) < (nsy os i : Int); omega)
              subst e1
              rw [Int.toNat_natCast] at y0 y1 y2 y3
              obtain ⟨ad2, e2, p0, p1, p2⟩ := P.at_T56 (Kd.C_below HCz.out HB3.out) k (by omega) (by omega)
              subst e2
              rw [Int.toNat_natCast, rd_plRow2 hkl] at p0 p1 p2
              obtain ⟨x, hx⟩ : ∃ x, syN os i k = x := ⟨_, rfl⟩
              have HX := Aside0.mk hx
              unfold syN at hx
              rw [hx] at y0 y1 y2 y3
              clear hx
              replace y0 := keepS y0 (below_step HB.out HB3.out)
              replace y1 := keepS y1 (below_step HB.out HB3.out)
              replace y2 := keepS y2 (below_step HB.out HB3.out)
              replace y3 := keepS y3 (below_step HB.out HB3.out)
              have hml := (HTm.out.2 i hlt).1
              have hk0 : (0 : Int) ≤ (k : Int) := by omega
              have hk1 : (k : Int) < (nsy os i : Int) := by omega
              have r0a := fun ob => keepS r0 ((Below.refl wr.heap.size wr).alloc (Nat.le_refl _) ob)
              by_cases hb : x.f1 = 1
              · have hpl : plS os i k = ⟨(i : Int), x.f2, x.f3⟩ := by unfold plS; rw [HX.out, if_pos hb]
                rw [hpl] at p0 p1 p2
                have p0a := fun ob => keepS p0 ((Below.refl wr.heap.size wr).alloc (Nat.le_refl _) ob)
                have p1a := fun ob => keepS p1 ((Below.refl wr.heap.size wr).alloc (Nat.le_refl _) ob)
                have p2a := fun ob => keepS p2 ((Below.refl wr.heap.size wr).alloc (Nat.le_refl _) ob)
                rw [hb] at y1
                go_wp2
                go_roundw
                case rel => exact ⟨k + 1, by omega, by go_num, ⟨(HB3.out.alloc HB3.out.size _).alloc (by simp; have := HB3.out.size; omega) _⟩⟩
                case measure => simp [RowKit.intOf]; omega
              · obtain ⟨io, jo, hio, hjo, hnm, hps, hpS, hpl, hy2, hyb, hor⟩ := found_at HOk.out HNl.out hlt hkl (by rw [HX.out]; exact hb)
                rw [hpl] at p0 p1 p2
                rw [HX.out] at hnm hps hpS hor
                obtain ⟨y, hy⟩ : ∃ y, syN os io jo = y := ⟨_, rfl⟩
                have HY := Aside0.mk hy
                rw [hy] at hnm hpS hpl hy2 hyb hor p0 p1 p2
                have HPS := Aside0.mk (And.intro hnm (And.intro hps hpS))
                have hne : (x.f1 == 1) = false := beq_eq_false_iff_ne.mpr hb
                have hxs : x.f0.size ≤ 100 := by have := ((HTm.out.2 i hlt).2 k hkl).1; rw [HX.out] at this; exact this
                have p0a := fun ob => keepS p0 ((Below.refl wr.heap.size wr).alloc (Nat.le_refl _) ob)
                have p1a := fun ob => keepS p1 ((Below.refl wr.heap.size wr).alloc (Nat.le_refl _) ob)
                have p2a := fun ob => keepS p2 ((Below.refl wr.heap.size wr).alloc (Nat.le_refl _) ob)
                clear hy hnm hps hpS hpl
                go_wp2_with fail
                clear p0 p1 p2 p0a p1a p2a x1 r0 r0a y0 y1 y2 y3
                have HW := Aside0.mk ((HB3.out.alloc HB3.out.size (.cells #[.string x.f0, .int .i64 x.f1, .int .i64 x.f2, .int .i64 x.f3] 50)).alloc (by simp; have := HB3.out.size; omega) (.cells #[.int .i64 io, .int .i64 y.f2, .int .i64 y.f3] 56))
                have HXb := Aside0.mk (blk_below (blk_new wr (.cells #[.string x.f0, .int .i64 x.f1, .int .i64 x.f2, .int .i64 x.f3] 50)) ((Below.refl (wr.alloc (.cells #[.string x.f0, .int .i64 x.f1, .int .i64 x.f2, .int .i64 x.f3] 50)).heap.size (wr.alloc (.cells #[.string x.f0, .int .i64 x.f1, .int .i64 x.f2, .int .i64 x.f3] 50))).alloc (Nat.le_refl _) (.cells #[.int .i64 io, .int .i64 y.f2, .int .i64 y.f3] 56)))
                have HPb := Aside0.mk (blk_new (wr.alloc (.cells #[.string x.f0, .int .i64 x.f1, .int .i64 x.f2, .int .i64 x.f3] 50)) (.cells #[.int .i64 io, .int .i64 y.f2, .int .i64 y.f3] 56))
                have hsz : (wr.alloc (.cells #[.string x.f0, .int .i64 x.f1, .int .i64 x.f2, .int .i64 x.f3] 50)).heap.size = wr.heap.size + 1 := by simp
                rw [hsz] at HPb
                clear hsz
                generalize (wr.alloc (.cells #[.string x.f0, .int .i64 x.f1, .int .i64 x.f2, .int .i64 x.f3] 50)).alloc (.cells #[.int .i64 io, .int .i64 y.f2, .int .i64 y.f3] 56) = w4 at HW HXb HPb ⊢
                (with_reducible refine (find_any w4 (some ad) c os x.f0 (HG.out.below (below_step HB.out HW.out)) (Kd.C_below HO.out (below_step HB.out HW.out)) hc HF.out hxs).mono ?_)
                rintro e w5 ⟨r, hr, he, hb⟩
                obtain rfl : r = some ⟨(io : Int), y.f2, y.f3⟩ := by
                  rcases hr with ⟨_, _, h⟩ | ⟨h, _⟩
                  · exact h.trans HPS.out.2.2
                  · exact absurd ⟨HOk.out, HPS.out.2.1⟩ h
                obtain rfl : e = .returned (.tuple #[.agg #[.int .i64 io, .int .i64 y.f2, .int .i64 y.f3], .bool true]) := he
                replace HXb := Aside0.mk (blk_below HXb.out hb)
                replace HPb := Aside0.mk (blk_below HPb.out hb)
                replace HW := Aside0.mk (below_step HW.out hb)
                clear hr hb
                have z0 := (cq3 HPb.out).1
                have z1 := (cq3 HPb.out).2.1
                have z2 := (cq3 HPb.out).2.2
                have z0a := fun ob => keepS z0 ((Below.refl w5.heap.size w5).alloc (Nat.le_refl _) ob)
                have z1a := fun ob => keepS z1 ((Below.refl w5.heap.size w5).alloc (Nat.le_refl _) ob)
                have z2a := fun ob => keepS z2 ((Below.refl w5.heap.size w5).alloc (Nat.le_refl _) ob)
                have a0 : ((io : Int) < 0) = False := by simp
                have a1 : (0 : Int) ≤ (io : Int) := by omega
                have a2 : (io : Int) < os.length := by omega
                have a3 : ((os.length : Int) ≤ (io : Int)) = False := by simp; omega
                go_wp2_with fail
                have b5 := (Below.refl w5.heap.size w5).alloc (Nat.le_refl _) (.cells #[.int .i64 io, .int .i64 y.f2, .int .i64 y.f3] 56)
                replace HXb := Aside0.mk (blk_below HXb.out b5)
                replace HPb := Aside0.mk (blk_below HPb.out b5)
                replace HW := Aside0.mk (below_step HW.out b5)
                clear b5 z0 z1 z2 z0a z1a z2a
                generalize w5.alloc (.cells #[.int .i64 io, .int .i64 y.f2, .int .i64 y.f3] 56) = w6 at HW HXb HPb ⊢
                obtain ⟨ad', A2, c2, A3, c3, e0, x0, x1, l0, C0, l1, C1⟩ := P.at_T48 HO.out io (by omega) (by omega)
                cases e0
                rw [Int.toNat_natCast] at x0 x1
                have hnl2 : (P.rd_T48 os io).f1.length = nsy os io := rfl
                have HSe : Aside0 (SeA w A2 (obN os io).f0) := ⟨C0⟩
                have HSy : Aside0 (SyA w A3 (obN os io).f1) := ⟨C1⟩
                have hl0 : (obN os io).f0.length ≤ c2 := l0
                rw [hnl2] at x1 l1
                have HX0 := Aside0.mk (show w.cell? (ad.add (io * 2)) = some (.slice A2 (obN os io).f0.length c2) from x0)
                have HX1' := Aside0.mk x1
                obtain ⟨ad3, e1, y0, y1, y2, y3⟩ := P.at_T50 HSy.out jo (by omega) (by show (jo : Int) < (nsy os io : Int); omega)
                cases e1
                rw [Int.toNat_natCast] at y0 y1 y2 y3
                have hyS : P.rd_T50 (P.rd_T48 os io).f1 jo = y := HY.out
                have hyS2 : P.rd_T50 (obN os io).f1 jo = y := HY.out
                simp only [hyS, hyS2] at y0 y1 y2 y3
                have HY0 := Aside0.mk y0
                have HY1 := Aside0.mk y1
                have HY2 := Aside0.mk y2
                have HY3 := Aside0.mk y3
                clear C0 C1 l0 x0 x1 y0 y1 y2 y3 hyS hyS2
                refine start_ (n := 13) (S := fun w' => w'.cell? ⟨wr.heap.size + 1, 0, none⟩ = some (.int .i64 io) ∧ w'.cell? (ad.add (io * 2)) = some (.slice A2 (obN os io).f0.length c2) ∧ w'.cell? ⟨(ad.add (io * 2)).block, (ad.add (io * 2)).off + 1, none⟩ = some (.slice (some ad3) (nsy os io) c3) ∧ w'.cell? ⟨wr.heap.size, 0, none⟩ = some (.string x.f0)) (ds := []) #[false, false, false, false, false, false, false, false, false, false, false, false, false] (by kernel_rfl) rfl rfl ⟨(cq3 HPb.out).1, keepS HX0.out (below_step HB.out (below_drew1 HW.out)), keepS HX1'.out (below_step HB.out (below_drew1 HW.out)), (blk_cell HXb.out 0).trans rfl⟩ (fun hHeld => ?_)
                have HXx := Aside0.mk (show w6.drew.heap[wr.heap.size]? = some (.cells #[.string x.f0, .int .i64 x.f1, .int .i64 x.f2, .int .i64 x.f3] 50) from HXb.out)
                have HPx := Aside0.mk (show w6.drew.heap[wr.heap.size + 1]? = some (.cells #[.int .i64 io, .int .i64 y.f2, .int .i64 y.f3] 56) from HPb.out)
                replace HW := Aside0.mk (below_drew1 HW.out)
                clear HXb HPb
                generalize w6.drew = w6d at HXx HPx HW hHeld ⊢
                refine pure_ (i := 0) (N := some 115) (v := ?_) (a' := ?_) #[true, false, false, false, false, false, false, false, false, false, false, false, false] rfl rfl (by kernel_rfl) (fun _ _ _ h => h) (Or.inl ⟨by rfl, ?_⟩) ?_ ?_
                rotate_left
                · intro w'
                  go_simp
                  with_reducible rfl
                rotate_left
                · simp only [Act.put, List.setIfInBounds_toArray, List.set_cons_zero, List.set_cons_succ, i64_w, i32_w]
                  rfl
                refine pure_ (i := 1) (N := some 116) (v := ?_) (a' := ?_) #[true, true, false, false, false, false, false, false, false, false, false, false, false] rfl rfl (by kernel_rfl) (fun _ _ _ h => h) (Or.inl ⟨by rfl, ?_⟩) ?_ ?_
                rotate_left
                · intro w'
                  go_simp
                  with_reducible rfl
                rotate_left
                · simp only [Act.put, List.setIfInBounds_toArray, List.set_cons_zero, List.set_cons_succ, i64_w, i32_w]
                  rfl
                refine take_ (i := 2) (N := some 117) (v := ?_) (a' := ?_) #[true, true, true, false, false, false, false, false, false, false, false, false, false] rfl rfl (by kernel_rfl) (fun _ _ _ h => h) (Or.inl ⟨by rfl, ?_⟩) hHeld ?_ ?_
                rotate_left
                · rintro w' ⟨s0_, s1_, s2_, s3_⟩
                  go_simp
                  with_reducible rfl
                rotate_left
                · simp only [Act.put, List.setIfInBounds_toArray, List.set_cons_zero, List.set_cons_succ, i64_w, i32_w]
                  rfl
                refine pure_ (i := 3) (N := some 118) (v := ?_) (a' := ?_) #[true, true, true, true, false, false, false, false, false, false, false, false, false] rfl rfl (by kernel_rfl) (fun _ _ _ h => h) (Or.inl ⟨by rfl, ?_⟩) ?_ ?_
                rotate_left
                · intro w'
                  go_simp
                  with_reducible rfl
                rotate_left
                · simp only [Act.put, List.setIfInBounds_toArray, List.set_cons_zero, List.set_cons_succ, i64_w, i32_w]
                  rfl
                refine take_ (i := 4) (N := some 119) (v := ?_) (a' := ?_) #[true, true, true, true, true, false, false, false, false, false, false, false, false] rfl rfl (by kernel_rfl) (fun _ _ _ h => h) (Or.inl ⟨by rfl, ?_⟩) hHeld ?_ ?_
                rotate_left
                · rintro w' ⟨s0_, s1_, s2_, s3_⟩
                  go_simp
                  with_reducible rfl
                rotate_left
                · simp only [Act.put, List.setIfInBounds_toArray, List.set_cons_zero, List.set_cons_succ, i64_w, i32_w]
                  rfl
                refine pure_ (i := 5) (N := some 120) (v := ?_) (a' := ?_) #[true, true, true, true, true, true, false, false, false, false, false, false, false] rfl rfl (by kernel_rfl) (fun _ _ _ h => h) (Or.inl ⟨by rfl, ?_⟩) ?_ ?_
                rotate_left
                · intro w'
                  go_simp
                  with_reducible rfl
                rotate_left
                · simp only [Act.put, List.setIfInBounds_toArray, List.set_cons_zero, List.set_cons_succ, i64_w, i32_w]
                  rfl
                refine take_ (i := 6) (N := some 121) (v := ?_) (a' := ?_) #[true, true, true, true, true, true, true, false, false, false, false, false, false] rfl rfl (by kernel_rfl) (fun _ _ _ h => h) (Or.inl ⟨by rfl, ?_⟩) hHeld ?_ ?_
                rotate_left
                · rintro w' ⟨s0_, s1_, s2_, s3_⟩
                  go_simp
                  with_reducible rfl
                rotate_left
                · simp only [Act.put, List.setIfInBounds_toArray, List.set_cons_zero, List.set_cons_succ, i64_w, i32_w]
                  rfl
                refine one_ (i := 7) (N := some 122) #[true, true, true, true, true, true, true, true, false, false, false, false, false] rfl rfl (by kernel_rfl) (by decide) (fun K hK => ?_)
                refine goes_ Tryd.func25 (by kernel_rfl) rfl #[.agg #[.slice A2 (obN os io).f0.length c2, .slice (some ad3) (nsy os io) c3], .string x.f0] (by kernel_rfl) rfl rfl (by kernel_rfl) ?_
                refine (findO_any _ A2 (some ad3) c2 c3 (obN os io) x.f0 (HG.out.below (below_step HB.out HW.out)) (Kd.C_below HSe.out (below_step HB.out HW.out)) hl0 (Kd.C_below HSy.out (below_step HB.out HW.out)) l1 (HF.out.2 io hio)).mono ?_
                rintro e w7 ⟨r2, hr2, rfl, hb⟩
                obtain rfl : r2 = some jo := findO_at (HOk.out.2 io hio) hjo (by show 0 < (syN os io jo).f0.size; rw [HY.out, HPS.out.1]; exact HPS.out.2.1) (by show findO (obN os io) (syN os io jo).f0 r2; rw [HY.out, HPS.out.1]; exact hr2)
                replace HXx := Aside0.mk (blk_below HXx.out hb)
                replace HPx := Aside0.mk (blk_below HPx.out hb)
                replace HW := Aside0.mk (below_step HW.out hb)
                clear hb hr2
                refine ⟨_, rfl, ?_⟩
                refine hK.out _ _ ⟨(cq3 HPx.out).1, keepS HX0.out (below_step HB.out HW.out), keepS HX1'.out (below_step HB.out HW.out), (blk_cell HXx.out 0).trans rfl⟩ (fun hHeld => ?_)
                clear hK K
                refine norm_ (a' := ?_) ?_ ?_
                rotate_left
                · show Act.put _ (some 122) _ = _
                  simp only [Act.put, List.setIfInBounds_toArray, List.set_cons_zero, List.set_cons_succ, i64_w, i32_w]
                  rfl
                refine pure_ (i := 8) (N := some 114) (v := ?_) (a' := ?_) #[true, true, true, true, true, true, true, true, true, false, false, false, false] rfl rfl (by kernel_rfl) (fun _ _ _ h => h) (Or.inl ⟨by rfl, ?_⟩) ?_ ?_
                rotate_left
                · intro w'
                  go_simp
                  with_reducible rfl
                rotate_left
                · simp only [Act.put, List.setIfInBounds_toArray, List.set_cons_zero, List.set_cons_succ, i64_w, i32_w]
                  rfl
                refine pure_ (i := 9) (N := some 123) (v := ?_) (a' := ?_) #[true, true, true, true, true, true, true, true, true, true, false, false, false] rfl rfl (by kernel_rfl) (fun _ _ _ h => h) (Or.inl ⟨by rfl, ?_⟩) ?_ ?_
                rotate_left
                · intro w'
                  go_simp
                  with_reducible rfl
                rotate_left
                · simp only [Act.put, List.setIfInBounds_toArray, List.set_cons_zero, List.set_cons_succ, i64_w, i32_w]
                  rfl
                refine pure_ (i := 10) (N := some 124) (v := ?_) (a' := ?_) #[true, true, true, true, true, true, true, true, true, true, true, false, false] rfl rfl (by kernel_rfl) (fun _ _ _ h => h) (Or.inl ⟨by rfl, ?_⟩) ?_ ?_
                rotate_left
                · intro w'
                  go_simp
                  with_reducible rfl
                rotate_left
                · simp only [Act.put, List.setIfInBounds_toArray, List.set_cons_zero, List.set_cons_succ, i64_w, i32_w]
                  rfl
                refine pure_ (i := 11) (N := some 11) (v := ?_) (a' := ?_) #[true, true, true, true, true, true, true, true, true, true, true, true, false] rfl rfl (by kernel_rfl) (fun _ _ _ h => h) (Or.inl ⟨by rfl, ?_⟩) ?_ ?_
                rotate_left
                · intro w'
                  go_simp
                  with_reducible rfl
                rotate_left
                · simp only [Act.put, List.setIfInBounds_toArray, List.set_cons_zero, List.set_cons_succ, i64_w, i32_w]
                  rfl
                refine pure_ (i := 12) (N := some 12) (v := ?_) (a' := ?_) #[true, true, true, true, true, true, true, true, true, true, true, true, true] rfl rfl (by kernel_rfl) (fun _ _ _ h => h) (Or.inl ⟨by rfl, ?_⟩) ?_ ?_
                rotate_left
                · intro w'
                  go_simp
                  with_reducible rfl
                rotate_left
                · simp only [Act.put, List.setIfInBounds_toArray, List.set_cons_zero, List.set_cons_succ, i64_w, i32_w]
                  rfl
                refine done_ (by kernel_rfl) ?_
                have q0 := (blk_cell HXx.out 0).trans rfl
                have q1 := (blk_cell HXx.out 1).trans rfl
                have q2 := (blk_cell HXx.out 2).trans rfl
                have z0 := (cq3 HPx.out).1
                have z1 := (cq3 HPx.out).2.1
                have z2 := (cq3 HPx.out).2.2
                have x_0 := keepS HX0.out (below_step HB.out HW.out)
                have x_1 := keepS HX1'.out (below_step HB.out HW.out)
                have y0 := keepS HY0.out (below_step HB.out HW.out)
                have y1 := keepS HY1.out (below_step HB.out HW.out)
                have y2 := keepS HY2.out (below_step HB.out HW.out)
                have y3 := keepS HY3.out (below_step HB.out HW.out)
                have q1a := fun ob => keepS q1 ((Below.refl w7.heap.size w7).alloc (Nat.le_refl _) ob)
                have q2a := fun ob => keepS q2 ((Below.refl w7.heap.size w7).alloc (Nat.le_refl _) ob)
                have z1a := fun ob => keepS z1 ((Below.refl w7.heap.size w7).alloc (Nat.le_refl _) ob)
                have z2a := fun ob => keepS z2 ((Below.refl w7.heap.size w7).alloc (Nat.le_refl _) ob)
                have a4 : ((jo : Int) < 0) = False := by simp
                have a5 : (0 : Int) ≤ (jo : Int) := by omega
                have a6 : (jo : Int) < (nsy os io : Int) := by omega
                have a7 : ((nsy os io : Int) ≤ (jo : Int)) = False := by simp; omega
                have a8 : (y.f1 < 2) = False := by simp; omega
                have a9 : (y.f2 < 0) = False := by simp; omega
                rcases hor with hor | ⟨hor1, hor2⟩
                · have c1 : (x.f1 < y.f1) = False := by simp; omega
                  go_wp2
                  go_roundw
                  case rel => exact ⟨k + 1, by omega, by go_num, ⟨HW.out.alloc HW.out.size _⟩⟩
                  case measure => simp [RowKit.intOf]; omega
                · have c1 : (x.f1 < y.f1) = True := by simp; omega
                  have c2 : (0 ≤ x.f2) = False := by simp; omega
                  go_wp2
                  go_roundw
                  case rel => exact ⟨k + 1, by omega, by go_num, ⟨HW.out.alloc HW.out.size _⟩⟩
                  case measure => simp [RowKit.intOf]; omega
            · obtain rfl : k = nsy os i := by omega
              go_wp2
              go_roundw
              case rel => exact ⟨i + 1, by omega, by go_num, HB3⟩
              case measure => simp [RowKit.intOf]; omega
        · obtain rfl : i = os.length := by omega
          go_wp2_with fail
          (with_reducible refine (resolved_any _ (HG.out.below (below_step HB.out HB3.out))).mono ?_)
          rintro e w5 ⟨rfl, hb⟩
          replace HB := Aside0.mk (below_step (below_step HB.out HB3.out) hb)
          clear hb
          go_wp2
          go_ret
          exact ⟨rfl, HB.out⟩
end Go.Proofs.YtngmipfodjgmmaaDoor.Pure
