/- The law 'SymFault' walked: it returns true. -/
import Derived.Test.YtngmipfodjgmmaaDoorSf67
import Derived.Deep.QuietTactic
import Derived.BigQuiet
namespace Go.Proofs.YtngmipfodjgmmaaDoor.Pure
open Go Go.RowKit Go.Lib Go.Shelf Go.Maps Go.Proofs.YtngmipfodjgmmaaDoorW.PrintWords Go.Proofs.YtngmipfodjgmmaaDoorW.PrintLast Go.Proofs.YtngmipfodjgmmaaDoorW.PrintMore
open P (Glob)
set_option linter.unusedVariables false
set_option linter.unusedSimpArgs false
theorem bytes_ext {a b : ByteArray} (h : a.toList = b.toList) : a = b := by
  rw [ByteArray.toList_eq, ByteArray.toList_eq] at h
  exact ByteArray.ext (Array.ext' h)
theorem cel4 {w : World} {g t : Nat} {v0 v1 v2 v3 : Value} (h : w.heap[g]? = some (.cells #[v0, v1, v2, v3] t (0, 0))) : w.cell? ⟨g, 0, none⟩ = some v0 ∧ w.cell? ⟨g, 1, none⟩ = some v1 ∧ w.cell? ⟨g, 2, none⟩ = some v2 ∧ w.cell? ⟨g, 3, none⟩ = some v3 :=
  ⟨(blk_cell h 0).trans rfl, (blk_cell h 1).trans rfl, (blk_cell h 2).trans rfl, (blk_cell h 3).trans rfl⟩
set_option maxRecDepth 100000 in
set_option maxHeartbeats 8000000 in
theorem symfault_any (w : World) (A : Option Addr) (os : List Ob) (c : Nat) (hG : Glob w) (hos : OA w A os) (hc : os.length ≤ c) :
    Calls Tryd.prog 6 #[.slice A os.length c] w fun e w' => e = .returned (.bool true) ∧ Below w.heap.size w w' := by
  obtain ⟨b, hb, hfew⟩ := bigL_calls os w A c hos hc
  have HBig := Aside0.mk hb
  have HG := Aside0.mk hG
  have HO := Aside0.mk hos
  clear hb hG hos
  cases b with
  | true =>
    go_enter Tryd.func6, Tryd.ntmps6
    go_wp2_with (go_at_call 18; (with_reducible refine HBig.out.mono ?_); rintro e w1 ⟨rfl, hb⟩; have HB := Aside0.mk hb; clear hb)
    go_ret
    exact ⟨rfl, HB.out⟩
  | false =>
    have HF := Aside0.mk (hfew rfl)
    clear hfew
    have hol := HF.out.1
    obtain ⟨m, hm⟩ := chk_any os
    have HM := Aside0.mk hm
    go_enter Tryd.func6, Tryd.ntmps6
    go_wp2_with (go_at_call 18; (with_reducible refine HBig.out.mono ?_); rintro e w1 ⟨rfl, hb⟩; have HB := Aside0.mk hb; clear hb)
    (with_reducible refine (resolve_any _ A c os (HG.out.below HB.out) (Kd.C_below HO.out HB.out) hc HF.out).mono ?_)
    rintro e w2 ⟨hb, hr⟩
    replace HB := Aside0.mk (below_step HB.out hb)
    clear hb
    have HRs : Aside0 ((∃ c' o k, Flt os c' o k ∧ e = .returned (.tuple #[.slice none 0 0, .agg #[.int .i64 c', .int .i64 o, .int .i64 k]])) ∨ (AllOkO os ∧ NoTw os os.length 0 ∧ NoLost os os.length 0 ∧ ∃ al, e = .returned (.tuple #[.slice (some ⟨al, 0, none⟩) os.length os.length, .agg #[.int .i64 0, .int .i64 0, .int .i64 0]]))) := ⟨by
      rcases hr with h | ⟨h1, h2, h3, al, vs, rfl, _⟩
      · exact .inl h
      · exact .inr ⟨h1, h2, h3, al, rfl⟩⟩
    clear hr
    by_cases hm0 : m = 0
    · subst hm0
      have HOk := Aside0.mk (HM.out.ok.1 rfl)
      rcases HRs.out with ⟨c', o, k, hf, rfl⟩ | ⟨_, _, _, al, rfl⟩
      · rcases hf with ⟨h, _⟩ | ⟨_, o1, k1, hat, rfl, rfl, rfl⟩ | ⟨_, _, o1, k1, hat, rfl, rfl, rfl⟩
        · exact absurd HOk.out h
        · have hfin := twice_two HOk.out hat
          have HFin := Aside0.mk hfin
          have ho1 := hat.1
          have hk1 := hat.2.1
          clear hfin hat HRs
          have HFd := Aside0.mk (blk_new w2 (.cells #[.int .i64 7, .int .i64 o1, .int .i64 k1] 41))
          have b2 := (Below.refl w2.heap.size w2).alloc (Nat.le_refl _) (.cells #[.int .i64 7, .int .i64 o1, .int .i64 k1] 41)
          have HBd := Aside0.mk (below_step HB.out b2)
          clear b2
          go_wp2_with fail
          (with_reducible refine (check_any _ A c os (HG.out.below HBd.out) (Kd.C_below HO.out HBd.out) hc HF.out).mono ?_)
          rintro e w3 ⟨m2, rfl, hm2, hb⟩
          obtain rfl := HM.out.one hm2
          replace HFd := Aside0.mk (blk_below HFd.out hb)
          replace HBd := Aside0.mk (below_step HBd.out hb)
          clear hb hm2
          obtain ⟨z0, z1, z2⟩ := cq3 HFd.out
          obtain ⟨ad, A0, c0, A1, c1, e0, x0, x1, l0, C0, l1, C1⟩ := P.at_T48 HO.out o1 (by omega) (by omega)
          subst e0
          rw [Int.toNat_natCast] at x0 x1
          have hnl : (P.rd_T48 os o1).f1.length = nsy os o1 := rfl
          have HSy : Aside0 (SyA w A1 (obN os o1).f1) := ⟨C1⟩
          rw [hnl] at x1 l1
          obtain ⟨ad1, e1, y0, y1, y2, y3⟩ := P.at_T50 HSy.out k1 (by omega) (by show (k1 : Int) < (nsy os o1 : Int); omega)
          subst e1
          rw [Int.toNat_natCast] at y0 y1 y2 y3
          obtain ⟨x, hx⟩ : ∃ x, syN os o1 k1 = x := ⟨_, rfl⟩
          have HX := Aside0.mk hx
          unfold syN at hx
          rw [hx] at y0 y1 y2 y3
          clear hx
          replace x1 := keepS x1 HBd.out
          replace y0 := keepS y0 HBd.out
          replace y1 := keepS y1 HBd.out
          replace y2 := keepS y2 HBd.out
          replace y3 := keepS y3 HBd.out
          have a0 : ((o1 : Int) < 0) = False := by simp
          have a1 : (0 : Int) ≤ (o1 : Int) := by omega
          have a2 : (o1 : Int) < os.length := by omega
          have a3 : ((os.length : Int) ≤ (o1 : Int)) = False := by simp; omega
          have a4 : ((k1 : Int) < 0) = False := by simp
          have a5 : (0 : Int) ≤ (k1 : Int) := by omega
          have a6 : (k1 : Int) < (nsy os o1 : Int) := by omega
          have a7 : ((nsy os o1 : Int) ≤ (k1 : Int)) = False := by simp; omega
          clear C0 C1 l0 x0
          go_wp2
          go_quiet (fail)
          go_wp2_with fail
          have HBq := Aside0.mk (pw_below_drewN (Below.refl w3.heap.size w3) nq)
          generalize w3.drewN nq = w4 at HBq ⊢
          replace z0 := keepS z0 HBq.out
          replace z1 := keepS z1 HBq.out
          replace z2 := keepS z2 HBq.out
          replace x1 := keepS x1 HBq.out
          replace y0 := keepS y0 HBq.out
          replace y1 := keepS y1 HBq.out
          replace y2 := keepS y2 HBq.out
          replace y3 := keepS y3 HBq.out
          replace HFd := Aside0.mk (blk_below HFd.out HBq.out)
          replace HBd := Aside0.mk (below_step HBd.out HBq.out)
          clear HBq
          refine start_ (n := 12) (S := fun w' => w'.cell? ⟨w2.heap.size, 1, none⟩ = some (.int .i64 (o1 : Int)) ∧ w'.cell? ⟨w2.heap.size, 2, none⟩ = some (.int .i64 (k1 : Int)) ∧ w'.cell? ⟨(ad.add (o1 * 2)).block, (ad.add (o1 * 2)).off + 1, none⟩ = some (.slice (some ad1) (nsy os o1) c1) ∧ w'.cell? (ad1.add (k1 * 4)) = some (.string x.f0) ∧ w'.cell? ⟨(ad1.add (k1 * 4)).block, (ad1.add (k1 * 4)).off + 1, none⟩ = some (.int .i64 x.f1) ∧ w'.cell? ⟨(ad1.add (k1 * 4)).block, (ad1.add (k1 * 4)).off + 2, none⟩ = some (.int .i64 x.f2) ∧ w'.cell? ⟨(ad1.add (k1 * 4)).block, (ad1.add (k1 * 4)).off + 3, none⟩ = some (.int .i64 x.f3)) (ds := [11]) #[false, false, false, false, false, false, false, false, false, false, false, false] (by kernel_rfl) rfl rfl ⟨z1, z2, x1, y0, y1, y2, y3⟩ (fun hHeld => ?_)
          refine pure_ (i := 0) (N := some 67) (v := ?_) (a' := ?_) #[true, false, false, false, false, false, false, false, false, false, false, false] rfl rfl (by kernel_rfl) (fun _ _ _ h => h) (Or.inl ⟨by rfl, ?_⟩) ?_ ?_
          rotate_left
          · intro w'
            go_simp
            with_reducible rfl
          rotate_left
          · simp only [Act.put, List.setIfInBounds_toArray, List.set_cons_zero, List.set_cons_succ, i64_w, i32_w]
            rfl
          refine pure_ (i := 1) (N := some 68) (v := ?_) (a' := ?_) #[true, true, false, false, false, false, false, false, false, false, false, false] rfl rfl (by kernel_rfl) (fun _ _ _ h => h) (Or.inl ⟨by rfl, ?_⟩) ?_ ?_
          rotate_left
          · intro w'
            go_simp
            with_reducible rfl
          rotate_left
          · simp only [Act.put, List.setIfInBounds_toArray, List.set_cons_zero, List.set_cons_succ, i64_w, i32_w]
            rfl
          refine take_ (i := 2) (N := some 69) (v := ?_) (a' := ?_) #[true, true, true, false, false, false, false, false, false, false, false, false] rfl rfl (by kernel_rfl) (fun _ _ _ h => h) (Or.inl ⟨by rfl, ?_⟩) hHeld ?_ ?_
          rotate_left
          · rintro w' ⟨s0_, s1_, s2_, s3_, s4_, s5_, s6_⟩
            go_simp
            with_reducible rfl
          rotate_left
          · simp only [Act.put, List.setIfInBounds_toArray, List.set_cons_zero, List.set_cons_succ, i64_w, i32_w]
            rfl
          refine pure_ (i := 3) (N := some 70) (v := ?_) (a' := ?_) #[true, true, true, true, false, false, false, false, false, false, false, false] rfl rfl (by kernel_rfl) (fun _ _ _ h => h) (Or.inl ⟨by rfl, ?_⟩) ?_ ?_
          rotate_left
          · intro w'
            go_simp
            with_reducible rfl
          rotate_left
          · simp only [Act.put, List.setIfInBounds_toArray, List.set_cons_zero, List.set_cons_succ, i64_w, i32_w]
            rfl
          refine pure_ (i := 4) (N := some 71) (v := ?_) (a' := ?_) #[true, true, true, true, true, false, false, false, false, false, false, false] rfl rfl (by kernel_rfl) (fun _ _ _ h => h) (Or.inl ⟨by rfl, ?_⟩) ?_ ?_
          rotate_left
          · intro w'
            go_simp
            with_reducible rfl
          rotate_left
          · simp only [Act.put, List.setIfInBounds_toArray, List.set_cons_zero, List.set_cons_succ, i64_w, i32_w]
            rfl
          refine take_ (i := 5) (N := some 72) (v := ?_) (a' := ?_) #[true, true, true, true, true, true, false, false, false, false, false, false] rfl rfl (by kernel_rfl) (fun _ _ _ h => h) (Or.inl ⟨by rfl, ?_⟩) hHeld ?_ ?_
          rotate_left
          · rintro w' ⟨s0_, s1_, s2_, s3_, s4_, s5_, s6_⟩
            go_simp
            with_reducible rfl
          rotate_left
          · simp only [Act.put, List.setIfInBounds_toArray, List.set_cons_zero, List.set_cons_succ, i64_w, i32_w]
            rfl
          refine pure_ (i := 6) (N := some 73) (v := ?_) (a' := ?_) #[true, true, true, true, true, true, true, false, false, false, false, false] rfl rfl (by kernel_rfl) (fun _ _ _ h => h) (Or.inl ⟨by rfl, ?_⟩) ?_ ?_
          rotate_left
          · intro w'
            go_simp
            with_reducible rfl
          rotate_left
          · simp only [Act.put, List.setIfInBounds_toArray, List.set_cons_zero, List.set_cons_succ, i64_w, i32_w]
            rfl
          refine take_ (i := 7) (N := some 74) (v := ?_) (a' := ?_) #[true, true, true, true, true, true, true, true, false, false, false, false] rfl rfl (by kernel_rfl) (fun _ _ _ h => h) (Or.inl ⟨by rfl, ?_⟩) hHeld ?_ ?_
          rotate_left
          · rintro w' ⟨s0_, s1_, s2_, s3_, s4_, s5_, s6_⟩
            go_simp
            with_reducible rfl
          rotate_left
          · simp only [Act.put, List.setIfInBounds_toArray, List.set_cons_zero, List.set_cons_succ, i64_w, i32_w]
            rfl
          refine pure_ (i := 8) (N := some 75) (v := ?_) (a' := ?_) #[true, true, true, true, true, true, true, true, true, false, false, false] rfl rfl (by kernel_rfl) (fun _ _ _ h => h) (Or.inl ⟨by rfl, ?_⟩) ?_ ?_
          rotate_left
          · intro w'
            go_simp
            with_reducible rfl
          rotate_left
          · simp only [Act.put, List.setIfInBounds_toArray, List.set_cons_zero, List.set_cons_succ, i64_w, i32_w]
            rfl
          refine take_ (i := 9) (N := some 76) (v := ?_) (a' := ?_) #[true, true, true, true, true, true, true, true, true, true, false, false] rfl rfl (by kernel_rfl) (fun _ _ _ h => h) (Or.inl ⟨by rfl, ?_⟩) hHeld ?_ ?_
          rotate_left
          · rintro w' ⟨s0_, s1_, s2_, s3_, s4_, s5_, s6_⟩
            go_simp
            with_reducible rfl
          rotate_left
          · simp only [Act.put, List.setIfInBounds_toArray, List.set_cons_zero, List.set_cons_succ, i64_w, i32_w]
            rfl
          refine one_ (i := 10) (N := some 5) #[true, true, true, true, true, true, true, true, true, true, true, false] rfl rfl (by kernel_rfl) (by decide) (fun K hK => ?_)
          refine value_ (w1 := ?_) (v := ?_) (by rfl) rfl ?_ ?_
          rotate_left 2
          · go_simp
            constructor
            · rfl
            · rfl
          refine hK.out _ _ ⟨keepS z1 ((below_drew1 (Below.refl w4.heap.size w4)).alloc (Nat.le_refl _) _), keepS z2 ((below_drew1 (Below.refl w4.heap.size w4)).alloc (Nat.le_refl _) _), keepS x1 ((below_drew1 (Below.refl w4.heap.size w4)).alloc (Nat.le_refl _) _), keepS y0 ((below_drew1 (Below.refl w4.heap.size w4)).alloc (Nat.le_refl _) _), keepS y1 ((below_drew1 (Below.refl w4.heap.size w4)).alloc (Nat.le_refl _) _), keepS y2 ((below_drew1 (Below.refl w4.heap.size w4)).alloc (Nat.le_refl _) _), keepS y3 ((below_drew1 (Below.refl w4.heap.size w4)).alloc (Nat.le_refl _) _)⟩ (fun hHeld => ?_)
          clear hK K
          refine norm_ (a' := ?_) ?_ ?_
          rotate_left
          · show Act.put _ (some 5) _ = _
            simp only [Act.put, List.setIfInBounds_toArray, List.set_cons_zero, List.set_cons_succ, i64_w, i32_w]
            rfl
          refine last_ (i := 11) (N := none) #[true, true, true, true, true, true, true, true, true, true, true, true] rfl rfl (by kernel_rfl) (by decide) (fun K hK => ?_)
          refine skip_ (w1 := ?_) (by rfl) rfl ?_ ?_
          rotate_left
          · go_simp
            rfl
          refine hK.out _ _ ?_
          clear hK K
          refine done_ (by kernel_rfl) ?_
          go_wp2_with fail
          have HXb := Aside0.mk (show ((w4.alloc (.cells #[.string x.f0, .int .i64 x.f1, .int .i64 x.f2, .int .i64 x.f3] 50)).drew).heap[w4.heap.size]? = some (.cells #[.string x.f0, .int .i64 x.f1, .int .i64 x.f2, .int .i64 x.f3] 50 (0, 0)) from blk_new w4 _)
          replace HFd := Aside0.mk (show ((w4.alloc (.cells #[.string x.f0, .int .i64 x.f1, .int .i64 x.f2, .int .i64 x.f3] 50)).drew).heap[w2.heap.size]? = some (.cells #[.int .i64 7, .int .i64 (o1 : Int), .int .i64 (k1 : Int)] 41 (0, 0)) from blk_alloc HFd.out _)
          replace HBd := Aside0.mk (below_drew1 (HBd.out.alloc HBd.out.size (.cells #[.string x.f0, .int .i64 x.f1, .int .i64 x.f2, .int .i64 x.f3] 50)))
          generalize (w4.alloc (.cells #[.string x.f0, .int .i64 x.f1, .int .i64 x.f2, .int .i64 x.f3] 50)).drew = w5 at HXb HFd HBd hHeld ⊢
          clear z0 z1 z2 x1 y0 y1 y2 y3 a0 a1 a2 a3 a4 a5 a6 a7 hHeld
          have HTm := Aside0.mk (tame_of HOk.out HF.out)
          go_loopw [6, 7, 8] (fun v6 v7 v wr => ∃ i : Nat, i ≤ os.length ∧ v = .int .i64 i ∧ v6 = .int .i64 (cnt strongQ (preS os i 0) x.f0 : Nat) ∧ v7 = .int .i64 (cnt weakQ (preS os i 0) x.f0 : Nat) ∧ Aside0 (wr.heap[w4.heap.size]? = some (.cells #[.string x.f0, .int .i64 x.f1, .int .i64 x.f2, .int .i64 x.f3] 50 (0, 0))) ∧ Aside0 (wr.heap[w2.heap.size]? = some (.cells #[.int .i64 7, .int .i64 (o1 : Int), .int .i64 (k1 : Int)] 41 (0, 0))) ∧ Aside0 (Below w.heap.size w wr)) (fun _ _ v _ => os.length - (RowKit.intOf v).toNat)
          case atStart => exact ⟨0, Nat.zero_le _, rfl, rfl, rfl, HXb, HFd, HBd⟩
          case round =>
            clear HXb HFd HBd
            obtain ⟨i, hi, rfl, rfl, rfl, HXb, HFd, HBd⟩ := hrel
            by_cases hlt : i < os.length
            · obtain ⟨_, A0, c0, A1, c2, e0, x0, x1, l0, C0, l1, C1⟩ := P.at_T48 HO.out i (by omega) (by omega)
              cases e0
              rw [Int.toNat_natCast] at x0 x1
              have hnl : (P.rd_T48 os i).f1.length = nsy os i := rfl
              have HSz : Aside0 (SyA w A1 (obN os i).f1) := ⟨C1⟩
              rw [hnl] at x1 l1
              have HX1 := Aside0.mk x1
              have hi0 : (0 : Int) ≤ (i : Int) := by omega
              have hi1 : (i : Int) < os.length := by omega
              clear C0 C1 l0 x0 x1
              go_wp2
              go_loopw [6, 7, 9] (fun v6 v7 v wr => ∃ k : Nat, k ≤ nsy os i ∧ v = .int .i64 k ∧ v6 = .int .i64 (cnt strongQ (preS os i k) x.f0 : Nat) ∧ v7 = .int .i64 (cnt weakQ (preS os i k) x.f0 : Nat) ∧ Aside0 (wr.heap[w4.heap.size]? = some (.cells #[.string x.f0, .int .i64 x.f1, .int .i64 x.f2, .int .i64 x.f3] 50 (0, 0))) ∧ Aside0 (wr.heap[w2.heap.size]? = some (.cells #[.int .i64 7, .int .i64 (o1 : Int), .int .i64 (k1 : Int)] 41 (0, 0))) ∧ Aside0 (Below w.heap.size w wr)) (fun _ _ v _ => nsy os i - (RowKit.intOf v).toNat)
              case atStart => exact ⟨0, Nat.zero_le _, rfl, rfl, rfl, HXb, HFd, HBd⟩
              case round =>
                clear HXb HFd HBd
                obtain ⟨k, hk, rfl, rfl, rfl, HXb, HFd, HBd⟩ := hrel
                have x1 := keepS HX1.out HBd.out
                by_cases hkl : k < nsy os i
                · obtain ⟨ad2, e1, y0, y1, y2, y3⟩ := P.at_T50 HSz.out k (by omega) (by show (k : Int) < (nsy os i : Int); omega)
                  subst e1
                  rw [Int.toNat_natCast] at y0 y1 y2 y3
                  obtain ⟨y, hy⟩ : ∃ y, syN os i k = y := ⟨_, rfl⟩
                  have HY := Aside0.mk hy
                  unfold syN at hy
                  rw [hy] at y0 y1 y2 y3
                  clear hy
                  replace y0 := keepS y0 HBd.out
                  replace y1 := keepS y1 HBd.out
                  replace y2 := keepS y2 HBd.out
                  replace y3 := keepS y3 HBd.out
                  have hbd : y.f1 = 1 ∨ y.f1 = 2 ∨ y.f1 = 3 := by have := ((HTm.out.2 i hlt).2 k hkl).2; rw [HY.out] at this; exact this
                  have hk0 : (0 : Int) ≤ (k : Int) := by omega
                  have hk1 : (k : Int) < (nsy os i : Int) := by omega
                  have hml := (HTm.out.2 i hlt).1
                  have hx0 := fun ob => (cel4 (blk_alloc HXb.out ob)).1
                  have n6 : cnt strongQ (preS os i k) x.f0 ≤ 100000 := Nat.le_trans (cnt_le _ _ _ _ _) (HTm.out.pre_le hlt hk)
                  have n7 : cnt weakQ (preS os i k) x.f0 ≤ 100000 := Nat.le_trans (cnt_le _ _ _ _ _) (HTm.out.pre_le hlt hk)
                  by_cases he : y.f0 = x.f0
                  · have nE : (y.f0.toList == x.f0.toList) = true := by rw [he]; simp
                    by_cases hs : y.f2 < 0
                    · have s1 : ((0 : Int) ≤ y.f2) = False := by simp; omega
                      have s2 : decide ((0 : Int) ≤ y.f2) = false := decide_eq_false (by omega)
                      have e6 : cnt strongQ (preS os i (k + 1)) x.f0 = cnt strongQ (preS os i k) x.f0 := by rw [cnt_succ, HY.out, if_neg (fun h => absurd (strong_iff.1 h.1).2 (by omega))]; rfl
                      have e7 : cnt weakQ (preS os i (k + 1)) x.f0 = cnt weakQ (preS os i k) x.f0 := by rw [cnt_succ, HY.out, if_neg (fun h => absurd (weak_iff.1 h.1).2 (by omega))]; rfl
                      go_wp2
                      go_roundw
                      case rel => exact ⟨k + 1, by omega, by go_num, by rw [e6]; try (first | rfl | go_num), by rw [e7]; try (first | rfl | go_num), ⟨blk_alloc HXb.out _⟩, ⟨blk_alloc HFd.out _⟩, ⟨HBd.out.alloc HBd.out.size _⟩⟩
                      case measure => simp [RowKit.intOf]; omega
                    · have s1 : ((0 : Int) ≤ y.f2) = True := by simp; omega
                      have s2 : decide ((0 : Int) ≤ y.f2) = true := decide_eq_true (by omega)
                      rcases hbd with hb | hb | hb
                      · rw [hb] at y1
                        have e6 : cnt strongQ (preS os i (k + 1)) x.f0 = cnt strongQ (preS os i k) x.f0 := by rw [cnt_succ, HY.out, if_neg (fun h => absurd (strong_iff.1 h.1).1 (by omega))]; rfl
                        have e7 : cnt weakQ (preS os i (k + 1)) x.f0 = cnt weakQ (preS os i k) x.f0 := by rw [cnt_succ, HY.out, if_neg (fun h => absurd (weak_iff.1 h.1).1 (by omega))]; rfl
                        go_wp2
                        go_roundw
                        case rel => exact ⟨k + 1, by omega, by go_num, by rw [e6]; try (first | rfl | go_num), by rw [e7]; try (first | rfl | go_num), ⟨blk_alloc HXb.out _⟩, ⟨blk_alloc HFd.out _⟩, ⟨HBd.out.alloc HBd.out.size _⟩⟩
                        case measure => simp [RowKit.intOf]; omega
                      · rw [hb] at y1
                        have e6 : cnt strongQ (preS os i (k + 1)) x.f0 = cnt strongQ (preS os i k) x.f0 + 1 := by rw [cnt_succ, HY.out, if_pos ⟨strong_iff.2 ⟨hb, by omega⟩, he⟩]
                        have e7 : cnt weakQ (preS os i (k + 1)) x.f0 = cnt weakQ (preS os i k) x.f0 := by rw [cnt_succ, HY.out, if_neg (fun h => absurd (weak_iff.1 h.1).1 (by omega))]; rfl
                        go_wp2
                        go_roundw
                        case rel => exact ⟨k + 1, by omega, by go_num, by rw [e6]; try (first | rfl | go_num), by rw [e7]; try (first | rfl | go_num), ⟨blk_alloc HXb.out _⟩, ⟨blk_alloc HFd.out _⟩, ⟨HBd.out.alloc HBd.out.size _⟩⟩
                        case measure => simp [RowKit.intOf]; omega
                      · rw [hb] at y1
                        have e6 : cnt strongQ (preS os i (k + 1)) x.f0 = cnt strongQ (preS os i k) x.f0 := by rw [cnt_succ, HY.out, if_neg (fun h => absurd (strong_iff.1 h.1).1 (by omega))]; rfl
                        have e7 : cnt weakQ (preS os i (k + 1)) x.f0 = cnt weakQ (preS os i k) x.f0 + 1 := by rw [cnt_succ, HY.out, if_pos ⟨weak_iff.2 ⟨hb, by omega⟩, he⟩]
                        go_wp2
                        go_roundw
                        case rel => exact ⟨k + 1, by omega, by go_num, by rw [e6]; try (first | rfl | go_num), by rw [e7]; try (first | rfl | go_num), ⟨blk_alloc HXb.out _⟩, ⟨blk_alloc HFd.out _⟩, ⟨HBd.out.alloc HBd.out.size _⟩⟩
                        case measure => simp [RowKit.intOf]; omega
                  · have nE : (y.f0.toList == x.f0.toList) = false := beq_eq_false_iff_ne.mpr (fun h => he (bytes_ext h))
                    have e6 : cnt strongQ (preS os i (k + 1)) x.f0 = cnt strongQ (preS os i k) x.f0 := by rw [cnt_succ, HY.out, if_neg (fun h => he h.2)]; rfl
                    have e7 : cnt weakQ (preS os i (k + 1)) x.f0 = cnt weakQ (preS os i k) x.f0 := by rw [cnt_succ, HY.out, if_neg (fun h => he h.2)]; rfl
                    go_wp2
                    go_roundw
                    case rel => exact ⟨k + 1, by omega, by go_num, by rw [e6]; try (first | rfl | go_num), by rw [e7]; try (first | rfl | go_num), ⟨blk_alloc HXb.out _⟩, ⟨blk_alloc HFd.out _⟩, ⟨HBd.out.alloc HBd.out.size _⟩⟩
                    case measure => simp [RowKit.intOf]; omega
                · obtain rfl : k = nsy os i := by omega
                  go_wp2
                  go_roundw
                  case rel => exact ⟨i + 1, by omega, by go_num, by rw [preS_next], by rw [preS_next], HXb, HFd, HBd⟩
                  case measure => simp [RowKit.intOf]; omega
            · obtain rfl : i = os.length := by omega
              obtain ⟨z0, z1, z2⟩ := cq3 HFd.out
              obtain ⟨g1, g2, g3, g4⟩ := HFin.out
              rw [HX.out] at g1 g3 g4
              have h1 : (1 : Int) < (cnt strongQ (preS os os.length 0) x.f0 : Nat) := by rw [← allS_pre]; omega
              have h2 : (0 : Int) ≤ x.f2 := g4
              have h3 : (0 : Int) < (o1 : Int) := by omega
              have h4 : decide ((1 : Int) < (cnt strongQ (preS os os.length 0) x.f0 : Nat)) = true := decide_eq_true h1
              have h5 : decide ((0 : Int) ≤ x.f2) = true := decide_eq_true h2
              have h6 : decide ((0 : Int) < (o1 : Int)) = true := decide_eq_true h3
              obtain ⟨q0, q1, q2, q3⟩ := cel4 HXb.out
              rw [show x.f1 = 2 from g3] at q1
              clear g1 g2 g3 g4
              go_wp2_with fail
              (with_reducible refine (resolved_any _ (HG.out.below HBd.out)).mono ?_)
              rintro e w6 ⟨rfl, hb⟩
              replace HBd := Aside0.mk (below_step HBd.out hb)
              clear hb
              go_wp2
              go_ret
              exact ⟨rfl, HBd.out⟩
        · have hfin := lost_none HOk.out hat
          have HFin := Aside0.mk hfin
          have ho1 := hat.1
          have hk1 := hat.2.1
          clear hfin hat HRs
          have HFd := Aside0.mk (blk_new w2 (.cells #[.int .i64 6, .int .i64 o1, .int .i64 k1] 41))
          have b2 := (Below.refl w2.heap.size w2).alloc (Nat.le_refl _) (.cells #[.int .i64 6, .int .i64 o1, .int .i64 k1] 41)
          have HBd := Aside0.mk (below_step HB.out b2)
          clear b2
          go_wp2_with fail
          (with_reducible refine (check_any _ A c os (HG.out.below HBd.out) (Kd.C_below HO.out HBd.out) hc HF.out).mono ?_)
          rintro e w3 ⟨m2, rfl, hm2, hb⟩
          obtain rfl := HM.out.one hm2
          replace HFd := Aside0.mk (blk_below HFd.out hb)
          replace HBd := Aside0.mk (below_step HBd.out hb)
          clear hb hm2
          obtain ⟨z0, z1, z2⟩ := cq3 HFd.out
          obtain ⟨ad, A0, c0, A1, c1, e0, x0, x1, l0, C0, l1, C1⟩ := P.at_T48 HO.out o1 (by omega) (by omega)
          subst e0
          rw [Int.toNat_natCast] at x0 x1
          have hnl : (P.rd_T48 os o1).f1.length = nsy os o1 := rfl
          have HSy : Aside0 (SyA w A1 (obN os o1).f1) := ⟨C1⟩
          rw [hnl] at x1 l1
          obtain ⟨ad1, e1, y0, y1, y2, y3⟩ := P.at_T50 HSy.out k1 (by omega) (by show (k1 : Int) < (nsy os o1 : Int); omega)
          subst e1
          rw [Int.toNat_natCast] at y0 y1 y2 y3
          obtain ⟨x, hx⟩ : ∃ x, syN os o1 k1 = x := ⟨_, rfl⟩
          have HX := Aside0.mk hx
          unfold syN at hx
          rw [hx] at y0 y1 y2 y3
          clear hx
          replace x1 := keepS x1 HBd.out
          replace y0 := keepS y0 HBd.out
          replace y1 := keepS y1 HBd.out
          replace y2 := keepS y2 HBd.out
          replace y3 := keepS y3 HBd.out
          have a0 : ((o1 : Int) < 0) = False := by simp
          have a1 : (0 : Int) ≤ (o1 : Int) := by omega
          have a2 : (o1 : Int) < os.length := by omega
          have a3 : ((os.length : Int) ≤ (o1 : Int)) = False := by simp; omega
          have a4 : ((k1 : Int) < 0) = False := by simp
          have a5 : (0 : Int) ≤ (k1 : Int) := by omega
          have a6 : (k1 : Int) < (nsy os o1 : Int) := by omega
          have a7 : ((nsy os o1 : Int) ≤ (k1 : Int)) = False := by simp; omega
          clear C0 C1 l0 x0
          go_wp2
          go_quiet (fail)
          go_wp2_with fail
          have HBq := Aside0.mk (pw_below_drewN (Below.refl w3.heap.size w3) nq)
          generalize w3.drewN nq = w4 at HBq ⊢
          replace z0 := keepS z0 HBq.out
          replace z1 := keepS z1 HBq.out
          replace z2 := keepS z2 HBq.out
          replace x1 := keepS x1 HBq.out
          replace y0 := keepS y0 HBq.out
          replace y1 := keepS y1 HBq.out
          replace y2 := keepS y2 HBq.out
          replace y3 := keepS y3 HBq.out
          replace HFd := Aside0.mk (blk_below HFd.out HBq.out)
          replace HBd := Aside0.mk (below_step HBd.out HBq.out)
          clear HBq
          refine start_ (n := 12) (S := fun w' => w'.cell? ⟨w2.heap.size, 1, none⟩ = some (.int .i64 (o1 : Int)) ∧ w'.cell? ⟨w2.heap.size, 2, none⟩ = some (.int .i64 (k1 : Int)) ∧ w'.cell? ⟨(ad.add (o1 * 2)).block, (ad.add (o1 * 2)).off + 1, none⟩ = some (.slice (some ad1) (nsy os o1) c1) ∧ w'.cell? (ad1.add (k1 * 4)) = some (.string x.f0) ∧ w'.cell? ⟨(ad1.add (k1 * 4)).block, (ad1.add (k1 * 4)).off + 1, none⟩ = some (.int .i64 x.f1) ∧ w'.cell? ⟨(ad1.add (k1 * 4)).block, (ad1.add (k1 * 4)).off + 2, none⟩ = some (.int .i64 x.f2) ∧ w'.cell? ⟨(ad1.add (k1 * 4)).block, (ad1.add (k1 * 4)).off + 3, none⟩ = some (.int .i64 x.f3)) (ds := [11]) #[false, false, false, false, false, false, false, false, false, false, false, false] (by kernel_rfl) rfl rfl ⟨z1, z2, x1, y0, y1, y2, y3⟩ (fun hHeld => ?_)
          refine pure_ (i := 0) (N := some 67) (v := ?_) (a' := ?_) #[true, false, false, false, false, false, false, false, false, false, false, false] rfl rfl (by kernel_rfl) (fun _ _ _ h => h) (Or.inl ⟨by rfl, ?_⟩) ?_ ?_
          rotate_left
          · intro w'
            go_simp
            with_reducible rfl
          rotate_left
          · simp only [Act.put, List.setIfInBounds_toArray, List.set_cons_zero, List.set_cons_succ, i64_w, i32_w]
            rfl
          refine pure_ (i := 1) (N := some 68) (v := ?_) (a' := ?_) #[true, true, false, false, false, false, false, false, false, false, false, false] rfl rfl (by kernel_rfl) (fun _ _ _ h => h) (Or.inl ⟨by rfl, ?_⟩) ?_ ?_
          rotate_left
          · intro w'
            go_simp
            with_reducible rfl
          rotate_left
          · simp only [Act.put, List.setIfInBounds_toArray, List.set_cons_zero, List.set_cons_succ, i64_w, i32_w]
            rfl
          refine take_ (i := 2) (N := some 69) (v := ?_) (a' := ?_) #[true, true, true, false, false, false, false, false, false, false, false, false] rfl rfl (by kernel_rfl) (fun _ _ _ h => h) (Or.inl ⟨by rfl, ?_⟩) hHeld ?_ ?_
          rotate_left
          · rintro w' ⟨s0_, s1_, s2_, s3_, s4_, s5_, s6_⟩
            go_simp
            with_reducible rfl
          rotate_left
          · simp only [Act.put, List.setIfInBounds_toArray, List.set_cons_zero, List.set_cons_succ, i64_w, i32_w]
            rfl
          refine pure_ (i := 3) (N := some 70) (v := ?_) (a' := ?_) #[true, true, true, true, false, false, false, false, false, false, false, false] rfl rfl (by kernel_rfl) (fun _ _ _ h => h) (Or.inl ⟨by rfl, ?_⟩) ?_ ?_
          rotate_left
          · intro w'
            go_simp
            with_reducible rfl
          rotate_left
          · simp only [Act.put, List.setIfInBounds_toArray, List.set_cons_zero, List.set_cons_succ, i64_w, i32_w]
            rfl
          refine pure_ (i := 4) (N := some 71) (v := ?_) (a' := ?_) #[true, true, true, true, true, false, false, false, false, false, false, false] rfl rfl (by kernel_rfl) (fun _ _ _ h => h) (Or.inl ⟨by rfl, ?_⟩) ?_ ?_
          rotate_left
          · intro w'
            go_simp
            with_reducible rfl
          rotate_left
          · simp only [Act.put, List.setIfInBounds_toArray, List.set_cons_zero, List.set_cons_succ, i64_w, i32_w]
            rfl
          refine take_ (i := 5) (N := some 72) (v := ?_) (a' := ?_) #[true, true, true, true, true, true, false, false, false, false, false, false] rfl rfl (by kernel_rfl) (fun _ _ _ h => h) (Or.inl ⟨by rfl, ?_⟩) hHeld ?_ ?_
          rotate_left
          · rintro w' ⟨s0_, s1_, s2_, s3_, s4_, s5_, s6_⟩
            go_simp
            with_reducible rfl
          rotate_left
          · simp only [Act.put, List.setIfInBounds_toArray, List.set_cons_zero, List.set_cons_succ, i64_w, i32_w]
            rfl
          refine pure_ (i := 6) (N := some 73) (v := ?_) (a' := ?_) #[true, true, true, true, true, true, true, false, false, false, false, false] rfl rfl (by kernel_rfl) (fun _ _ _ h => h) (Or.inl ⟨by rfl, ?_⟩) ?_ ?_
          rotate_left
          · intro w'
            go_simp
            with_reducible rfl
          rotate_left
          · simp only [Act.put, List.setIfInBounds_toArray, List.set_cons_zero, List.set_cons_succ, i64_w, i32_w]
            rfl
          refine take_ (i := 7) (N := some 74) (v := ?_) (a' := ?_) #[true, true, true, true, true, true, true, true, false, false, false, false] rfl rfl (by kernel_rfl) (fun _ _ _ h => h) (Or.inl ⟨by rfl, ?_⟩) hHeld ?_ ?_
          rotate_left
          · rintro w' ⟨s0_, s1_, s2_, s3_, s4_, s5_, s6_⟩
            go_simp
            with_reducible rfl
          rotate_left
          · simp only [Act.put, List.setIfInBounds_toArray, List.set_cons_zero, List.set_cons_succ, i64_w, i32_w]
            rfl
          refine pure_ (i := 8) (N := some 75) (v := ?_) (a' := ?_) #[true, true, true, true, true, true, true, true, true, false, false, false] rfl rfl (by kernel_rfl) (fun _ _ _ h => h) (Or.inl ⟨by rfl, ?_⟩) ?_ ?_
          rotate_left
          · intro w'
            go_simp
            with_reducible rfl
          rotate_left
          · simp only [Act.put, List.setIfInBounds_toArray, List.set_cons_zero, List.set_cons_succ, i64_w, i32_w]
            rfl
          refine take_ (i := 9) (N := some 76) (v := ?_) (a' := ?_) #[true, true, true, true, true, true, true, true, true, true, false, false] rfl rfl (by kernel_rfl) (fun _ _ _ h => h) (Or.inl ⟨by rfl, ?_⟩) hHeld ?_ ?_
          rotate_left
          · rintro w' ⟨s0_, s1_, s2_, s3_, s4_, s5_, s6_⟩
            go_simp
            with_reducible rfl
          rotate_left
          · simp only [Act.put, List.setIfInBounds_toArray, List.set_cons_zero, List.set_cons_succ, i64_w, i32_w]
            rfl
          refine one_ (i := 10) (N := some 5) #[true, true, true, true, true, true, true, true, true, true, true, false] rfl rfl (by kernel_rfl) (by decide) (fun K hK => ?_)
          refine value_ (w1 := ?_) (v := ?_) (by rfl) rfl ?_ ?_
          rotate_left 2
          · go_simp
            constructor
            · rfl
            · rfl
          refine hK.out _ _ ⟨keepS z1 ((below_drew1 (Below.refl w4.heap.size w4)).alloc (Nat.le_refl _) _), keepS z2 ((below_drew1 (Below.refl w4.heap.size w4)).alloc (Nat.le_refl _) _), keepS x1 ((below_drew1 (Below.refl w4.heap.size w4)).alloc (Nat.le_refl _) _), keepS y0 ((below_drew1 (Below.refl w4.heap.size w4)).alloc (Nat.le_refl _) _), keepS y1 ((below_drew1 (Below.refl w4.heap.size w4)).alloc (Nat.le_refl _) _), keepS y2 ((below_drew1 (Below.refl w4.heap.size w4)).alloc (Nat.le_refl _) _), keepS y3 ((below_drew1 (Below.refl w4.heap.size w4)).alloc (Nat.le_refl _) _)⟩ (fun hHeld => ?_)
          clear hK K
          refine norm_ (a' := ?_) ?_ ?_
          rotate_left
          · show Act.put _ (some 5) _ = _
            simp only [Act.put, List.setIfInBounds_toArray, List.set_cons_zero, List.set_cons_succ, i64_w, i32_w]
            rfl
          refine last_ (i := 11) (N := none) #[true, true, true, true, true, true, true, true, true, true, true, true] rfl rfl (by kernel_rfl) (by decide) (fun K hK => ?_)
          refine skip_ (w1 := ?_) (by rfl) rfl ?_ ?_
          rotate_left
          · go_simp
            rfl
          refine hK.out _ _ ?_
          clear hK K
          refine done_ (by kernel_rfl) ?_
          go_wp2_with fail
          have HXb := Aside0.mk (show ((w4.alloc (.cells #[.string x.f0, .int .i64 x.f1, .int .i64 x.f2, .int .i64 x.f3] 50)).drew).heap[w4.heap.size]? = some (.cells #[.string x.f0, .int .i64 x.f1, .int .i64 x.f2, .int .i64 x.f3] 50 (0, 0)) from blk_new w4 _)
          replace HFd := Aside0.mk (show ((w4.alloc (.cells #[.string x.f0, .int .i64 x.f1, .int .i64 x.f2, .int .i64 x.f3] 50)).drew).heap[w2.heap.size]? = some (.cells #[.int .i64 6, .int .i64 (o1 : Int), .int .i64 (k1 : Int)] 41 (0, 0)) from blk_alloc HFd.out _)
          replace HBd := Aside0.mk (below_drew1 (HBd.out.alloc HBd.out.size (.cells #[.string x.f0, .int .i64 x.f1, .int .i64 x.f2, .int .i64 x.f3] 50)))
          generalize (w4.alloc (.cells #[.string x.f0, .int .i64 x.f1, .int .i64 x.f2, .int .i64 x.f3] 50)).drew = w5 at HXb HFd HBd hHeld ⊢
          clear z0 z1 z2 x1 y0 y1 y2 y3 a0 a1 a2 a3 a4 a5 a6 a7 hHeld
          have HTm := Aside0.mk (tame_of HOk.out HF.out)
          go_loopw [6, 7, 8] (fun v6 v7 v wr => ∃ i : Nat, i ≤ os.length ∧ v = .int .i64 i ∧ v6 = .int .i64 (cnt strongQ (preS os i 0) x.f0 : Nat) ∧ v7 = .int .i64 (cnt weakQ (preS os i 0) x.f0 : Nat) ∧ Aside0 (wr.heap[w4.heap.size]? = some (.cells #[.string x.f0, .int .i64 x.f1, .int .i64 x.f2, .int .i64 x.f3] 50 (0, 0))) ∧ Aside0 (wr.heap[w2.heap.size]? = some (.cells #[.int .i64 6, .int .i64 (o1 : Int), .int .i64 (k1 : Int)] 41 (0, 0))) ∧ Aside0 (Below w.heap.size w wr)) (fun _ _ v _ => os.length - (RowKit.intOf v).toNat)
          case atStart => exact ⟨0, Nat.zero_le _, rfl, rfl, rfl, HXb, HFd, HBd⟩
          case round =>
            clear HXb HFd HBd
            obtain ⟨i, hi, rfl, rfl, rfl, HXb, HFd, HBd⟩ := hrel
            by_cases hlt : i < os.length
            · obtain ⟨_, A0, c0, A1, c2, e0, x0, x1, l0, C0, l1, C1⟩ := P.at_T48 HO.out i (by omega) (by omega)
              cases e0
              rw [Int.toNat_natCast] at x0 x1
              have hnl : (P.rd_T48 os i).f1.length = nsy os i := rfl
              have HSz : Aside0 (SyA w A1 (obN os i).f1) := ⟨C1⟩
              rw [hnl] at x1 l1
              have HX1 := Aside0.mk x1
              have hi0 : (0 : Int) ≤ (i : Int) := by omega
              have hi1 : (i : Int) < os.length := by omega
              clear C0 C1 l0 x0 x1
              go_wp2
              go_loopw [6, 7, 9] (fun v6 v7 v wr => ∃ k : Nat, k ≤ nsy os i ∧ v = .int .i64 k ∧ v6 = .int .i64 (cnt strongQ (preS os i k) x.f0 : Nat) ∧ v7 = .int .i64 (cnt weakQ (preS os i k) x.f0 : Nat) ∧ Aside0 (wr.heap[w4.heap.size]? = some (.cells #[.string x.f0, .int .i64 x.f1, .int .i64 x.f2, .int .i64 x.f3] 50 (0, 0))) ∧ Aside0 (wr.heap[w2.heap.size]? = some (.cells #[.int .i64 6, .int .i64 (o1 : Int), .int .i64 (k1 : Int)] 41 (0, 0))) ∧ Aside0 (Below w.heap.size w wr)) (fun _ _ v _ => nsy os i - (RowKit.intOf v).toNat)
              case atStart => exact ⟨0, Nat.zero_le _, rfl, rfl, rfl, HXb, HFd, HBd⟩
              case round =>
                clear HXb HFd HBd
                obtain ⟨k, hk, rfl, rfl, rfl, HXb, HFd, HBd⟩ := hrel
                have x1 := keepS HX1.out HBd.out
                by_cases hkl : k < nsy os i
                · obtain ⟨ad2, e1, y0, y1, y2, y3⟩ := P.at_T50 HSz.out k (by omega) (by show (k : Int) < (nsy os i : Int); omega)
                  subst e1
                  rw [Int.toNat_natCast] at y0 y1 y2 y3
                  obtain ⟨y, hy⟩ : ∃ y, syN os i k = y := ⟨_, rfl⟩
                  have HY := Aside0.mk hy
                  unfold syN at hy
                  rw [hy] at y0 y1 y2 y3
                  clear hy
                  replace y0 := keepS y0 HBd.out
                  replace y1 := keepS y1 HBd.out
                  replace y2 := keepS y2 HBd.out
                  replace y3 := keepS y3 HBd.out
                  have hbd : y.f1 = 1 ∨ y.f1 = 2 ∨ y.f1 = 3 := by have := ((HTm.out.2 i hlt).2 k hkl).2; rw [HY.out] at this; exact this
                  have hk0 : (0 : Int) ≤ (k : Int) := by omega
                  have hk1 : (k : Int) < (nsy os i : Int) := by omega
                  have hml := (HTm.out.2 i hlt).1
                  have hx0 := fun ob => (cel4 (blk_alloc HXb.out ob)).1
                  have n6 : cnt strongQ (preS os i k) x.f0 ≤ 100000 := Nat.le_trans (cnt_le _ _ _ _ _) (HTm.out.pre_le hlt hk)
                  have n7 : cnt weakQ (preS os i k) x.f0 ≤ 100000 := Nat.le_trans (cnt_le _ _ _ _ _) (HTm.out.pre_le hlt hk)
                  by_cases he : y.f0 = x.f0
                  · have nE : (y.f0.toList == x.f0.toList) = true := by rw [he]; simp
                    by_cases hs : y.f2 < 0
                    · have s1 : ((0 : Int) ≤ y.f2) = False := by simp; omega
                      have s2 : decide ((0 : Int) ≤ y.f2) = false := decide_eq_false (by omega)
                      have e6 : cnt strongQ (preS os i (k + 1)) x.f0 = cnt strongQ (preS os i k) x.f0 := by rw [cnt_succ, HY.out, if_neg (fun h => absurd (strong_iff.1 h.1).2 (by omega))]; rfl
                      have e7 : cnt weakQ (preS os i (k + 1)) x.f0 = cnt weakQ (preS os i k) x.f0 := by rw [cnt_succ, HY.out, if_neg (fun h => absurd (weak_iff.1 h.1).2 (by omega))]; rfl
                      go_wp2
                      go_roundw
                      case rel => exact ⟨k + 1, by omega, by go_num, by rw [e6]; try (first | rfl | go_num), by rw [e7]; try (first | rfl | go_num), ⟨blk_alloc HXb.out _⟩, ⟨blk_alloc HFd.out _⟩, ⟨HBd.out.alloc HBd.out.size _⟩⟩
                      case measure => simp [RowKit.intOf]; omega
                    · have s1 : ((0 : Int) ≤ y.f2) = True := by simp; omega
                      have s2 : decide ((0 : Int) ≤ y.f2) = true := decide_eq_true (by omega)
                      rcases hbd with hb | hb | hb
                      · rw [hb] at y1
                        have e6 : cnt strongQ (preS os i (k + 1)) x.f0 = cnt strongQ (preS os i k) x.f0 := by rw [cnt_succ, HY.out, if_neg (fun h => absurd (strong_iff.1 h.1).1 (by omega))]; rfl
                        have e7 : cnt weakQ (preS os i (k + 1)) x.f0 = cnt weakQ (preS os i k) x.f0 := by rw [cnt_succ, HY.out, if_neg (fun h => absurd (weak_iff.1 h.1).1 (by omega))]; rfl
                        go_wp2
                        go_roundw
                        case rel => exact ⟨k + 1, by omega, by go_num, by rw [e6]; try (first | rfl | go_num), by rw [e7]; try (first | rfl | go_num), ⟨blk_alloc HXb.out _⟩, ⟨blk_alloc HFd.out _⟩, ⟨HBd.out.alloc HBd.out.size _⟩⟩
                        case measure => simp [RowKit.intOf]; omega
                      · rw [hb] at y1
                        have e6 : cnt strongQ (preS os i (k + 1)) x.f0 = cnt strongQ (preS os i k) x.f0 + 1 := by rw [cnt_succ, HY.out, if_pos ⟨strong_iff.2 ⟨hb, by omega⟩, he⟩]
                        have e7 : cnt weakQ (preS os i (k + 1)) x.f0 = cnt weakQ (preS os i k) x.f0 := by rw [cnt_succ, HY.out, if_neg (fun h => absurd (weak_iff.1 h.1).1 (by omega))]; rfl
                        go_wp2
                        go_roundw
                        case rel => exact ⟨k + 1, by omega, by go_num, by rw [e6]; try (first | rfl | go_num), by rw [e7]; try (first | rfl | go_num), ⟨blk_alloc HXb.out _⟩, ⟨blk_alloc HFd.out _⟩, ⟨HBd.out.alloc HBd.out.size _⟩⟩
                        case measure => simp [RowKit.intOf]; omega
                      · rw [hb] at y1
                        have e6 : cnt strongQ (preS os i (k + 1)) x.f0 = cnt strongQ (preS os i k) x.f0 := by rw [cnt_succ, HY.out, if_neg (fun h => absurd (strong_iff.1 h.1).1 (by omega))]; rfl
                        have e7 : cnt weakQ (preS os i (k + 1)) x.f0 = cnt weakQ (preS os i k) x.f0 + 1 := by rw [cnt_succ, HY.out, if_pos ⟨weak_iff.2 ⟨hb, by omega⟩, he⟩]
                        go_wp2
                        go_roundw
                        case rel => exact ⟨k + 1, by omega, by go_num, by rw [e6]; try (first | rfl | go_num), by rw [e7]; try (first | rfl | go_num), ⟨blk_alloc HXb.out _⟩, ⟨blk_alloc HFd.out _⟩, ⟨HBd.out.alloc HBd.out.size _⟩⟩
                        case measure => simp [RowKit.intOf]; omega
                  · have nE : (y.f0.toList == x.f0.toList) = false := beq_eq_false_iff_ne.mpr (fun h => he (bytes_ext h))
                    have e6 : cnt strongQ (preS os i (k + 1)) x.f0 = cnt strongQ (preS os i k) x.f0 := by rw [cnt_succ, HY.out, if_neg (fun h => he h.2)]; rfl
                    have e7 : cnt weakQ (preS os i (k + 1)) x.f0 = cnt weakQ (preS os i k) x.f0 := by rw [cnt_succ, HY.out, if_neg (fun h => he h.2)]; rfl
                    go_wp2
                    go_roundw
                    case rel => exact ⟨k + 1, by omega, by go_num, by rw [e6]; try (first | rfl | go_num), by rw [e7]; try (first | rfl | go_num), ⟨blk_alloc HXb.out _⟩, ⟨blk_alloc HFd.out _⟩, ⟨HBd.out.alloc HBd.out.size _⟩⟩
                    case measure => simp [RowKit.intOf]; omega
                · obtain rfl : k = nsy os i := by omega
                  go_wp2
                  go_roundw
                  case rel => exact ⟨i + 1, by omega, by go_num, by rw [preS_next], by rw [preS_next], HXb, HFd, HBd⟩
                  case measure => simp [RowKit.intOf]; omega
            · obtain rfl : i = os.length := by omega
              obtain ⟨z0, z1, z2⟩ := cq3 HFd.out
              obtain ⟨g1, g2, g3, g4⟩ := HFin.out
              rw [HX.out] at g1 g2 g3 g4
              rw [allS_pre] at g1 g2
              rw [g1, g2]
              have h2 : (2 : Int) ≤ x.f1 := g3
              have h3 : x.f2 < 0 := g4
              have h5 : decide ((2 : Int) ≤ x.f1) = true := decide_eq_true h2
              have h6 : decide (x.f2 < 0) = true := decide_eq_true h3
              obtain ⟨q0, q1, q2, q3⟩ := cel4 HXb.out
              clear g1 g2 g3 g4
              go_wp2_with fail
              (with_reducible refine (resolved_any _ (HG.out.below HBd.out)).mono ?_)
              rintro e w6 ⟨rfl, hb⟩
              replace HBd := Aside0.mk (below_step HBd.out hb)
              clear hb
              go_wp2
              go_ret
              exact ⟨rfl, HBd.out⟩
      · clear HRs
        have HFd := Aside0.mk (blk_new w2 (.cells #[.int .i64 0, .int .i64 0, .int .i64 0] 41))
        have b2 := (Below.refl w2.heap.size w2).alloc (Nat.le_refl _) (.cells #[.int .i64 0, .int .i64 0, .int .i64 0] 41)
        have HBd := Aside0.mk (below_step HB.out b2)
        clear b2
        go_wp2_with fail
        (with_reducible refine (check_any _ A c os (HG.out.below HBd.out) (Kd.C_below HO.out HBd.out) hc HF.out).mono ?_)
        rintro e w3 ⟨m2, rfl, hm2, hb⟩
        obtain rfl := HM.out.one hm2
        replace HFd := Aside0.mk (blk_below HFd.out hb)
        replace HBd := Aside0.mk (below_step HBd.out hb)
        clear hb hm2
        obtain ⟨z0, z1, z2⟩ := cq3 HFd.out
        go_wp2_with fail
        (with_reducible refine (resolved_any _ (HG.out.below HBd.out)).mono ?_)
        rintro e w4 ⟨rfl, hb⟩
        replace HFd := Aside0.mk (blk_below HFd.out hb)
        replace HBd := Aside0.mk (below_step HBd.out hb)
        clear hb z0 z1 z2
        obtain ⟨z0, z1, z2⟩ := cq3 HFd.out
        go_wp2
        go_ret
        exact ⟨rfl, HBd.out⟩
    · have hne : (m != 0) = true := bne_iff_ne.mpr hm0
      have hno : ¬ AllOkO os := fun h => hm0 (HM.out.ok.2 h)
      have HE := Aside0.mk (show e = .returned (.tuple #[.slice none 0 0, .agg #[.int .i64 m, .int .i64 0, .int .i64 0]]) by
        rcases HRs.out with ⟨c', o, k, hf, rfl⟩ | ⟨h, _⟩
        · rcases hf with ⟨_, h2, rfl, rfl⟩ | ⟨h, _⟩ | ⟨h, _⟩
          · rw [h2.one HM.out]
          · exact absurd h hno
          · exact absurd h hno
        · exact absurd h hno)
      obtain rfl := HE.out
      clear HE HRs hno hm
      have HFd := Aside0.mk (blk_new w2 (.cells #[.int .i64 m, .int .i64 0, .int .i64 0] 41))
      have b2 := (Below.refl w2.heap.size w2).alloc (Nat.le_refl _) (.cells #[.int .i64 m, .int .i64 0, .int .i64 0] 41)
      have HBd := Aside0.mk (below_step HB.out b2)
      clear b2
      go_wp2_with fail
      (with_reducible refine (check_any _ A c os (HG.out.below HBd.out) (Kd.C_below HO.out HBd.out) hc HF.out).mono ?_)
      rintro e w3 ⟨m2, rfl, hm2, hb⟩
      obtain rfl := HM.out.one hm2
      replace HFd := Aside0.mk (blk_below HFd.out hb)
      replace HBd := Aside0.mk (below_step HBd.out hb)
      clear hb hm2
      go_wp2_with fail
      refine start_ (n := 9) (S := fun w' => w'.cell? ⟨w2.heap.size, 0, none⟩ = some (.int .i64 m) ∧ w'.cell? ⟨w2.heap.size, 1, none⟩ = some (.int .i64 0) ∧ w'.cell? ⟨w2.heap.size, 2, none⟩ = some (.int .i64 0)) (ds := []) #[false, false, false, false, false, false, false, false, false] (by kernel_rfl) rfl rfl (cq3 HFd.out) (fun hHeld => ?_)
      replace HFd := Aside0.mk (show w3.drew.heap[w2.heap.size]? = some (.cells #[.int .i64 m, .int .i64 0, .int .i64 0] 41 (0, 0)) from HFd.out)
      replace HBd := Aside0.mk (below_drew1 HBd.out)
      refine one_ (i := 0) (N := some 23) #[true, false, false, false, false, false, false, false, false] rfl rfl (by kernel_rfl) (by decide) (fun K hK => ?_)
      refine goes_ Tryd.func21 (by kernel_rfl) rfl #[] (by rfl) rfl rfl (by kernel_rfl) ?_
      refine (resolved_any _ (HG.out.below HBd.out)).mono ?_
      rintro e w4 ⟨rfl, hb⟩
      replace HFd := Aside0.mk (blk_below HFd.out hb)
      replace HBd := Aside0.mk (below_step HBd.out hb)
      clear hb
      refine ⟨_, rfl, ?_⟩
      refine hK.out _ _ (cq3 HFd.out) (fun hHeld => ?_)
      clear hK K
      refine norm_ (a' := ?_) ?_ ?_
      rotate_left
      · show Act.put _ (some 23) _ = _
        simp only [Act.put, List.setIfInBounds_toArray, List.set_cons_zero, List.set_cons_succ, i64_w, i32_w]
        rfl
      refine pure_ (i := 1) (N := some 24) (v := ?_) (a' := ?_) #[true, true, false, false, false, false, false, false, false] rfl rfl (by kernel_rfl) (fun _ _ _ h => h) (Or.inl ⟨by rfl, ?_⟩) ?_ ?_
      rotate_left
      · intro w'
        go_simp
        with_reducible rfl
      rotate_left
      · simp only [Act.put, List.setIfInBounds_toArray, List.set_cons_zero, List.set_cons_succ, i64_w, i32_w]
        rfl
      refine take_ (i := 2) (N := some 25) (v := ?_) (a' := ?_) #[true, true, true, false, false, false, false, false, false] rfl rfl (by kernel_rfl) (fun _ _ _ h => h) (Or.inl ⟨by rfl, ?_⟩) hHeld ?_ ?_
      rotate_left
      · rintro w' ⟨s0_, s1_, s2_⟩
        go_simp
        with_reducible rfl
      rotate_left
      · simp only [Act.put, List.setIfInBounds_toArray, List.set_cons_zero, List.set_cons_succ, i64_w, i32_w]
        rfl
      refine pure_ (i := 3) (N := some 26) (v := ?_) (a' := ?_) #[true, true, true, true, false, false, false, false, false] rfl rfl (by kernel_rfl) (fun _ _ _ h => h) (Or.inl ⟨by rfl, ?_⟩) ?_ ?_
      rotate_left
      · intro w'
        go_simp
        with_reducible rfl
      rotate_left
      · simp only [Act.put, List.setIfInBounds_toArray, List.set_cons_zero, List.set_cons_succ, i64_w, i32_w]
        rfl
      refine one_ (i := 4) (N := some 27) #[true, true, true, true, true, false, false, false, false] rfl rfl (by kernel_rfl) (by decide) (fun K hK => ?_)
      refine goes_ Tryd.func20 (by kernel_rfl) rfl #[.slice A os.length c] (by rfl) rfl rfl (by kernel_rfl) ?_
      refine (check_any _ A c os (HG.out.below HBd.out) (Kd.C_below HO.out HBd.out) hc HF.out).mono ?_
      rintro e w5 ⟨m2, rfl, hm2, hb⟩
      obtain rfl := HM.out.one hm2
      replace HFd := Aside0.mk (blk_below HFd.out hb)
      replace HBd := Aside0.mk (below_step HBd.out hb)
      clear hb hm2
      refine ⟨_, rfl, ?_⟩
      refine hK.out _ _ (cq3 HFd.out) (fun hHeld => ?_)
      clear hK K
      refine norm_ (a' := ?_) ?_ ?_
      rotate_left
      · show Act.put _ (some 27) _ = _
        simp only [Act.put, List.setIfInBounds_toArray, List.set_cons_zero, List.set_cons_succ, i64_w, i32_w]
        rfl
      refine pure_ (i := 5) (N := some 28) (v := ?_) (a' := ?_) #[true, true, true, true, true, true, false, false, false] rfl rfl (by kernel_rfl) (fun _ _ _ h => h) (Or.inl ⟨by rfl, ?_⟩) ?_ ?_
      rotate_left
      · intro w'
        go_simp
        with_reducible rfl
      rotate_left
      · simp only [Act.put, List.setIfInBounds_toArray, List.set_cons_zero, List.set_cons_succ, i64_w, i32_w]
        rfl
      refine pure_ (i := 6) (N := some 29) (v := ?_) (a' := ?_) #[true, true, true, true, true, true, true, false, false] rfl rfl (by kernel_rfl) (fun _ _ _ h => h) (Or.inl ⟨by rfl, ?_⟩) ?_ ?_
      rotate_left
      · intro w'
        go_simp
        with_reducible rfl
      rotate_left
      · simp only [Act.put, List.setIfInBounds_toArray, List.set_cons_zero, List.set_cons_succ, i64_w, i32_w]
        rfl
      refine pure_ (i := 7) (N := some 30) (v := ?_) (a' := ?_) #[true, true, true, true, true, true, true, true, false] rfl rfl (by kernel_rfl) (fun _ _ _ h => h) (Or.inl ⟨by rfl, ?_⟩) ?_ ?_
      rotate_left
      · intro w'
        go_simp
        with_reducible rfl
      rotate_left
      · simp only [Act.put, List.setIfInBounds_toArray, List.set_cons_zero, List.set_cons_succ, i64_w, i32_w]
        rfl
      refine pure_ (i := 8) (N := some 2) (v := ?_) (a' := ?_) #[true, true, true, true, true, true, true, true, true] rfl rfl (by kernel_rfl) (fun _ _ _ h => h) (Or.inl ⟨by rfl, ?_⟩) ?_ ?_
      rotate_left
      · intro w'
        go_simp
        with_reducible rfl
      rotate_left
      · simp only [Act.put, List.setIfInBounds_toArray, List.set_cons_zero, List.set_cons_succ, i64_w, i32_w]
        rfl
      refine done_ (by kernel_rfl) ?_
      go_wp2
      go_ret
      exact ⟨rfl, HBd.out⟩
end Go.Proofs.YtngmipfodjgmmaaDoor.Pure
