/- Walks and plain laws of this claim, a part. -/
import Derived.Test.YtngmipfodjgmmaaGreatDoorFz94
import Derived.Laws.CopyOwn
set_option maxRecDepth 100000
set_option maxHeartbeats 8000000
set_option linter.unusedVariables false
set_option linter.unusedSimpArgs false
namespace Go.Proofs.YtngmipfodjgmmaaGreatDoor.Pure
open Go Go.RowKit Go.Lib Go.Shelf Go.Maps Wa Wb Wc
open P (Glob UA)
open Folds (gt beginF Part refineF foldN sig nx nx_spec find_range)
theorem run_makeMap_some (n : Int) (w : World) : (Instr.makeMap 99 (some (.int .i64 n))).run Tryz.prog w = .ok (.map (some w.heap.size)) (w.alloc (.map #[] 0)) := by
 simp [Instr.makeMap, Sem.run_bind, run_underlying Tryz.underlying99, asInt, Result.andThen]
 rfl
theorem zc97 : Tryz.zeroCells102 = ((List.replicate 66 (0 : Int)).map (Value.int .i64)).toArray := by kernel_rfl
theorem store97 (wx : World) (a b : Int) : ∃ wz, (storeCells ⟨wx.heap.size, 0, none⟩ ((Tryz.zeroCells102.toList.set 0 (.int .i64 a)).set 1 (.int .i64 b))).run Tryz.prog (wx.alloc (.cells Tryz.zeroCells102 102)).drew = .ok () wz ∧ TB 102 wz wx.heap.size (a :: b :: List.replicate 64 0) ∧ Below wx.heap.size wx wz := by
 have hg : (wx.alloc (.cells Tryz.zeroCells102 102)).drew.heap[wx.heap.size]? = some (.cells Tryz.zeroCells102 102 (0, 0)) := blk_new _ _
 have hl : (Tryz.zeroCells102.toList.set 0 (.int .i64 a)).set 1 (.int .i64 b) = ((a :: b :: List.replicate 64 0).map (Value.int .i64)) := by rw [zc97]; rfl
 have hs := run_storeCells_from (P := Tryz.prog) wx.heap.size 102 ((a :: b :: List.replicate 64 0).map (Value.int .i64)) 0 Tryz.zeroCells102 _ hg (by rw [zc97]; simp) (fun v hv => by obtain ⟨z, _, rfl⟩ := List.mem_map.1 hv; rfl)
 rw [hl]
 refine ⟨_, hs, ?_, ?_⟩
 ·have := setRow_heap _ wx.heap.size _ (Tryz.zeroCells102.toList.take 0 ++ (a :: b :: List.replicate 64 0).map (Value.int .i64)).toArray _ _ hg
  exact this
 exact below_setRow (bDD ((Below.refl _ _).alloc (Nat.le_refl _) _)) (Nat.le_refl _) _
theorem info97 : (Tryz.prog.info? 102).map (·.size) = some 66 := by kernel_rfl
theorem kl_sig {us : List P.S39} {p : List Nat} {kl : Nat → Lit} {i k : Nat} (hi : keyOf Tryz.prog 102 (.agg ((keyL us p i).map (Value.int .i64)).toArray) = some (kl i)) (hk : keyOf Tryz.prog 102 (.agg ((keyL us p k).map (Value.int .i64)).toArray) = some (kl k)) : kl k = kl i ↔ sig (rf us) p k = sig (rf us) p i := by
 rw [← keyL_sig]
 constructor
 ·intro h
  rw [h] at hk
  have h2 : Value.agg ((keyL us p k).map (Value.int .i64)).toArray = Value.agg ((keyL us p i).map (Value.int .i64)).toArray := law97.inj hk hi
  have h3 : ((keyL us p k).map (Value.int .i64)).toArray = ((keyL us p i).map (Value.int .i64)).toArray := Value.agg.inj h2
  have this : (keyL us p k).map (Value.int .i64) = (keyL us p i).map (Value.int .i64) := congrArg Array.toList h3
  exact (List.map_inj_right (fun a b h => by injection h)).1 this
 intro h
 rw [h, hi] at hk
 exact (Option.some.inj hk).symm
theorem next_set {n : Nat} {us : List P.S39} {p : List Nat} {i : Nat} (hi : i < n) : (sofar ((refineF n (rf us) p).take i) n).set i (nx n (rf us) p i : Int) = sofar ((refineF n (rf us) p).take (i + 1)) n := by
 have hl : (refineF n (rf us) p).length = n := by simp [refineF]
 have hl2 : ((refineF n (rf us) p).take i).length = i := by rw [List.length_take]; omega
 have := sofar_set ((refineF n (rf us) p).take i) n (nx n (rf us) p i) (by omega)
 rw [hl2] at this
 rw [this, List.take_succ_eq_append_getElem (by omega)]
 congr 3
 have := Folds.refine_get (rf := rf us) p i hi
 unfold gt at this
 rw [List.getD_eq_getElem?_getD, List.getElem?_eq_getElem (by omega)] at this
 exact this.symm
theorem lit_one {a b : Int} (h : (DataW.lit (Lit.int .i64 a) : DataW Unit) = .lit (.int .i64 b)) : b = a := by injection h with h; injection h with _ h; exact h.symm
abbrev MO (w : World) (b i : Nat) (D : DataW Unit) : Prop := w.ownsMap Tryz.prog 102 (plainElem Tryz.prog 3) b i D
theorem mo_below {w w1 : World} {b i B : Nat} {D : DataW Unit} (h : MO w b i D) (hb : Below B w w1) (hl : b < B) : MO w1 b i D := by
 obtain ⟨es, clock, h1, h2, h3, h4⟩ := h
 exact ⟨es, clock, (hb.block b hl).trans h1, h2, h3, h4⟩
theorem tb_below {t : TypeId} {w w1 : World} {b B : Nat} {l : List Int} (h : TB t w b l) (hb : Below B w w1) (hl : b < B) : TB t w1 b l := (hb.block b hl).trans h
theorem refine_any (w : World) (A : Option Addr) (pb : Nat) (us : List P.S39) (p : List Nat) (c c2 : Nat) (hu : UA w A us) (hc : us.length ≤ c) (hul : us.length ≤ 256) (hn : ∀ i, i < us.length → (P.rd_T39 us i).f5.length ≤ 64 ∧ ∀ q ∈ P.ndI us i, 0 ≤ q ∧ q < us.length) (hp : IB w pb (p.map Int.ofNat)) (hpl : p.length = us.length) (hpb : ∀ q, gt p q ≤ 100000) (hpc : us.length ≤ c2) :
 Calls Tryz.prog 41 #[.slice A us.length c, .slice (some ⟨pb, 0, none⟩) us.length c2] w fun e w' => e = .returned (.slice (some ⟨w.heap.size, 0, none⟩) us.length us.length) ∧ IB w' w.heap.size ((refineF us.length (rf us) p).map Int.ofNat) ∧ Below w.heap.size w w' := by
 have hmk := make_ints us.length (by omega)
 have HU := Azz.mk hu
 have HN := Azz.mk hn
 have HP := Azz.mk hp
 clear hu hn hp
 go_enter Tryz.func41, Tryz.ntmps41
 have hmm := @run_makeMap_some
 obtain ⟨kl, hkl⟩ : ∃ kl : Nat → Lit, ∀ i, i < us.length → keyOf Tryz.prog 102 (.agg ((keyL us p i).map (Value.int .i64)).toArray) = some (kl i) := key_all us p hpl hul (fun i (hi : i < us.length) => (HN.out i hi).1) hpb
 have HK := Azz.mk hkl
 clear hkl
 go_wp2
 clear hmk hmm
 go_loopw [22] (fun v wr => ∃ i D, i ≤ us.length ∧ v = .int .i64 i ∧ Azz (TB 3 wr w.heap.size (sofar ((refineF us.length (rf us) p).take i) us.length)) ∧ Azz (MO wr (w.heap.size + 1) i D) ∧ Azz (MapInv kl (nx us.length (rf us) p) D i) ∧ Azz (Below w.heap.size w wr)) (fun v _ => us.length - (RowKit.intOf v).toNat)
 case atStart => exact ⟨0, .map [], Nat.zero_le _, rfl, ⟨by rw [List.take_zero]; exact (made_ib us.length w).below ((Below.refl _ _).alloc (Nat.le_refl _) _)⟩, ⟨by have h := World.ownsMap_made (H := Unit) (w.alloc (.cells (madeCells #[.int .i64 0] us.length) 3)) Tryz.prog 102 (plainElem Tryz.prog 3); rw [show (w.alloc (.cells (madeCells #[.int .i64 0] us.length) 3)).heap.size = w.heap.size + 1 by simp] at h; exact h⟩, ⟨mi_start _ _⟩, ⟨((Below.refl _ _).alloc (Nat.le_refl _) _).alloc (by simp) _⟩⟩
 case round =>
  obtain ⟨i, D, hi, rfl, HNx, HM, HI, HB⟩ := hrel
  by_cases hlt : i < us.length
  rotate_left
  ·obtain rfl : i = us.length := by omega
   have HR := Azz.mk (show IB wr w.heap.size ((refineF us.length (rf us) p).map Int.ofNat) by
    have := HNx.out
    unfold sofar at this
    have hl : (refineF us.length (rf us) p).length = us.length := by simp [refineF]
    rw [List.take_of_length_le (by omega), hl, Nat.sub_self] at this
    rw [List.replicate_zero, List.append_nil] at this
    exact this)
   clear HNx HM HI
   go_wp2
   go_ret
   exact ⟨rfl, HR.out, HB.out⟩
  obtain ⟨ad3, A5, c5, e3, x0, x1, x2, x3, x4, x5, l5, C5⟩ := P.at_T39 (Kd.C_below HU.out HB.out) i (by omega) (by omega)
  subst e3
  rw [Int.toNat_natCast] at x0 x1 x2 x3 x4 x5
  have HL5 := Azz.mk (And.intro l5 C5)
  have hrl := (HN.out i hlt).1
  obtain ⟨x, hx⟩ : ∃ x, P.rd_T39 us i = x := ⟨_, rfl⟩
  have HX := Azz.mk hx
  rw [hx] at x0 x1 x2 x3 x4 x5 HL5 hrl
  clear hx l5 C5
  go_wp2
  have hbx : Below wr.heap.size wr (wr.alloc (.cells #[.string x.f0, .int .i64 x.f1, .bool x.f2, .int .i64 x.f3, .string x.f4, .slice A5 x.f5.length c5] 39)) := (Below.refl _ _).alloc (Nat.le_refl _) _
  have xb : (wr.alloc (.cells #[.string x.f0, .int .i64 x.f1, .bool x.f2, .int .i64 x.f3, .string x.f4, .slice A5 x.f5.length c5] 39)).heap[wr.heap.size]? = some (.cells #[.string x.f0, .int .i64 x.f1, .bool x.f2, .int .i64 x.f3, .string x.f4, .slice A5 x.f5.length c5] 39 (0, 0)) := blk_new _ _
  generalize hwx : wr.alloc (.cells #[.string x.f0, .int .i64 x.f1, .bool x.f2, .int .i64 x.f3, .string x.f4, .slice A5 x.f5.length c5] 39) = wx at hbx xb ⊢
  have HWs := Azz.mk (show wx.heap.size = wr.heap.size + 1 by rw [← hwx]; simp)
  clear hwx x0 x1 x2 x3 x4 x5
  have hB2 := bTT HB.out hbx
  have HXB := Azz.mk xb
  have c0 := (HP.out.below hB2).cell i (by rw [List.length_map]; omega)
  rw [show (p.map Int.ofNat).getD i 0 = (gt p i : Int) by unfold gt; rw [List.getD_eq_getElem?_getD, List.getElem?_map, List.getD_eq_getElem?_getD, List.getElem?_eq_getElem (by omega)]; rfl] at c0
  have c1 : wx.cell? ⟨wr.heap.size, 5, none⟩ = some (.slice A5 x.f5.length c5) := (kCC xb 5).trans rfl
  have HBx := Azz.mk hbx
  have HB2 := Azz.mk hB2
  clear xb hbx hB2 HB
  have hi0 : (0 : Int) ≤ (i : Int) := by omega
  have hi1 : (i : Int) < us.length := by omega
  have HB0 := Azz.mk (Below.refl wx.heap.size wx)
  have HMl := Azz.mk (HM.out.lt)
  obtain ⟨wz, hst, htb, hbz⟩ := store97 wx (gt p i : Int) (x.f5.length : Int)
  have HTB := Azz.mk htb
  have HBZ := Azz.mk hbz
  clear htb hbz
  go_region_held3 (fun w' => w'.cell? ⟨pb, i, none⟩ = some (.int .i64 (gt p i : Int)) ∧ w'.cell? ⟨wr.heap.size, 5, none⟩ = some (.slice A5 x.f5.length c5)) (first | go_keep | exact ⟨keepc c0 HBZ.out, keepc c1 HBZ.out⟩) (first | fail)
  have c1z := keepc c1 HBZ.out
  clear c0 c1 hst HB0
  have hrfl : (rf us i).length = x.f5.length := by unfold rf; rw [List.length_map, HX.out]
  have HRf := Azz.mk hrfl
  go_wp2
  go_loopw [38] (fun v wy => ∃ j, j ≤ x.f5.length ∧ v = .int .i64 j ∧ Azz (TB 102 wy wx.heap.size (keyN us p i j)) ∧ Azz (Below wx.heap.size wx wy)) (fun v _ => x.f5.length - (RowKit.intOf v).toNat)
  case atStart => exact ⟨0, Nat.zero_le _, rfl, ⟨by have := HTB.out; unfold keyN; rw [HRf.out]; exact this⟩, HBZ⟩
  case round =>
   obtain ⟨j, hj, rfl, HTy, HBy⟩ := hrel
   by_cases hjl : j < x.f5.length
   ·obtain ⟨a5, e5, y0, y1, y2, y3⟩ := P.at_T80 (Kd.C_below HL5.out.2 (bTT HBx.out HBy.out)) j (by omega) (by omega)
    subst e5
    rw [Int.toNat_natCast] at y0 y1 y2 y3
    obtain ⟨q, hq, hqn, hqr⟩ : ∃ q : Nat, (P.rd_T80 x.f5 j).f2 = (q : Int) ∧ q < us.length ∧ (rf us i).getD j 0 = q := by
     have hm : (P.rd_T80 x.f5 j).f2 ∈ P.ndI us i := by
      unfold P.ndI
      rw [HX.out, show P.rd_T80 x.f5 (j : Int) = x.f5[j] from rd_get _ _ _ hjl]
      exact List.mem_map_of_mem (List.getElem_mem hjl)
     have := (HN.out i hlt).2 _ hm
     refine ⟨(P.rd_T80 x.f5 j).f2.toNat, by omega, by omega, ?_⟩
     unfold rf
     rw [HX.out, List.getD_eq_getElem?_getD, List.getElem?_map, List.getElem?_eq_getElem hjl, show P.rd_T80 x.f5 (j : Int) = x.f5[j] from rd_get _ _ _ hjl]
     rfl
    rw [hq] at y2
    obtain ⟨r, hr⟩ : ∃ r, P.rd_T80 x.f5 j = r := ⟨_, rfl⟩
    rw [hr] at y0 y1 y3
    have HQ := Azz.mk hqr
    clear hr hq hqr
    have hq0 : (0 : Int) ≤ (q : Int) := by omega
    have hq1 : (q : Int) < us.length := by omega
    have hj0 : (0 : Int) ≤ (j : Int) := by omega
    have hj1 : (j : Int) < 64 := by omega
    have hBy := bTT HB2.out HBy.out
    have pz : ∀ o, (wr.alloc o).cell? ⟨pb, q, none⟩ = some (.int .i64 (gt p q : Int)) := fun o => by
     have := (HP.out.below (hBy.alloc hBy.size o)).cell q (by rw [List.length_map]; omega)
     rw [show (p.map Int.ofNat).getD q 0 = (gt p q : Int) by unfold gt; rw [List.getD_eq_getElem?_getD, List.getElem?_map, List.getD_eq_getElem?_getD, List.getElem?_eq_getElem (by omega)]; rfl] at this
     exact this
    have fz : ∀ o, (wr.alloc o).frozen? ⟨wx.heap.size, 2 + j, none⟩ = false := fun o => TB.frozen (t := 102) (kAA HTy.out o) (2 + j)
    have cz : ∀ o, (wr.alloc o).cell? ⟨wx.heap.size, 2 + j, none⟩ = some (.int .i64 ((keyN us p i j).getD (2 + j) 0)) := fun o => TB.cell (t := 102) (kAA HTy.out o) (2 + j) (by rw [keyN_length (by omega) (by omega)]; omega)
    clear hBy
    go_wp2
    go_roundw
    case rel =>
     refine ⟨j + 1, by omega, by go_num, ⟨?_⟩, ⟨Below.setCell (p := ⟨wx.heap.size, 2 + j, none⟩) (HBy.out.alloc HBy.out.size _) (Nat.le_refl _) _⟩⟩
     rw [← keyN_set (by omega) (by omega), HQ.out]
     exact TB.set (t := 102) (kAA HTy.out _) (2 + j) (gt p q : Int)
    case measure => simp [RowKit.intOf]; omega
   obtain rfl : j = x.f5.length := by omega
   have hkey := HK.out i hlt
   have hTk : TB 102 wr wx.heap.size (keyL us p i) := by unfold keyL; rw [HRf.out]; exact HTy.out
   obtain ⟨cs, hcs⟩ : ∃ cs, ((keyL us p i).map (Value.int .i64)).toArray = cs := ⟨_, rfl⟩
   have hcl : cs.size = 66 := by rw [← hcs, List.size_toArray, List.length_map]; exact keyN_length (Nat.le_refl _) (by omega)
   unfold TB at hTk
   rw [hcs] at hTk hkey
   have hin : (Tryz.prog.info? 102).map (·.size) = some cs.size := by rw [hcl]; exact info97
   have HTk := Azz.mk hTk
   have HKy := Azz.mk hkey
   have HIn := Azz.mk hin
   clear hTk hkey hin hcs hcl
   have HBq := Azz.mk (HBx.out.trans (HBy.out.mono HBx.out.size))
   have HNy := Azz.mk (tb_below HNx.out HBq.out (by have := HMl.out; omega))
   have HMy := Azz.mk (mo_below HM.out HBq.out HMl.out)
   have HBw := Azz.mk (bTT HB2.out HBy.out)
   have hmn : i < maxLen := by unfold maxLen; omega
   have HLn : Azz ((sofar ((refineF us.length (rf us) p).take i) us.length).length = us.length) := ⟨sofar_length _ _ (by simp [refineF]; omega)⟩
   have HNe := Azz.mk (next_set (us := us) (p := p) hlt)
   have HWf := Azz.mk (WalkArith.wf_i64 (n := (i : Int)) (by omega))
   clear HBq HNx HM HBx HBy HB2 HTB HBZ HTy HL5 HXB hj c1z
   by_cases hf : ∃ k, k < i ∧ kl k = kl i
   ·obtain ⟨k, hk, he⟩ := hf
    have hs := (kl_sig (HK.out i hlt) (HK.out k (by omega))).1 he
    have hnx := nx_again (n := us.length) hlt (show k < us.length by omega) hs
    obtain ⟨hmi, hhas, hat0⟩ := mi_found HI.out hk he hnx
    have HMi := Azz.mk hmi
    have HAt := Azz.mk hat0
    clear hs hnx hmi hat0 he hk
    have fz := HNy.out.frozen i
    have cz := HNy.out.cell i (by rw [HLn.out]; omega)
    go_wp2_with (first
     | (refine wpList_load_row rfl 102 (.tmp 9) rfl wx.heap.size rfl 102 cs (0, 0) _ HTk.out Tryz.underlying102 rfl HIn.out ?_)
     | (at_lookup; refine wpList_lookup_own_ok_int wr rfl _ _ 99 rfl 102 3 .i64 law97 Tryz.underlying99 Tryz.underlying3 (zero3 _) (w.heap.size + 1) i D rfl HMy.out _ (kl i) rfl HKy.out ?_; intro cc hat hwc; have HCc := Azz.mk (lit_one ((HAt.out _).symm.trans hat)); clear hat hwc))
    go_roundw
    case rel => exact ⟨i + 1, D, by omega, by go_num, ⟨by rw [← HNe.out, HCc.out]; exact TB.set HNy.out i _⟩, ⟨World.ownsMap.setCell (HMy.out.mono (Nat.le_succ _)) (by show w.heap.size + 1 ≠ w.heap.size; omega) _⟩, HMi, ⟨Below.setCell (p := ⟨w.heap.size, i, none⟩) HBw.out (Nat.le_refl _) _⟩⟩
    case measure => simp [RowKit.intOf]; omega
   have hno : ∀ k, k < i → kl k ≠ kl i := fun k hk e => hf ⟨k, hk, e⟩
   have hhas := mi_none HI.out hno
   have hnx := nx_first (n := us.length) (us := us) (p := p) hlt (fun k hk e => hno k hk ((kl_sig (HK.out i hlt) (HK.out k (by omega))).2 e))
   have HMi := Azz.mk (mi_new HI.out hno (law97.key HKy.out) hnx)
   have HNi := Azz.mk hnx
   clear hno hnx hf
   go_wp2_with (first
    | (refine wpList_load_row rfl 102 (.tmp 9) rfl wx.heap.size rfl 102 cs (0, 0) _ HTk.out Tryz.underlying102 rfl HIn.out ?_)
    | (at_lookup; refine wpList_lookup_own_ok_int wr rfl _ _ 99 rfl 102 3 .i64 law97 Tryz.underlying99 Tryz.underlying3 (zero3 _) (w.heap.size + 1) i D rfl HMy.out _ (kl i) rfl HKy.out ?_; intro cc hat hwc; clear hat hwc)
    | (at_mapUpdate; refine wpList_mapUpdate_in wr rfl _ _ _ 99 rfl 102 3 law97 Tryz.underlying99 (plainElem Tryz.prog 3) (w.heap.size + 1) i D rfl HMy.out hmn _ _ (kl i) rfl rfl HKy.out _ [] (plainElem_int Tryz.underlying3 HWf.out) ?_; intro w1 hown1 hturn1; have HOw := Azz.mk hown1; have HTu := Azz.mk hturn1.grown; have HN1 := Azz.mk (TB.grown HNy.out HTu.out (by simp)); have fz := HN1.out.frozen i; have cz := HN1.out.cell i (by rw [HLn.out]; omega); clear hown1 hturn1))
   go_roundw
   case rel => exact ⟨i + 1, _, by omega, by go_num, ⟨by rw [← HNe.out, HNi.out]; exact TB.set HN1.out i _⟩, ⟨World.ownsMap.setCell HOw.out (by show w.heap.size + 1 ≠ w.heap.size; omega) _⟩, HMi, ⟨Below.setCell (p := ⟨w.heap.size, i, none⟩) (HBw.out.grown HTu.out HBw.out.size (by intro q hq; cases hq; omega)) (Nat.le_refl _) _⟩⟩
   case measure => simp [RowKit.intOf]; omega
end Go.Proofs.YtngmipfodjgmmaaGreatDoor.Pure
