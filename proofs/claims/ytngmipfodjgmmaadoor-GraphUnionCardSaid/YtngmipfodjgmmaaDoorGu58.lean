/- The law 'GraphUnion' walked: it returns true. -/
import Derived.Test.YtngmipfodjgmmaaDoorGu55
import Derived.Test.YtngmipfodjgmmaaDoorGu57
namespace Go.Proofs.YtngmipfodjgmmaaDoor.Pure
open Go Go.RowKit Go.Lib Go.Shelf Go.Proofs.YtngmipfodjgmmaaDoorW.PrintWords Go.Proofs.YtngmipfodjgmmaaDoorW.PrintLast Go.Proofs.YtngmipfodjgmmaaDoorW.PrintMore Go.Proofs.YtngmipfodjgmmaaDoor.Reach
open P (Glob UA nd NdOk Rt SpreadPost root_at)
set_option linter.unusedVariables false
set_option linter.unusedSimpArgs false
/-- A row of bools of one's own, as a block. -/
def BB (w : World) (b : Nat) (l : List Bool) : Prop := w.heap[b]? = some (.cells (l.map Value.bool).toArray 4 (0, 0))
theorem BB.cell {w : World} {b : Nat} {l : List Bool} (h : BB w b l) (k : Nat) (hk : k < l.length) : w.cell? ⟨b, k, none⟩ = some (.bool (l.getD k false)) := by
  refine (blk_cell h k).trans ?_
  simp [List.getD_eq_getElem?_getD, List.getElem?_eq_getElem hk]
theorem BB.below {w w1 : World} {b : Nat} {l : List Bool} (h : BB w b l) (hb : Below w.heap.size w w1) : BB w1 b l := blk_below h hb
theorem bools_same (l : List Bool) (hl : l.length ≤ 100000) : Ev (fun k => P.cleatref21_Bools.f k l l) true := by
  have go : ∀ (d i : Nat), i + d = l.length → Ev (fun k => P.cleatref21_Bools.l0 k l l (i : Int)) true := by
    intro d
    induction d with
    | zero =>
      intro i hi
      exact Ev.step (fun k => P.cleatref21_Bools.l0.eq_2 _ _ _ _) (Ev.congr (fun k => if_neg (by omega)) (Ev.now _))
    | succ d ih =>
      intro i hi
      have e1 : wrap64 ((i : Int) + 1) = ((i + 1 : Nat) : Int) := by rw [wrap64_small _ (by omega) (by omega)]; rfl
      refine Ev.step (fun k => P.cleatref21_Bools.l0.eq_2 _ _ _ _) (Ev.congr (fun k => if_pos (by omega)) (Ev.congr (fun k => if_pos (by omega)) (Ev.congr (fun k => if_pos (by omega)) (Ev.congr (fun k => if_neg (by simp)) ?_))))
      rw [e1]
      exact ih (i + 1) (by omega)
  unfold P.cleatref21_Bools.f
  exact Ev.congr (fun k => if_pos rfl) (go l.length 0 (by omega))
theorem boolsU (w : World) (sa sb : Nat) (l : List Bool) (hl : l.length ≤ 100000) (ha : BB w sa l) (hb : BB w sb l) :
    Calls Tryd.prog 28 #[.slice (some ⟨sa, 0, none⟩) l.length l.length, .slice (some ⟨sb, 0, none⟩) l.length l.length] w fun e w' => e = .returned (.bool true) ∧ Below w.heap.size w w' := by
  obtain ⟨K, hK⟩ := bools_same l hl
  have hm : l.length ≤ maxLen := by unfold maxLen; omega
  refine (P.cleatref21_Bools.calls K (some ⟨sa, 0, none⟩) l.length l (some ⟨sb, 0, none⟩) l.length l true w (bools_read ha hm) (Nat.le_refl _) (bools_read hb hm) (Nat.le_refl _) (hK K (Nat.le_refl _))).mono ?_
  intro e w' h
  exact ⟨h.1, h.2.below⟩
/-- The places of those that are true. -/
def allF (l : List Bool) (i : Nat) : List Int := ((List.range i).filter (fun j => l.getD j false)).map Int.ofNat
theorem allF_succ (l : List Bool) (i : Nat) : allF l (i + 1) = allF l i ++ (if l.getD i false = true then [(i : Int)] else []) := by
  unfold allF
  rw [List.range_succ, List.filter_append, List.map_append]
  congr 1
  by_cases h : l.getD i false = true
  · rw [if_pos h, List.filter_cons, if_pos h]; rfl
  · rw [if_neg h, List.filter_cons, if_neg h]; rfl
theorem allF_len (l : List Bool) (i : Nat) : (allF l i).length ≤ i := by
  unfold allF
  rw [List.length_map]
  exact Nat.le_trans (List.length_filter_le _ _) (by simp)
theorem allF_mem (l : List Bool) (z : Int) : z ∈ allF l l.length ↔ ∃ j : Nat, z = j ∧ sn l j := by
  unfold allF
  constructor
  · intro h
    obtain ⟨j, hj, rfl⟩ := List.mem_map.1 h
    exact ⟨j, rfl, (List.mem_filter.1 hj).2⟩
  · rintro ⟨j, rfl, hj⟩
    exact List.mem_map.2 ⟨j, List.mem_filter.2 ⟨List.mem_range.2 (sn_lt hj), hj⟩, rfl⟩
theorem rt_append (a b : List Int) (i : Nat) : Rt (a ++ b) i ↔ Rt a i ∨ Rt b i := by
  unfold Rt
  exact List.mem_append
theorem RS_congr {nd} {R S : Nat → Prop} (h : ∀ i, R i ↔ S i) (i : Nat) : RS nd R i ↔ RS nd S i := ⟨RS.wider fun i => (h i).1, RS.wider fun i => (h i).2⟩
theorem seen_ext {a b : List Bool} (hl : a.length = b.length) (h : ∀ i, sn a i ↔ sn b i) : a = b := by
  refine List.ext_getElem hl fun i h1 h2 => ?_
  have := h i
  unfold sn at this
  rw [List.getD_eq_getElem?_getD, List.getD_eq_getElem?_getD, List.getElem?_eq_getElem h1, List.getElem?_eq_getElem h2] at this
  simpa using this
theorem union_seen {us : List P.S36} {a b : List Int} {x y z : List Bool} (hx : ∀ i, sn x i ↔ RS (nd us) (Rt a) i) (hy : ∀ i, sn y i ↔ RS (nd us) (Rt b) i) (hz : ∀ i, sn z i ↔ RS (nd us) (Rt (a ++ b)) i) (i : Nat) : z.getD i false = (x.getD i false || y.getD i false) := by
  have h : sn z i ↔ sn x i ∨ sn y i := (hz i).trans ((RS_congr (rt_append a b) i).trans ((RS.or i).trans (or_congr (hx i) (hy i)).symm))
  unfold sn at h
  cases hzz : z.getD i false <;> cases hxx : x.getD i false <;> cases hyy : y.getD i false <;> simp_all
theorem again_seen {us : List P.S36} {r : List Int} {z v : List Bool} (hz : ∀ i, sn z i ↔ RS (nd us) (Rt r) i) (hl : z.length = us.length) (hv : ∀ i, sn v i ↔ RS (nd us) (Rt (allF z us.length)) i) (hlv : v.length = us.length) : v = z := by
  refine seen_ext (hlv.trans hl.symm) fun i => (hv i).trans ?_
  have h1 : ∀ i, Rt (allF z us.length) i ↔ RS (nd us) (Rt r) i := fun i => by
    rw [← hz i]
    unfold Rt
    rw [← hl, allF_mem]
    exact ⟨fun ⟨j, e, hj⟩ => by have : i = j := by omega
                                rw [this]; exact hj, fun h => ⟨i, rfl, h⟩⟩
  exact (RS_congr h1 i).trans ((RS.again i).trans (hz i).symm)
theorem all_rok {us : List P.S36} {z : List Bool} (hl : z.length = us.length) : ROk us (allF z us.length) := by
  intro q hq
  rw [← hl, allF_mem] at hq
  obtain ⟨j, rfl, hj⟩ := hq
  have := sn_lt hj
  omega
/-- What 'Reach' tells. -/
def RX (us : List P.S36) (roots : List Int) (W : World) (sx : Option Addr) (n : Nat) (code : Int) : Prop :=
  (code = 1 ∧ ¬ (UOk us ∧ ROk us roots)) ∨ (code = 0 ∧ UOk us ∧ ROk us roots ∧ n = us.length ∧ ∃ sb seen, sx = some ⟨sb, 0, none⟩ ∧ seen.length = us.length ∧ (∀ i, sn seen i ↔ RS (nd us) (Rt roots) i) ∧ BB W sb seen)
theorem RX.below {us roots W W1 sx n code} (h : RX us roots W sx n code) (hb : Below W.heap.size W W1) : RX us roots W1 sx n code := by
  rcases h with h | ⟨h1, h2, h3, h4, sb, seen, h5, h6, h7, h8⟩
  · exact .inl h
  · exact .inr ⟨h1, h2, h3, h4, sb, seen, h5, h6, h7, h8.below hb⟩
theorem reach_rx (w : World) (A A2 : Option Addr) (us : List P.S36) (roots : List Int) (c c2 : Nat) (hG : Glob w) (hu : UA w A us) (hc : us.length ≤ c) (hn : Narrow us) (hul : us.length ≤ 100000) (hr : IA w A2 roots) (hrl : roots.length ≤ 100000) :
    Calls Tryd.prog 26 #[.slice A us.length c, .slice A2 roots.length c2] w fun e w' => ∃ sx n code, e = .returned (.tuple #[.slice sx n n, .int .i64 code]) ∧ n ≤ 100000 ∧ RX us roots w' sx n code ∧ Below w.heap.size w w' := by
  refine (reach_any w A A2 us roots c c2 hG hu hc hn hul hr hrl).mono ?_
  rintro e w' ⟨hb, ⟨h, rfl⟩ | ⟨hok, hrk, sb, seen, rfl, h1, h2, h3, h4⟩⟩
  · exact ⟨none, 0, 1, rfl, by omega, .inl ⟨rfl, h⟩, hb⟩
  · exact ⟨some ⟨sb, 0, none⟩, seen.length, 0, rfl, by omega, .inr ⟨rfl, hok, hrk, h1, sb, seen, rfl, h1, h2, h3⟩, hb⟩
theorem reach_rx' (w : World) (A A2 : Option Addr) (us : List P.S36) (roots : List Int) (c n c2 : Nat) (hn2 : n = roots.length) (hG : Glob w) (hu : UA w A us) (hc : us.length ≤ c) (hn : Narrow us) (hul : us.length ≤ 100000) (hr : IA w A2 roots) (hrl : roots.length ≤ 100000) :
    Calls Tryd.prog 26 #[.slice A us.length c, .slice A2 n c2] w fun e w' => ∃ sx n code, e = .returned (.tuple #[.slice sx n n, .int .i64 code]) ∧ n ≤ 100000 ∧ RX us roots w' sx n code ∧ Below w.heap.size w w' := by
  subst hn2
  exact reach_rx w A A2 us roots c c2 hG hu hc hn hul hr hrl
theorem info_int1 : (Tryd.prog.info? 3).map (fun i => (i.zero, i.size, i.bytes)) = some (some (.int .i64 0), (Kd.int .i64).sz, 8) := P.info_int
set_option maxRecDepth 100000 in
set_option maxHeartbeats 8000000 in
theorem union_any (w : World) (A A2 A3 : Option Addr) (us : List P.S36) (ra rb : List Int) (c c2 c3 : Nat) (hG : Glob w) (hu : UA w A us) (hc : us.length ≤ c) (hh : Held us) (hra : IA w A2 ra) (hla : ra.length ≤ 17592186043904) (hrb : IA w A3 rb) (hlb : rb.length ≤ 17592186043904) :
    Calls Tryd.prog 11 #[.slice A us.length c, .slice A2 ra.length c2, .slice A3 rb.length c3] w fun e w' => e = .returned (.bool true) ∧ Below w.heap.size w w' := by
  obtain ⟨b, hb, hfew⟩ := bigU_calls us hh w A c hu hc
  have HBig := Aside0.mk hb
  have HG := Aside0.mk hG
  have HU := Aside0.mk hu
  have HRa := Aside0.mk hra
  have HRb := Aside0.mk hrb
  clear hb hG hu hra hrb
  cases b with
  | true =>
    go_enter Tryd.func11, Tryd.ntmps11
    go_wp2_with (go_at_call 12; (with_reducible refine HBig.out.mono ?_); rintro e w1 ⟨rfl, hb⟩; have HB := Aside0.mk hb; clear hb)
    go_ret
    exact ⟨rfl, HB.out⟩
  | false =>
    have HF := Aside0.mk (hfew rfl)
    clear hfew hh
    by_cases h3 : (ra.length : Int) + rb.length > 300
    · go_enter Tryd.func11, Tryd.ntmps11
      go_wp2_with (go_at_call 12; (with_reducible refine HBig.out.mono ?_); rintro e w1 ⟨rfl, hb⟩; have HB := Aside0.mk hb; clear hb)
      go_ret
      exact ⟨rfl, HB.out⟩
    · have hul := HF.out.1
      have hla2 : ra.length ≤ 300 := by omega
      have hlb2 : rb.length ≤ 300 := by omega
      clear hla hlb
      go_enter Tryd.func11, Tryd.ntmps11
      go_wp2_with fail
      (with_reducible refine HBig.out.mono ?_)
      rintro e w1 ⟨rfl, hb⟩
      have HB := Aside0.mk hb
      clear hb HBig
      go_wp2_with fail
      (with_reducible refine (reach_rx w1 A A2 us ra c c2 (HG.out.below HB.out) (Kd.C_below HU.out HB.out) hc HF.out.narrow (by omega) (Kd.C_below HRa.out HB.out) (by omega)).mono ?_)
      rintro e w2 ⟨sx, nx, kx, rfl, hnx, hx, hb⟩
      replace HB := Aside0.mk (below_step HB.out hb)
      have HX := Aside0.mk hx
      clear hb hx
      go_wp2_with fail
      (with_reducible refine (reach_rx w2 A A3 us rb c c3 (HG.out.below HB.out) (Kd.C_below HU.out HB.out) hc HF.out.narrow (by omega) (Kd.C_below HRb.out HB.out) (by omega)).mono ?_)
      rintro e w3 ⟨sy, ny, ky, rfl, hny, hy, hb⟩
      replace HB := Aside0.mk (below_step HB.out hb)
      replace HX := Aside0.mk (HX.out.below hb)
      have HY := Aside0.mk hy
      clear hb hy
      have HO0 := Aside0.mk (Kd.R_nil (Kd.int .i64) 3 w3 w.heap.size (fun _ => True))
      have HB3 := Aside0.mk (show Below w3.heap.size w3 w3 from Below.refl _ _)
      go_wp2_with (first
        | (at_builtin; refine Kd.R_append_rows (Kd.int .i64) w3.heap.size rfl (.tmp 40) (.tmp 41) 25 3 (.int .i64 0) 8 rfl Tryd.underlying25 info_int1 rfl (by decide) (by decide) (.slice none 0 0) [] ra A2 ra.length c2 (fun _ => True) (fun _ => False) rfl rfl (Kd.R_nil (Kd.int .i64) 3 w3 w3.heap.size (fun _ => True)) (Kd.C_below HRa.out HB.out) (fun _ _ h => h) (fun _ h => h.elim) (fun _ _ => trivial) HB3.out (Nat.le_refl _) (by simp; omega) ?_; intro v1 w4 ho1 hb1 hg1 _; obtain ⟨A4, c4, rfl⟩ := Kd.R_slice ho1; have HO1 := Aside0.mk ho1; have HB4 := Aside0.mk hb1; clear ho1 hb1 hg1)
        | (at_builtin; refine Kd.R_append_rows (Kd.int .i64) w3.heap.size rfl (.tmp 43) (.tmp 44) 25 3 (.int .i64 0) 8 rfl Tryd.underlying25 info_int1 rfl (by decide) (by decide) _ ([] ++ ra) rb A3 rb.length c3 (fun _ => True) (fun _ => False) rfl rfl HO1.out (Kd.C_below HRb.out (below_step HB.out HB4.out)) (fun _ _ h => h) (fun _ h => h.elim) (fun _ _ => trivial) HB4.out HB4.out.size (by simp; omega) ?_; intro v2 w5 ho2 hb2 hg2 _; obtain ⟨A5, c5, rfl⟩ := Kd.R_slice ho2; have HO2 := Aside0.mk ho2; have HB5 := Aside0.mk hb2; clear ho2 hb2 hg2))
      replace HB := Aside0.mk (below_step HB.out HB5.out)
      replace HX := Aside0.mk (HX.out.below HB5.out)
      replace HY := Aside0.mk (HY.out.below HB5.out)
      have HRr := Aside0.mk (show IA w5 A5 (ra ++ rb) from (by obtain ⟨_, _, h⟩ := Kd.R_reads' HO2.out; rw [List.nil_append] at h; exact h))
      clear HO0 HB3 HB4 HB5 HO1 HO2
      (with_reducible refine (reach_rx' w5 A A5 us (ra ++ rb) c _ c5 (by simp) (HG.out.below HB.out) (Kd.C_below HU.out HB.out) hc HF.out.narrow (by omega) HRr.out (by simp; omega)).mono ?_)
      rintro e w6 ⟨sz, nz, kz, rfl, hnz, hz, hb⟩
      replace HB := Aside0.mk (below_step HB.out hb)
      replace HX := Aside0.mk (HX.out.below hb)
      replace HY := Aside0.mk (HY.out.below hb)
      have HZ := Aside0.mk hz
      clear hb hz HRr
      by_cases hbad : (UOk us ∧ ROk us ra) ∧ ROk us rb
      · obtain ⟨⟨hok, hoa⟩, hob⟩ := hbad
        rcases HX.out with ⟨_, h⟩ | ⟨rfl, _, _, rfl, sa, xs, rfl, hxl, hxs, hxb⟩
        · exact absurd ⟨hok, hoa⟩ h
        rcases HY.out with ⟨_, h⟩ | ⟨rfl, _, _, rfl, sb, ys, rfl, hyl, hys, hyb⟩
        · exact absurd ⟨hok, hob⟩ h
        rcases HZ.out with ⟨_, h⟩ | ⟨rfl, _, _, rfl, sc, zs, rfl, hzl, hzs, hzb⟩
        · exact absurd ⟨hok, fun q hq => (List.mem_append.1 hq).elim (hoa q) (hob q)⟩ h
        have HXb := Aside0.mk hxb
        have HYb := Aside0.mk hyb
        have HZb := Aside0.mk hzb
        have HUs := Aside0.mk (union_seen hxs hys hzs)
        have HZs := Aside0.mk hzs
        have HLs := Aside0.mk (And.intro hxl (And.intro hyl hzl))
        clear hxb hyb hzb hxs hys hzs hxl hyl hzl HX HY HZ hnx hny hnz hok hoa hob
        have hne : ((us.length : Int) != us.length) = false := by simp
        have hne2 : (us.length != us.length) = false := by simp
        go_wp2
        clear hne hne2
        go_loopw [14, 15] (fun v14 v15 wr => ∃ i : Nat, i ≤ us.length ∧ v15 = .int .i64 i ∧ Aside0 (Kd.R (Kd.int .i64) 3 wr w6.heap.size (fun _ => True) v14 (allF zs i)) ∧ Aside0 (Below w6.heap.size w6 wr)) (fun _ v _ => us.length - (RowKit.intOf v).toNat)
        case atStart => exact ⟨0, Nat.zero_le _, rfl, ⟨Kd.R_nil (Kd.int .i64) 3 w6 w6.heap.size (fun _ => True)⟩, ⟨Below.refl _ _⟩⟩
        case round =>
          obtain ⟨i, hi, rfl, HO, HBr⟩ := hrel
          by_cases hlt : i < us.length
          · have cz := (HZb.out.below HBr.out).cell i (by rw [HLs.out.2.2]; exact hlt)
            have cx := (HXb.out.below HBr.out).cell i (by rw [HLs.out.1]; exact hlt)
            have cy := (HYb.out.below HBr.out).cell i (by rw [HLs.out.2.1]; exact hlt)
            have HSc := Aside0.mk (allF_succ zs i)
            have hfl := allF_len zs i
            obtain ⟨n14, hn14⟩ : ∃ n, n = (allF zs i).length := ⟨_, rfl⟩
            rw [← hn14] at hfl
            have HN14 := Aside0.mk hn14
            clear hn14
            rw [HUs.out i] at cz
            rw [HUs.out i] at HSc
            have i0 : (0 : Int) ≤ (i : Int) := by omega
            have i1 : (i : Int) < us.length := by omega
            cases hbx : xs.getD i false <;> cases hby : ys.getD i false <;> rw [hbx, hby] at cz HSc <;> rw [hbx] at cx <;> rw [hby] at cy <;> clear hbx hby <;> simp only [Bool.or_false, Bool.or_true, Bool.false_or, Bool.true_or] at cz HSc
            case false.false =>
              go_wp2
              go_quiet (fail)
              go_wp2
              go_roundw
              case rel => exact ⟨i + 1, by omega, by go_num, ⟨by rw [HSc.out, if_neg (by decide), List.append_nil]; exact Kd.R_drewN HO.out _⟩, ⟨pw_below_drewN HBr.out _⟩⟩
              case measure => simp [RowKit.intOf]; omega
            all_goals
              go_wp2
              go_quiet (fail)
              go_wp2_with (at_builtin; refine Kd.R_append_rows (Kd.int .i64) (w0 := w6) w6.heap.size rfl _ _ 25 3 (.int .i64 0) 8 rfl Tryd.underlying25 info_int1 rfl (by decide) (by decide) _ (allF zs i) [(i : Int)] (some ⟨wr.heap.size, 0, none⟩) 1 1 (fun _ => True) (fun _ => False) rfl rfl (Kd.R_alloc (Kd.R_drewN HO.out _) _) (ints_read (l := [(i : Int)]) (blk_new _ (.cells #[.int .i64 (i : Int)] 3 (0, 0))) (by show 1 ≤ maxLen; decide)) (fun _ _ h => h) (fun _ h => h.elim) (fun _ _ => trivial) ((pw_below_drewN HBr.out _).alloc HBr.out.size _) ((pw_below_drewN HBr.out _).alloc HBr.out.size _).size (by rw [← HN14.out]; omega) ?_; intro v1 w7 ho1 hb1 _ _; have HO1 := Aside0.mk ho1; have HB1 := Aside0.mk hb1; clear ho1 hb1)
              go_roundw
              case rel => exact ⟨i + 1, by omega, by go_num, ⟨by rw [HSc.out]; exact HO1.out⟩, HB1⟩
              case measure => simp [RowKit.intOf]; omega
          · obtain rfl : i = us.length := by omega
            obtain ⟨Aa, ca, rfl, hla, hC⟩ := Kd.R_reads HO.out
            have hfl := allF_len zs us.length
            replace HB := Aside0.mk (below_step HB.out HBr.out)
            replace HZb := Aside0.mk (HZb.out.below HBr.out)
            have HC := Aside0.mk hC
            clear HO HBr hC hlt hi HXb HYb
            go_wp2_with fail
            (with_reducible refine (reach_rx wr A Aa us (allF zs us.length) c ca (HG.out.below HB.out) (Kd.C_below HU.out HB.out) hc HF.out.narrow (by omega) HC.out (by omega)).mono ?_)
            rintro e w8 ⟨sv, nv, kv, rfl, hnv, hv, hb⟩
            replace HB := Aside0.mk (below_step HB.out hb)
            replace HZb := Aside0.mk (HZb.out.below hb)
            clear hb HC
            rcases hv with ⟨_, h⟩ | ⟨rfl, _, _, rfl, sd, vs, rfl, hvl, hvs, hvb⟩
            · exact absurd ⟨by assumption, all_rok HLs.out.2.2⟩ h
            obtain rfl := again_seen HZs.out HLs.out.2.2 hvs hvl
            have HVb := Aside0.mk hvb
            have hvl2 := hvl
            clear hvb hvs hvl
            go_wp2_with fail
            (with_reducible refine (linked_any w8 (HG.out.below HB.out)).mono ?_)
            rintro e w9 ⟨rfl, hb⟩
            replace HB := Aside0.mk (below_step HB.out hb)
            replace HZb := Aside0.mk (HZb.out.below hb)
            replace HVb := Aside0.mk (HVb.out.below hb)
            clear hb
            have HBo := Aside0.mk (boolsU w9 sd sc vs (by omega) HVb.out HZb.out)
            rw [hvl2] at HBo
            go_wp2_with fail
            (with_reducible refine HBo.out.mono ?_)
            rintro e w10 ⟨rfl, hb⟩
            replace HB := Aside0.mk (below_step HB.out hb)
            clear hb
            go_wp2
            go_ret
            exact ⟨rfl, HB.out⟩
      · have hk : (kx = 1 ∨ (kx = 0 ∧ ky = 1)) ∧ kz = 1 := by
          refine ⟨?_, ?_⟩
          · rcases HX.out with ⟨h, _⟩ | ⟨h, h1, h2, _⟩
            · exact .inl h
            · rcases HY.out with ⟨k, _⟩ | ⟨_, _, k2, _⟩
              · exact .inr ⟨h, k⟩
              · exact absurd ⟨⟨h1, h2⟩, k2⟩ hbad
          · rcases HZ.out with ⟨h, _⟩ | ⟨_, h1, h2, _⟩
            · exact h
            · exact absurd ⟨⟨h1, fun q hq => h2 q (List.mem_append_left _ hq)⟩, fun q hq => h2 q (List.mem_append_right _ hq)⟩ hbad
        obtain ⟨hk, rfl⟩ := hk
        clear HX HY HZ hbad
        rcases hk with rfl | ⟨rfl, rfl⟩
        all_goals
          go_wp2_with fail
          (with_reducible refine (linked_any w6 (HG.out.below HB.out)).mono ?_)
          rintro e w7 ⟨rfl, hb⟩
          replace HB := Aside0.mk (below_step HB.out hb)
          clear hb
          go_wp2
          go_ret
          exact ⟨rfl, HB.out⟩
end Go.Proofs.YtngmipfodjgmmaaDoor.Pure
