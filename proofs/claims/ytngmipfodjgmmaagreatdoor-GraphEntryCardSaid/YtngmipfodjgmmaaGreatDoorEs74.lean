/- 'graph.Flat' walked: the names and the kinds of the units. -/
import Derived.Test.YtngmipfodjgmmaaGreatDoorEs73
namespace Go.Proofs.YtngmipfodjgmmaaGreatDoor.Pure
open Go Go.RowKit Go.Lib Go.Shelf Go.Proofs.YtngmipfodjgmmaaGreatDoorW.PrintWords Go.Proofs.YtngmipfodjgmmaaGreatDoorW.PrintLast Go.Proofs.YtngmipfodjgmmaaGreatDoorW.PrintMore
open P (Glob root_at)
set_option linter.unusedVariables false
set_option linter.unusedSimpArgs false
/-- A unit of which the name and the kind alone are told. -/
def kNK : Kd (ByteArray × Int) where
 sz := 6
 E := []
 K := fun _ x cs => ∃ b a d A n c, cs = [.string x.1, .int .i64 x.2, .bool b, .int .i64 a, .string d, .slice A n c]
 M := fun _ _ _ x cs => ∃ b a d A n c, cs = [.string x.1, .int .i64 x.2, .bool b, .int .i64 a, .string d, .slice A n c]
 K_len := by rintro w x cs ⟨b, a, d, A, n, c, rfl⟩; rfl
 K_one := by
  rintro w x cs ⟨b, a, d, A, n, c, rfl⟩ u hu
  simp only [List.mem_cons, List.not_mem_nil, or_false] at hu
  rcases hu with rfl | rfl | rfl | rfl | rfl | rfl <;> rfl
 K_below := fun _ h => h
 K_of_M := fun h => h
 M_mono := fun _ h => h
 M_bound := fun h => h
 M_move := fun _ h => h
 M_lower := fun _ h => h
def FlatPost (os : List Ob) (w : World) (e : Ending) (w' : World) : Prop := Below w.heap.size w w' ∧ ((∃ c o k, c ≠ 0 ∧ e = .returned (.tuple #[.slice none 0 0, .agg #[.int .i64 c, .int .i64 o, .int .i64 k]])) ∨
 (AllOkO os ∧ ∃ A cp, e = .returned (.tuple #[.slice A (fk os os.length).length cp, .agg #[.int .i64 0, .int .i64 0, .int .i64 0]]) ∧ (fk os os.length).length ≤ cp ∧ Kd.C kNK w' A (fk os os.length).length (fk os os.length)))
theorem flt_ne {os : List Ob} {c o k : Int} (h : Flt os c o k) : c ≠ 0 := by
 rcases h with ⟨h1, h2, _⟩ | ⟨_, i, j, _, rfl, _⟩ | ⟨_, _, i, j, _, rfl, _⟩
 ·exact fun e => h1 (h2.ok.1 e)
 ·decide
 ·decide
/-- Where the places lie. -/
def PlAt (os : List Ob) (al : Nat) (W : World) : Prop := ∀ i, i < os.length → ∃ A cp, W.cell? ⟨al, i, none⟩ = some (.slice A (nsy os i) cp) ∧ nsy os i ≤ cp ∧ Kd.C P.k49 W A (nsy os i) (plRow os i (nsy os i))
theorem PlAt.of {B : Nat} {os : List Ob} {al : Nat} {vs : List Value} {W : World} (h : Rows2 B os al vs os.length 0 W) : PlAt os al W := fun i hi => by
 have hr := h.row i hi
 have e : toldN os os.length 0 i = nsy os i := if_pos hi
 rw [e] at hr
 obtain ⟨A, cp, ev, hl, hC⟩ := Kd.R_reads hr
 have el : (plRow os i (nsy os i)).length = nsy os i := by simp [plRow]
 rw [el] at ev hl hC
 refine ⟨A, cp, ?_, hl, hC⟩
 have hc := kCC h.blk i
 rw [hc, ← ev]
 have : i < vs.length := by rw [h.len]; exact hi
 simp [this]
theorem PlAt.below {os : List Ob} {al : Nat} {W W' : World} (h : PlAt os al W) (hb : Below W.heap.size W W') : PlAt os al W' := fun i hi => by
 obtain ⟨A, cp, h1, h2, h3⟩ := h i hi
 exact ⟨A, cp, kp1 h1 hb, h2, Kd.C_below h3 hb⟩
theorem nk_types : ∀ q, q ∈ 39 :: kNK.E → q ≠ 45 := fun q hq => by
 have : q = 39 := by simpa [kNK] using hq
 subst this
 decide
theorem info_unit : (Tryz.prog.info? 39).map (fun i => (i.zero, i.size, i.bytes)) = some (some (.agg #[.string ⟨#[]⟩, .int .i64 0, .bool false, .int .i64 0, .string ⟨#[]⟩, .slice none 0 0]), 6, 80) := by kernel_rfl
theorem nk_one {W : World} {g t : Nat} {n d : ByteArray} {k a : Int} {b : Bool} {A : Option Addr} {m c : Nat} (h : W.heap[g]? = some (.cells #[.string n, .int .i64 k, .bool b, .int .i64 a, .string d, .slice A m c] t (0, 0))) : Kd.C kNK W (some ⟨g, 0, none⟩) 1 [(n, k)] :=
 C_blkH (d := kNK) (xs := [(n, k)]) (inner := ([] : List Value) ++ [.string n, .int .i64 k, .bool b, .int .i64 a, .string d, .slice A m c]) h ((Reps.none (kNK.K W) 6).snoc ⟨b, a, d, A, m, c, rfl⟩ rfl) (by simp [maxLen])
theorem rd_plRowF {os : List Ob} {o n k : Nat} (hk : k < n) : P.rd_T49 (plRow os o n) k = plS os o k := by
 unfold P.rd_T49 plRow
 rw [Int.toNat_natCast, List.getD_eq_getElem?_getD, List.getElem?_map, List.getElem?_range hk]
 rfl
theorem info_ref : (Tryz.prog.info? 80).map (fun i => (i.zero, i.size, i.bytes)) = some (some (.agg #[.int .i64 0, .int .i64 0, .int .i64 0, .int .i64 0]), 4, 32) := by kernel_rfl
theorem ref_types : ∀ q, q ∈ 80 :: P.k80.E → q ≠ 39 := by decide
set_option maxRecDepth 100000 in
set_option maxHeartbeats 8000000 in
theorem flat_any (w : World) (A : Option Addr) (c : Nat) (os : List Ob) (hG : Glob w) (hos : OA w A os) (hc : os.length ≤ c) (hf : FewL os) :
 Calls Tryz.prog 37 #[.slice A os.length c] w (FlatPost os w) := by
 have hb0 := bAA (Below.refl w.heap.size w) (.cells #[.int .i64 0, .int .i64 0, .int .i64 0] 45)
 have HB0 := Azz.mk hb0
 have HRs := Azz.mk (resolve_any _ A c os (hG.below hb0) (Kd.C_below hos hb0) hc hf)
 have HO := Azz.mk hos
 have HF := Azz.mk hf
 have hol := hf.1
 clear hG hos hf hb0
 go_enter Tryz.func37, Tryz.ntmps37
 go_wp2_with fail
 (with_reducible refine HRs.out.mono ?_)
 rintro en w1 ⟨hb, hr⟩
 have HB1 := Azz.mk (bTT HB0.out hb)
 have HX1 := Azz.mk (kBB (blk_new w (.cells #[.int .i64 0, .int .i64 0, .int .i64 0] 45)) hb)
 have hsz : w.heap.size < w1.heap.size := by have := hb.size; rw [World.size_alloc] at this; omega
 clear hb HRs
 rcases hr with ⟨fc, fo, fk_, hflt, rfl⟩ | ⟨hok, _, hnl, al, vs, rfl, hrows, hal⟩
 ·have hne := flt_ne hflt
  have b1 : (fc != 0) = true := by simpa using hne
  have HNe := Azz.mk hne
  obtain ⟨y0, y1, y2⟩ := cq3 (kAA HX1.out (.cells #[.int .i64 fc, .int .i64 fo, .int .i64 fk_] 45))
  have yf := frzq (kAA HX1.out (.cells #[.int .i64 fc, .int .i64 fo, .int .i64 fk_] 45))
  obtain ⟨z0, z1, z2⟩ := cq3 (blk_new w1 (.cells #[.int .i64 fc, .int .i64 fo, .int .i64 fk_] 45))
  have n1 : w.heap.size ≠ w1.heap.size := by omega
  have n2 : w1.heap.size ≠ w.heap.size := by omega
  clear hflt hne
  clear y0 y1 y2 yf n1 n2
  have HXd := Azz.mk (show (w1.alloc (.cells #[.int .i64 fc, .int .i64 fo, .int .i64 fk_] 45)).drew.heap[w.heap.size]? = some (.cells #[.int .i64 0, .int .i64 0, .int .i64 0] 45 (0, 0)) from kAA HX1.out _)
  have HBd := Azz.mk (bDD (bAA HB1.out (.cells #[.int .i64 fc, .int .i64 fo, .int .i64 fk_] 45)))
  go_wp2
  refine start_ (n := 3) (S := fun w' => w'.cell? ⟨w1.heap.size, 0, none⟩ = some (.int .i64 fc) ∧ w'.cell? ⟨w1.heap.size, 1, none⟩ = some (.int .i64 fo) ∧ w'.cell? ⟨w1.heap.size, 2, none⟩ = some (.int .i64 fk_)) (ds := [2]) #[false, false, false] (by kernel_rfl) rfl rfl ⟨z0, z1, z2⟩ (fun hHeld => ?_)
  generalize (w1.alloc (.cells #[.int .i64 fc, .int .i64 fo, .int .i64 fk_] 45)).drew = Vd at HXd HBd hHeld ⊢
  refine take_ (i := 0) (N := some 24) (v := ?_) (a' := ?_) #[true, false, false] rfl rfl (by kernel_rfl) (fun _ _ _ h => h) (Or.inl ⟨by rfl, ?_⟩) hHeld ?_ ?_
  rotate_left
  ·rintro w' ⟨s0_, s1_, s2_⟩
   go_simp
   with_reducible rfl
  rotate_left
  ·simp only [Act.put, List.setIfInBounds_toArray, List.set_cons_zero, List.set_cons_succ, i64_w, i32_w]
   rfl
  refine pure_ (i := 1) (N := some 2) (v := ?_) (a' := ?_) #[true, true, false] rfl rfl (by kernel_rfl) (fun _ _ _ h => h) (Or.inl ⟨by rfl, ?_⟩) ?_ ?_
  rotate_left
  ·intro w'
   go_simp
   with_reducible rfl
  rotate_left
  ·simp only [Act.put, List.setIfInBounds_toArray, List.set_cons_zero, List.set_cons_succ, i64_w, i32_w]
   rfl
  refine last_ (i := 2) (N := none) #[true, true, true] rfl rfl (by kernel_rfl) (by decide) (fun K hK => ?_)
  have hcs := cq3 HXd.out
  have hfs := frzq HXd.out
  obtain ⟨hc0_, hc1_, hc2_⟩ := hcs
  refine skip_ (w1 := ?_) (by rfl) rfl ?_ ?_
  rotate_left
  ·go_simp
   rfl
  refine hK.out _ _ ?_
  clear hK K
  refine done_ (by kernel_rfl) ?_
  go_wp2
  have hq := set3_same Vd w.heap.size 45 (.int .i64 0) (.int .i64 0) (.int .i64 0) (.int .i64 fc) (.int .i64 fo) (.int .i64 fk_) HXd.out
  obtain ⟨q0, q1, q2⟩ := cq3 hq
  refine bodyPost_ret (v := .tuple #[.slice none 0 0, .agg #[.int .i64 fc, .int .i64 fo, .int .i64 fk_]]) (by simp [results, Tryz.results37, go_sem, q0, q1, q2]) rfl ⟨?_, .inl ⟨fc, fo, fk_, HNe.out, rfl⟩⟩
  exact below_set3 HBd.out (Nat.le_refl _) _ _ _
 ·have HOk := Azz.mk hok
  have HNl := Azz.mk hnl
  have HPl := Azz.mk (PlAt.of hrows)
  clear hok hnl hrows hal
  go_wp2_with fail
  have hba := bAA (Below.refl _ w1) (.cells #[.int .i64 0, .int .i64 0, .int .i64 0] 45)
  (with_reducible refine (firsts_any _ A c os (Kd.C_below HO.out (bTT HB1.out hba)) HF.out).mono ?_)
  rintro en w2 ⟨af, cf, rfl, hlf, hCf, hb⟩
  have hb12 := bTT hba hb
  have HB2 := Azz.mk (bTT HB1.out hb12)
  have HX2 := Azz.mk (kBB HX1.out hb12)
  have HPl2 := Azz.mk (HPl.out.below hb12)
  have HCf := Azz.mk hCf
  have hsz2 : w.heap.size < w2.heap.size := by have := hb12.size; omega
  clear hb hb12 hba hCf HPl HX1
  go_wp2
  go_loopw [7, 29] (fun v7 v wr => ∃ i : Nat, i ≤ os.length ∧ v = .int .i64 i ∧ Azz (Kd.R kNK 39 wr w2.heap.size (fun _ => True) v7 (fk os i)) ∧ Azz (Below w2.heap.size w2 wr)) (fun _ v _ => os.length - (RowKit.intOf v).toNat)
  case atStart => exact ⟨0, Nat.zero_le _, rfl, ⟨Kd.R_nil _ _ _ _ _⟩, ⟨Below.refl _ _⟩⟩
  case round =>
   obtain ⟨i, hi, rfl, HR, HB⟩ := hrel
   by_cases hlt : i < os.length
   ·obtain ⟨ad, A0, c0, A1, c1, e, x0, x1, l0, C0, l1, C1⟩ := P.at_T68 (Kd.C_below HO.out HB2.out) i (by omega) (by omega)
    cases e
    rw [Int.toNat_natCast] at x0 x1
    obtain ⟨o, ho⟩ : ∃ o, obN os i = o := ⟨_, rfl⟩
    have HOe := Azz.mk ho
    unfold obN at ho
    rw [ho] at x0 x1 l0 C0 l1
    clear ho C1
    have hsl := (HF.out.2 i hlt).secs
    rw [HOe.out] at hsl
    have i0 : (0 : Int) ≤ (i : Int) := by omega
    have i1 : (i : Int) < os.length := by omega
    have HC0 := Azz.mk C0
    replace x0 := kp1 x0 HB.out
    replace x1 := kp1 x1 HB.out
    have HBo := Azz.mk (bAA HB.out (.cells #[.slice A0 o.f0.length c0, .slice A1 o.f1.length c1] 68))
    have HR9 := Azz.mk (Kd.R_alloc HR.out (.cells #[.slice A0 o.f0.length c0, .slice A1 o.f1.length c1] 68))
    clear C0
    go_wp2
    clear x0 x1 HR HB
    generalize wr.alloc (.cells #[.slice A0 o.f0.length c0, .slice A1 o.f1.length c1] 68) = W9 at HBo HR9 ⊢
    go_loopw [7, 37] (fun v7 v wm => ∃ k : Nat, k ≤ o.f0.length ∧ v = .int .i64 k ∧ Azz (Kd.R kNK 39 wm w2.heap.size (fun _ => True) v7 (fk os i ++ (o.f0.take k).map skOf)) ∧ Azz (Below w2.heap.size w2 wm)) (fun _ v _ => o.f0.length - (RowKit.intOf v).toNat)
    case atStart => exact ⟨0, Nat.zero_le _, rfl, ⟨by rw [List.take_zero, List.map_nil, List.append_nil]; exact HR9.out⟩, HBo⟩
    case round =>
     clear HR9
     obtain ⟨k, hk, rfl, HR, HBk⟩ := hrel
     obtain ⟨wm, hwm⟩ : ∃ x, x = wr := ⟨_, rfl⟩
     subst hwm
     by_cases hkl : k < o.f0.length
     ·obtain ⟨ae, A5, c5, e, y0, y1, y2, y3, y4, y5, l5, g5⟩ := P.at_T64 (Kd.C_below HC0.out HBk.out) k (by omega) (by omega)
      cases e
      rw [Int.toNat_natCast] at y0 y1 y2 y3 y4 y5
      obtain ⟨s, hs⟩ : ∃ s, P.rd_T64 o.f0 (k : Int) = s := ⟨_, rfl⟩
      have HSe := Azz.mk hs
      rw [hs] at y0 y1 y2 y3 y4 y5 l5 g5
      have HSn := Azz.mk (show seN o k = s from hs)
      clear hs
      have hrl : s.f5.length ≤ 80 := by
       have h := ((HF.out.2 i hlt).sec k (by rw [HOe.out]; exact hkl)).2.1
       rw [HOe.out, HSn.out] at h
       exact h
      have k0 : (0 : Int) ≤ (k : Int) := by omega
      have k1 : (k : Int) < o.f0.length := by omega
      have HG5 := Azz.mk g5
      have HX0 := Azz.mk (blk_n2 wm (.cells #[.string s.f0, .int .i64 s.f1, .bool s.f2, .int .i64 s.f3, .string s.f4, .slice A5 s.f5.length c5] 64) (.cells #[.string s.f0, .int .i64 s.f1, .bool s.f2, .int .i64 s.f3, .string s.f4, .slice none 0 0] 39))
      have HBi0 := Azz.mk (bAA (bAA (Below.refl wm.heap.size wm) (.cells #[.string s.f0, .int .i64 s.f1, .bool s.f2, .int .i64 s.f3, .string s.f4, .slice A5 s.f5.length c5] 64)) (.cells #[.string s.f0, .int .i64 s.f1, .bool s.f2, .int .i64 s.f3, .string s.f4, .slice none 0 0] 39))
      clear g5
      go_wp2
      clear y0 y1 y2 y3 y4 y5
      generalize (wm.alloc (.cells #[.string s.f0, .int .i64 s.f1, .bool s.f2, .int .i64 s.f3, .string s.f4, .slice A5 s.f5.length c5] 64)).alloc (.cells #[.string s.f0, .int .i64 s.f1, .bool s.f2, .int .i64 s.f3, .string s.f4, .slice none 0 0] 39) = WI at HX0 HBi0 ⊢
      go_loopw [55] (fun v wi => ∃ (j : Nat) (rs : List P.S80) (v5 : Value), j ≤ s.f5.length ∧ v = .int .i64 j ∧ rs.length ≤ j ∧ Azz (wi.heap[wm.heap.size + 1]? = some (.cells #[.string s.f0, .int .i64 s.f1, .bool s.f2, .int .i64 s.f3, .string s.f4, v5] 39 (0, 0))) ∧ Azz (Kd.R P.k80 80 wi wm.heap.size (fun _ => True) v5 rs) ∧ Azz (Below wm.heap.size wm wi)) (fun v _ => s.f5.length - (RowKit.intOf v).toNat)
      case atStart => exact ⟨0, [], .slice none 0 0, Nat.zero_le _, rfl, Nat.le_refl _, HX0, ⟨Kd.R_nil _ _ _ _ _⟩, HBi0⟩
      case round =>
       clear HX0 HBi0
       obtain ⟨j, rs, v5, hj, rfl, hrs, HX, HRf, HBi⟩ := hrel
       obtain ⟨wi, hwi⟩ : ∃ x, x = wr := ⟨_, rfl⟩
       subst hwi
       by_cases hjl : j < s.f5.length
       ·obtain ⟨at_, e, t0, t1, t2, t3⟩ := P.at_T98 (Kd.C_below HG5.out HBi.out) j (by omega) (by omega)
        cases e
        rw [Int.toNat_natCast] at t0 t1 t2 t3
        obtain ⟨r, hr⟩ : ∃ r, P.rd_T98 s.f5 (j : Int) = r := ⟨_, rfl⟩
        rw [hr] at t0 t1 t2 t3
        have hsg := (HOk.out.2 i hlt).sec k (by rw [HOe.out]; exact hkl)
        rw [HOe.out] at hsg
        obtain ⟨_, his, hrl2⟩ := hsg
        rw [HSn.out] at his hrl2
        have hq0 : 0 ≤ r.f2 := by
         have hR := (is_iff _).1 his
         have e : P.rd_T98 s.f5 (j : Int) = s.f5[j] := rd_get _ _ _ hjl
         have hm : r ∈ s.f5 := by rw [← hr, e]; exact List.getElem_mem hjl
         exact rels_syms _ _ _ _ hR.each r hm
        have hq1 : r.f2 < nsy os i := by
         have h := hrl2 j hjl
         rw [hr] at h
         have e : nsy os i = o.f1.length := by rw [← HOe.out]; rfl
         rw [e]
         exact h
        obtain ⟨q, hq⟩ : ∃ q : Nat, r.f2 = q := ⟨r.f2.toNat, (Int.toNat_of_nonneg hq0).symm⟩
        rw [hq] at t2 hq1
        have hqn : q < nsy os i := by omega
        obtain ⟨Ap, cp, ca, hcp, hCp⟩ := HPl2.out i hlt
        obtain ⟨ap, e, c0_, c1_, c2_⟩ := P.at_T49 hCp q (by omega) (by omega)
        cases e
        rw [Int.toNat_natCast] at c0_ c1_ c2_
        rw [rd_plRowF hqn] at c0_ c1_ c2_
        obtain ⟨i2, k2, e0, e1, hi2, hk2, hf2⟩ := plS_in HOk.out HNl.out hlt hqn
        rw [e0] at c0_
        rw [e1] at c1_
        obtain ⟨f2, hf2e⟩ : ∃ f, (plS os i q).f2 = f := ⟨_, rfl⟩
        rw [hf2e] at c2_ hf2
        have HF2 := Azz.mk hf2
        have HI2 := Azz.mk hi2
        have hbw : Below w2.heap.size w2 wi := bTT HBk.out HBi.out
        have hb1 := bAA (Below.refl wi.heap.size wi) (.cells #[.int .i64 r.f0, .int .i64 r.f1, .int .i64 (q : Int), .int .i64 r.f3] 98)
        have hb2 := bTT hbw hb1
        replace ca := kp1 ca hb2
        replace c0_ := kp1 c0_ hb2
        replace c1_ := kp1 c1_ hb2
        replace c2_ := kp1 c2_ hb2
        have hrel := blk_new wi (.cells #[.int .i64 r.f0, .int .i64 r.f1, .int .i64 (q : Int), .int .i64 r.f3] 98)
        obtain ⟨g0, g1, g2, g3⟩ := cl4 hrel
        have HRel := Azz.mk hrel
        have HXv := Azz.mk (kAA HX.out (.cells #[.int .i64 r.f0, .int .i64 r.f1, .int .i64 (q : Int), .int .i64 r.f3] 98))
        have HRv := Azz.mk (Kd.R_alloc HRf.out (.cells #[.int .i64 r.f0, .int .i64 r.f1, .int .i64 (q : Int), .int .i64 r.f3] 98))
        have HBv := Azz.mk (bAA HBi.out (.cells #[.int .i64 r.f0, .int .i64 r.f1, .int .i64 (q : Int), .int .i64 r.f3] 98))
        have hszv : wm.heap.size + 1 < wi.heap.size := (Array.getElem?_eq_some_iff.1 HX.out).1
        have i0' : (0 : Int) ≤ (j : Int) := by omega
        have i1' : (j : Int) < s.f5.length := by omega
        have q0 : (0 : Int) ≤ (q : Int) := by omega
        have q1 : ((q : Int) < 0) = False := by simp
        have q2 : (q : Int) < (nsy os i : Int) := by omega
        have q3 : ((nsy os i : Int) ≤ (q : Int)) = False := by simp; omega
        have a1 : ((i : Int) < 0) = False := by simp
        have a2 : ((os.length : Int) ≤ (i : Int)) = False := by simp; omega
        clear hr his hrl2 hq0 hq hqn hCp hcp e0 e1 hf2 hbw hb1 hb2 hrel hf2e
        go_wp2
        clear t0 t1 t2 t3
        have hsz1 : (wi.alloc (.cells #[.int .i64 r.f0, .int .i64 r.f1, .int .i64 (q : Int), .int .i64 r.f3] 98)).heap.size = wi.heap.size + 1 := by simp
        generalize wi.alloc (.cells #[.int .i64 r.f0, .int .i64 r.f1, .int .i64 (q : Int), .int .i64 r.f3] 98) = V1 at ca c0_ c1_ c2_ g0 g1 g2 g3 HRel HXv HRv HBv hsz1 ⊢
        refine start_ (n := 10) (S := fun w' => w'.cell? ⟨al, i, none⟩ = some (.slice (some ap) (nsy os i) cp) ∧ w'.cell? ⟨wi.heap.size, 2, none⟩ = some (.int .i64 (q : Int)) ∧ w'.cell? (ap.add (q * 3)) = some (.int .i64 (i2 : Int)) ∧ w'.cell? ⟨(ap.add (q * 3)).block, (ap.add (q * 3)).off + 1, none⟩ = some (.int .i64 (k2 : Int)) ∧ w'.cell? ⟨(ap.add (q * 3)).block, (ap.add (q * 3)).off + 2, none⟩ = some (.int .i64 f2)) (ds := [9]) #[false, false, false, false, false, false, false, false, false, false] (by kernel_rfl) rfl rfl ⟨ca, g2, c0_, c1_, c2_⟩ (fun hHeld => ?_)
        refine pure_ (i := 0) (N := some 59) (v := ?_) (a' := ?_) #[true, false, false, false, false, false, false, false, false, false] rfl rfl (by kernel_rfl) (fun _ _ _ h => h) (Or.inl ⟨by rfl, ?_⟩) ?_ ?_
        rotate_left
        ·intro w'
         go_simp
         with_reducible rfl
        rotate_left
        ·simp only [Act.put, List.setIfInBounds_toArray, List.set_cons_zero, List.set_cons_succ, i64_w, i32_w]
         rfl
        refine pure_ (i := 1) (N := some 60) (v := ?_) (a' := ?_) #[true, true, false, false, false, false, false, false, false, false] rfl rfl (by kernel_rfl) (fun _ _ _ h => h) (Or.inl ⟨by rfl, ?_⟩) ?_ ?_
        rotate_left
        ·intro w'
         go_simp
         with_reducible rfl
        rotate_left
        ·simp only [Act.put, List.setIfInBounds_toArray, List.set_cons_zero, List.set_cons_succ, i64_w, i32_w]
         rfl
        refine pure_ (i := 2) (N := some 61) (v := ?_) (a' := ?_) #[true, true, true, false, false, false, false, false, false, false] rfl rfl (by kernel_rfl) (fun _ _ _ h => h) (Or.inl ⟨by rfl, ?_⟩) ?_ ?_
        rotate_left
        ·intro w'
         go_simp
         with_reducible rfl
        rotate_left
        ·simp only [Act.put, List.setIfInBounds_toArray, List.set_cons_zero, List.set_cons_succ, i64_w, i32_w]
         rfl
        refine take_ (i := 3) (N := some 62) (v := ?_) (a' := ?_) #[true, true, true, true, false, false, false, false, false, false] rfl rfl (by kernel_rfl) (fun _ _ _ h => h) (Or.inl ⟨by rfl, ?_⟩) hHeld ?_ ?_
        rotate_left
        ·rintro w' ⟨s0_, s1_, s2_, s3_, s4_⟩
         go_simp
         with_reducible rfl
        rotate_left
        ·simp only [Act.put, List.setIfInBounds_toArray, List.set_cons_zero, List.set_cons_succ, i64_w, i32_w]
         rfl
        refine pure_ (i := 4) (N := some 63) (v := ?_) (a' := ?_) #[true, true, true, true, true, false, false, false, false, false] rfl rfl (by kernel_rfl) (fun _ _ _ h => h) (Or.inl ⟨by rfl, ?_⟩) ?_ ?_
        rotate_left
        ·intro w'
         go_simp
         with_reducible rfl
        rotate_left
        ·simp only [Act.put, List.setIfInBounds_toArray, List.set_cons_zero, List.set_cons_succ, i64_w, i32_w]
         rfl
        refine take_ (i := 5) (N := some 64) (v := ?_) (a' := ?_) #[true, true, true, true, true, true, false, false, false, false] rfl rfl (by kernel_rfl) (fun _ _ _ h => h) (Or.inl ⟨by rfl, ?_⟩) hHeld ?_ ?_
        rotate_left
        ·rintro w' ⟨s0_, s1_, s2_, s3_, s4_⟩
         go_simp
         with_reducible rfl
        rotate_left
        ·simp only [Act.put, List.setIfInBounds_toArray, List.set_cons_zero, List.set_cons_succ, i64_w, i32_w]
         rfl
        refine pure_ (i := 6) (N := some 65) (v := ?_) (a' := ?_) #[true, true, true, true, true, true, true, false, false, false] rfl rfl (by kernel_rfl) (fun _ _ _ h => h) (Or.inl ⟨by rfl, ?_⟩) ?_ ?_
        rotate_left
        ·intro w'
         go_simp
         with_reducible rfl
        rotate_left
        ·simp only [Act.put, List.setIfInBounds_toArray, List.set_cons_zero, List.set_cons_succ, i64_w, i32_w]
         rfl
        refine take_ (i := 7) (N := some 66) (v := ?_) (a' := ?_) #[true, true, true, true, true, true, true, true, false, false] rfl rfl (by kernel_rfl) (fun _ _ _ h => h) (Or.inl ⟨by rfl, ?_⟩) hHeld ?_ ?_
        rotate_left
        ·rintro w' ⟨s0_, s1_, s2_, s3_, s4_⟩
         go_simp
         with_reducible rfl
        rotate_left
        ·simp only [Act.put, List.setIfInBounds_toArray, List.set_cons_zero, List.set_cons_succ, i64_w, i32_w]
         rfl
        refine one_ (i := 8) (N := some 15) #[true, true, true, true, true, true, true, true, true, false] rfl rfl (by kernel_rfl) (by decide) (fun K hK => ?_)
        refine value_ (w1 := ?_) (v := ?_) (by rfl) rfl ?_ ?_
        rotate_left 2
        ·go_simp
         constructor
         ·rfl
         ·rfl
        refine hK.out _ _ ⟨keepS ca ((bDD (Below.refl V1.heap.size V1)).alloc (Nat.le_refl _) _), keepS g2 ((bDD (Below.refl V1.heap.size V1)).alloc (Nat.le_refl _) _), keepS c0_ ((bDD (Below.refl V1.heap.size V1)).alloc (Nat.le_refl _) _), keepS c1_ ((bDD (Below.refl V1.heap.size V1)).alloc (Nat.le_refl _) _), keepS c2_ ((bDD (Below.refl V1.heap.size V1)).alloc (Nat.le_refl _) _)⟩ (fun hHeld => ?_)
        clear hK K
        refine norm_ (a' := ?_) ?_ ?_
        rotate_left
        ·show Act.put _ (some 15) _ = _
         simp only [Act.put, List.setIfInBounds_toArray, List.set_cons_zero, List.set_cons_succ, i64_w, i32_w]
         rfl
        refine last_ (i := 9) (N := none) #[true, true, true, true, true, true, true, true, true, true] rfl rfl (by kernel_rfl) (by decide) (fun K hK => ?_)
        refine skip_ (w1 := ?_) (by rfl) rfl ?_ ?_
        rotate_left
        ·go_simp
         rfl
        refine hK.out _ _ ?_
        clear hK K
        refine done_ (by kernel_rfl) ?_
        have HPc := Azz.mk (show ((V1.alloc (.cells #[.int .i64 (i2 : Int), .int .i64 (k2 : Int), .int .i64 f2] 49)).drew).heap[wi.heap.size + 1]? = some (.cells #[.int .i64 (i2 : Int), .int .i64 (k2 : Int), .int .i64 f2] 49 (0, 0)) from by rw [← hsz1]; exact blk_new V1 _)
        have HRe2 := Azz.mk (show ((V1.alloc (.cells #[.int .i64 (i2 : Int), .int .i64 (k2 : Int), .int .i64 f2] 49)).drew).heap[wi.heap.size]? = some (.cells #[.int .i64 r.f0, .int .i64 r.f1, .int .i64 (q : Int), .int .i64 r.f3] 98 (0, 0)) from kAA HRel.out _)
        have HX2' := Azz.mk (show ((V1.alloc (.cells #[.int .i64 (i2 : Int), .int .i64 (k2 : Int), .int .i64 f2] 49)).drew).heap[wm.heap.size + 1]? = some (.cells #[.string s.f0, .int .i64 s.f1, .bool s.f2, .int .i64 s.f3, .string s.f4, v5] 39 (0, 0)) from kAA HXv.out _)
        have HR2' := Azz.mk (Kd.R_move (w1 := (V1.alloc (.cells #[.int .i64 (i2 : Int), .int .i64 (k2 : Int), .int .i64 f2] 49)).drew) (Kd.R_alloc HRv.out (.cells #[.int .i64 (i2 : Int), .int .i64 (k2 : Int), .int .i64 f2] 49)) (fun _ _ => rfl))
        have HB2' := Azz.mk (bDD (bAA HBv.out (.cells #[.int .i64 (i2 : Int), .int .i64 (k2 : Int), .int .i64 f2] 49)))
        clear ca c0_ c1_ c2_ g0 g1 g2 g3 HRel HXv HRv HBv hHeld
        generalize (V1.alloc (.cells #[.int .i64 (i2 : Int), .int .i64 (k2 : Int), .int .i64 f2] 49)).drew = V2 at HPc HRe2 HX2' HR2' HB2' ⊢
        obtain ⟨h0, h1, h2⟩ := cq3 HPc.out
        obtain ⟨g0, g1, g2, g3⟩ := cl4 HRe2.out
        obtain ⟨adf, eaf, z0⟩ := first_at HCf.out HI2.out
        subst eaf
        obtain ⟨z, hz⟩ : ∃ z, fsN os i2 = z := ⟨_, rfl⟩
        rw [hz] at z0
        have hzm := kp1 z0 HBk.out
        have HZm := Azz.mk hzm
        replace z0 := kp1 hzm HB2'.out
        clear hz hzm
        obtain ⟨x0_, x1_, x2_, x3_, x4_, x5_⟩ := cl6 HX2'.out
        clear x0_ x1_ x2_ x3_ x4_
        have b0 : (0 : Int) ≤ (i2 : Int) := by omega
        have b1 : ((i2 : Int) < 0) = False := by simp
        have b2 : (i2 : Int) < (os.length : Int) := by omega
        have b3 : ((os.length : Int) ≤ (i2 : Int)) = False := by simp; omega
        by_cases hgt : wrap64 (9223372036854775807 - f2) < r.f3
        ·clear z0 x5_ h0 h1
         go_wp2
         refine start_ (n := 6) (S := fun w' => w'.cell? ⟨wi.heap.size, 2, none⟩ = some (.int .i64 (q : Int))) (ds := [5]) #[false, false, false, false, false, false] (by kernel_rfl) rfl rfl g2 (fun hHeld => ?_)
         have HXd := Azz.mk (show V2.drew.heap[w.heap.size]? = some (.cells #[.int .i64 0, .int .i64 0, .int .i64 0] 45 (0, 0)) from kBB HX2.out (bTT HBk.out (bDD HB2'.out)))
         have HBd := Azz.mk (bDD (bTT HB2.out (bTT HBk.out HB2'.out)))
         generalize V2.drew = Vd at HXd HBd hHeld ⊢
         refine pure_ (i := 0) (N := some 73) (v := ?_) (a' := ?_) #[true, false, false, false, false, false] rfl rfl (by kernel_rfl) (fun _ _ _ h => h) (Or.inl ⟨by rfl, ?_⟩) ?_ ?_
         rotate_left
         ·intro w'
          go_simp
          with_reducible rfl
         rotate_left
         ·simp only [Act.put, List.setIfInBounds_toArray, List.set_cons_zero, List.set_cons_succ, i64_w, i32_w]
          rfl
         refine pure_ (i := 1) (N := some 74) (v := ?_) (a' := ?_) #[true, true, false, false, false, false] rfl rfl (by kernel_rfl) (fun _ _ _ h => h) (Or.inl ⟨by rfl, ?_⟩) ?_ ?_
         rotate_left
         ·intro w'
          go_simp
          with_reducible rfl
         rotate_left
         ·simp only [Act.put, List.setIfInBounds_toArray, List.set_cons_zero, List.set_cons_succ, i64_w, i32_w]
          rfl
         refine take_ (i := 2) (N := some 75) (v := ?_) (a' := ?_) #[true, true, true, false, false, false] rfl rfl (by kernel_rfl) (fun _ _ _ h => h) (Or.inl ⟨by rfl, ?_⟩) hHeld ?_ ?_
         rotate_left
         ·intro w' s0_
          go_simp
          with_reducible rfl
         rotate_left
         ·simp only [Act.put, List.setIfInBounds_toArray, List.set_cons_zero, List.set_cons_succ, i64_w, i32_w]
          rfl
         refine pure_ (i := 3) (N := some 76) (v := ?_) (a' := ?_) #[true, true, true, true, false, false] rfl rfl (by kernel_rfl) (fun _ _ _ h => h) (Or.inl ⟨by rfl, ?_⟩) ?_ ?_
         rotate_left
         ·intro w'
          go_simp
          with_reducible rfl
         rotate_left
         ·simp only [Act.put, List.setIfInBounds_toArray, List.set_cons_zero, List.set_cons_succ, i64_w, i32_w]
          rfl
         refine pure_ (i := 4) (N := some 2) (v := ?_) (a' := ?_) #[true, true, true, true, true, false] rfl rfl (by kernel_rfl) (fun _ _ _ h => h) (Or.inl ⟨by rfl, ?_⟩) ?_ ?_
         rotate_left
         ·intro w'
          go_simp
          with_reducible rfl
         rotate_left
         ·simp only [Act.put, List.setIfInBounds_toArray, List.set_cons_zero, List.set_cons_succ, i64_w, i32_w]
          rfl
         refine last_ (i := 5) (N := none) #[true, true, true, true, true, true] rfl rfl (by kernel_rfl) (by decide) (fun K hK => ?_)
         have hcs := cq3 HXd.out
         have hfs := frzq HXd.out
         obtain ⟨hc0_, hc1_, hc2_⟩ := hcs
         refine skip_ (w1 := ?_) (by rfl) rfl ?_ ?_
         rotate_left
         ·go_simp
          rfl
         refine hK.out _ _ ?_
         clear hK K
         refine done_ (by kernel_rfl) ?_
         go_wp2
         have hq := set3_same Vd w.heap.size 45 (.int .i64 0) (.int .i64 0) (.int .i64 0) (.int .i64 4) (.int .i64 (i : Int)) (.int .i64 (q : Int)) HXd.out
         obtain ⟨q0_, q1_, q2_⟩ := cq3 hq
         refine bodyPost_ret (v := .tuple #[.slice none 0 0, .agg #[.int .i64 4, .int .i64 (i : Int), .int .i64 (q : Int)]]) (by simp [results, Tryz.results37, go_sem, q0_, q1_, q2_]) rfl ⟨?_, .inl ⟨4, _, _, by decide, rfl⟩⟩
         exact below_set3 HBd.out (Nat.le_refl _) _ _ _
        ·have hle := Int.not_lt.mp hgt
         go_wp2
         have HLr := Azz.mk hrs
         clear hgt hle
         refine start_ (n := 24) (S := fun w' => w'.cell? ⟨wm.heap.size + 1, 5, none⟩ = some v5 ∧ w'.cell? ⟨wi.heap.size, 0, none⟩ = some (.int .i64 r.f0) ∧ w'.cell? ⟨wi.heap.size, 1, none⟩ = some (.int .i64 r.f1) ∧ w'.cell? ⟨wi.heap.size + 1, 0, none⟩ = some (.int .i64 (i2 : Int)) ∧ w'.cell? (adf.add i2) = some (.int .i64 (z : Int)) ∧ w'.cell? ⟨wi.heap.size + 1, 1, none⟩ = some (.int .i64 (k2 : Int)) ∧ w'.cell? ⟨wi.heap.size + 1, 2, none⟩ = some (.int .i64 f2) ∧ w'.cell? ⟨wi.heap.size, 3, none⟩ = some (.int .i64 r.f3)) (ds := [23]) #[false, false, false, false, false, false, false, false, false, false, false, false, false, false, false, false, false, false, false, false, false, false, false, false] (by kernel_rfl) rfl rfl ⟨x5_, g0, g1, h0, z0, h1, h2, g3⟩ (fun hHeld => ?_)
         have HXd := Azz.mk (show V2.drew.heap[wm.heap.size + 1]? = some (.cells #[.string s.f0, .int .i64 s.f1, .bool s.f2, .int .i64 s.f3, .string s.f4, v5] 39 (0, 0)) from HX2'.out)
         have HRed := Azz.mk (show V2.drew.heap[wi.heap.size]? = some (.cells #[.int .i64 r.f0, .int .i64 r.f1, .int .i64 (q : Int), .int .i64 r.f3] 98 (0, 0)) from HRe2.out)
         have HPd := Azz.mk (show V2.drew.heap[wi.heap.size + 1]? = some (.cells #[.int .i64 (i2 : Int), .int .i64 (k2 : Int), .int .i64 f2] 49 (0, 0)) from HPc.out)
         have HRd := Azz.mk (Kd.R_move (w1 := V2.drew) HR2'.out (fun _ _ => rfl))
         have HBd := Azz.mk (bDD HB2'.out)
         have HHd := Azz.mk hHeld
         generalize V2.drew = Vd at HXd HRed HPd HRd HBd HHd hHeld ⊢
         refine pure_ (i := 0) (N := some 77) (v := ?_) (a' := ?_) #[true, false, false, false, false, false, false, false, false, false, false, false, false, false, false, false, false, false, false, false, false, false, false, false] rfl rfl (by kernel_rfl) (fun _ _ _ h => h) (Or.inl ⟨by rfl, ?_⟩) ?_ ?_
         rotate_left
         ·intro w'
          go_simp
          with_reducible rfl
         rotate_left
         ·simp only [Act.put, List.setIfInBounds_toArray, List.set_cons_zero, List.set_cons_succ, i64_w, i32_w]
          rfl
         refine take_ (i := 1) (N := some 78) (v := ?_) (a' := ?_) #[true, true, false, false, false, false, false, false, false, false, false, false, false, false, false, false, false, false, false, false, false, false, false, false] rfl rfl (by kernel_rfl) (fun _ _ _ h => h) (Or.inl ⟨by rfl, ?_⟩) hHeld ?_ ?_
         rotate_left
         ·rintro w' ⟨s0_, s1_, s2_, s3_, s4_, s5_, s6_, s7_⟩
          go_simp
          with_reducible rfl
         rotate_left
         ·simp only [Act.put, List.setIfInBounds_toArray, List.set_cons_zero, List.set_cons_succ, i64_w, i32_w]
          rfl
         refine pure_ (i := 2) (N := some 79) (v := ?_) (a' := ?_) #[true, true, true, false, false, false, false, false, false, false, false, false, false, false, false, false, false, false, false, false, false, false, false, false] rfl rfl (by kernel_rfl) (fun _ _ _ h => h) (Or.inl ⟨by rfl, ?_⟩) ?_ ?_
         rotate_left
         ·intro w'
          go_simp
          with_reducible rfl
         rotate_left
         ·simp only [Act.put, List.setIfInBounds_toArray, List.set_cons_zero, List.set_cons_succ, i64_w, i32_w]
          rfl
         refine take_ (i := 3) (N := some 80) (v := ?_) (a' := ?_) #[true, true, true, true, false, false, false, false, false, false, false, false, false, false, false, false, false, false, false, false, false, false, false, false] rfl rfl (by kernel_rfl) (fun _ _ _ h => h) (Or.inl ⟨by rfl, ?_⟩) hHeld ?_ ?_
         rotate_left
         ·rintro w' ⟨s0_, s1_, s2_, s3_, s4_, s5_, s6_, s7_⟩
          go_simp
          with_reducible rfl
         rotate_left
         ·simp only [Act.put, List.setIfInBounds_toArray, List.set_cons_zero, List.set_cons_succ, i64_w, i32_w]
          rfl
         refine pure_ (i := 4) (N := some 81) (v := ?_) (a' := ?_) #[true, true, true, true, true, false, false, false, false, false, false, false, false, false, false, false, false, false, false, false, false, false, false, false] rfl rfl (by kernel_rfl) (fun _ _ _ h => h) (Or.inl ⟨by rfl, ?_⟩) ?_ ?_
         rotate_left
         ·intro w'
          go_simp
          with_reducible rfl
         rotate_left
         ·simp only [Act.put, List.setIfInBounds_toArray, List.set_cons_zero, List.set_cons_succ, i64_w, i32_w]
          rfl
         refine take_ (i := 5) (N := some 82) (v := ?_) (a' := ?_) #[true, true, true, true, true, true, false, false, false, false, false, false, false, false, false, false, false, false, false, false, false, false, false, false] rfl rfl (by kernel_rfl) (fun _ _ _ h => h) (Or.inl ⟨by rfl, ?_⟩) hHeld ?_ ?_
         rotate_left
         ·rintro w' ⟨s0_, s1_, s2_, s3_, s4_, s5_, s6_, s7_⟩
          go_simp
          with_reducible rfl
         rotate_left
         ·simp only [Act.put, List.setIfInBounds_toArray, List.set_cons_zero, List.set_cons_succ, i64_w, i32_w]
          rfl
         refine pure_ (i := 6) (N := some 83) (v := ?_) (a' := ?_) #[true, true, true, true, true, true, true, false, false, false, false, false, false, false, false, false, false, false, false, false, false, false, false, false] rfl rfl (by kernel_rfl) (fun _ _ _ h => h) (Or.inl ⟨by rfl, ?_⟩) ?_ ?_
         rotate_left
         ·intro w'
          go_simp
          with_reducible rfl
         rotate_left
         ·simp only [Act.put, List.setIfInBounds_toArray, List.set_cons_zero, List.set_cons_succ, i64_w, i32_w]
          rfl
         refine pure_ (i := 7) (N := some 84) (v := ?_) (a' := ?_) #[true, true, true, true, true, true, true, true, false, false, false, false, false, false, false, false, false, false, false, false, false, false, false, false] rfl rfl (by kernel_rfl) (fun _ _ _ h => h) (Or.inl ⟨by rfl, ?_⟩) ?_ ?_
         rotate_left
         ·intro w'
          go_simp
          with_reducible rfl
         rotate_left
         ·simp only [Act.put, List.setIfInBounds_toArray, List.set_cons_zero, List.set_cons_succ, i64_w, i32_w]
          rfl
         refine take_ (i := 8) (N := some 85) (v := ?_) (a' := ?_) #[true, true, true, true, true, true, true, true, true, false, false, false, false, false, false, false, false, false, false, false, false, false, false, false] rfl rfl (by kernel_rfl) (fun _ _ _ h => h) (Or.inl ⟨by rfl, ?_⟩) hHeld ?_ ?_
         rotate_left
         ·rintro w' ⟨s0_, s1_, s2_, s3_, s4_, s5_, s6_, s7_⟩
          go_simp
          with_reducible rfl
         rotate_left
         ·simp only [Act.put, List.setIfInBounds_toArray, List.set_cons_zero, List.set_cons_succ, i64_w, i32_w]
          rfl
         refine pure_ (i := 9) (N := some 86) (v := ?_) (a' := ?_) #[true, true, true, true, true, true, true, true, true, true, false, false, false, false, false, false, false, false, false, false, false, false, false, false] rfl rfl (by kernel_rfl) (fun _ _ _ h => h) (Or.inl ⟨by rfl, ?_⟩) ?_ ?_
         rotate_left
         ·intro w'
          go_simp
          with_reducible rfl
         rotate_left
         ·simp only [Act.put, List.setIfInBounds_toArray, List.set_cons_zero, List.set_cons_succ, i64_w, i32_w]
          rfl
         refine take_ (i := 10) (N := some 87) (v := ?_) (a' := ?_) #[true, true, true, true, true, true, true, true, true, true, true, false, false, false, false, false, false, false, false, false, false, false, false, false] rfl rfl (by kernel_rfl) (fun _ _ _ h => h) (Or.inl ⟨by rfl, ?_⟩) hHeld ?_ ?_
         rotate_left
         ·rintro w' ⟨s0_, s1_, s2_, s3_, s4_, s5_, s6_, s7_⟩
          go_simp
          with_reducible rfl
         rotate_left
         ·simp only [Act.put, List.setIfInBounds_toArray, List.set_cons_zero, List.set_cons_succ, i64_w, i32_w]
          rfl
         refine pure_ (i := 11) (N := some 88) (v := ?_) (a' := ?_) #[true, true, true, true, true, true, true, true, true, true, true, true, false, false, false, false, false, false, false, false, false, false, false, false] rfl rfl (by kernel_rfl) (fun _ _ _ h => h) (Or.inl ⟨by rfl, ?_⟩) ?_ ?_
         rotate_left
         ·intro w'
          go_simp
          with_reducible rfl
         rotate_left
         ·simp only [Act.put, List.setIfInBounds_toArray, List.set_cons_zero, List.set_cons_succ, i64_w, i32_w]
          rfl
         refine take_ (i := 12) (N := some 89) (v := ?_) (a' := ?_) #[true, true, true, true, true, true, true, true, true, true, true, true, true, false, false, false, false, false, false, false, false, false, false, false] rfl rfl (by kernel_rfl) (fun _ _ _ h => h) (Or.inl ⟨by rfl, ?_⟩) hHeld ?_ ?_
         rotate_left
         ·rintro w' ⟨s0_, s1_, s2_, s3_, s4_, s5_, s6_, s7_⟩
          go_simp
          with_reducible rfl
         rotate_left
         ·simp only [Act.put, List.setIfInBounds_toArray, List.set_cons_zero, List.set_cons_succ, i64_w, i32_w]
          rfl
         refine pure_ (i := 13) (N := some 90) (v := ?_) (a' := ?_) #[true, true, true, true, true, true, true, true, true, true, true, true, true, true, false, false, false, false, false, false, false, false, false, false] rfl rfl (by kernel_rfl) (fun _ _ _ h => h) (Or.inl ⟨by rfl, ?_⟩) ?_ ?_
         rotate_left
         ·intro w'
          go_simp
          with_reducible rfl
         rotate_left
         ·simp only [Act.put, List.setIfInBounds_toArray, List.set_cons_zero, List.set_cons_succ, i64_w, i32_w]
          rfl
         refine pure_ (i := 14) (N := some 91) (v := ?_) (a' := ?_) #[true, true, true, true, true, true, true, true, true, true, true, true, true, true, true, false, false, false, false, false, false, false, false, false] rfl rfl (by kernel_rfl) (fun _ _ _ h => h) (Or.inl ⟨by rfl, ?_⟩) ?_ ?_
         rotate_left
         ·intro w'
          go_simp
          with_reducible rfl
         rotate_left
         ·simp only [Act.put, List.setIfInBounds_toArray, List.set_cons_zero, List.set_cons_succ, i64_w, i32_w]
          rfl
         refine take_ (i := 15) (N := some 92) (v := ?_) (a' := ?_) #[true, true, true, true, true, true, true, true, true, true, true, true, true, true, true, true, false, false, false, false, false, false, false, false] rfl rfl (by kernel_rfl) (fun _ _ _ h => h) (Or.inl ⟨by rfl, ?_⟩) hHeld ?_ ?_
         rotate_left
         ·rintro w' ⟨s0_, s1_, s2_, s3_, s4_, s5_, s6_, s7_⟩
          go_simp
          with_reducible rfl
         rotate_left
         ·simp only [Act.put, List.setIfInBounds_toArray, List.set_cons_zero, List.set_cons_succ, i64_w, i32_w]
          rfl
         refine pure_ (i := 16) (N := some 93) (v := ?_) (a' := ?_) #[true, true, true, true, true, true, true, true, true, true, true, true, true, true, true, true, true, false, false, false, false, false, false, false] rfl rfl (by kernel_rfl) (fun _ _ _ h => h) (Or.inl ⟨by rfl, ?_⟩) ?_ ?_
         rotate_left
         ·intro w'
          go_simp
          with_reducible rfl
         rotate_left
         ·simp only [Act.put, List.setIfInBounds_toArray, List.set_cons_zero, List.set_cons_succ, i64_w, i32_w]
          rfl
         refine take_ (i := 17) (N := some 94) (v := ?_) (a' := ?_) #[true, true, true, true, true, true, true, true, true, true, true, true, true, true, true, true, true, true, false, false, false, false, false, false] rfl rfl (by kernel_rfl) (fun _ _ _ h => h) (Or.inl ⟨by rfl, ?_⟩) hHeld ?_ ?_
         rotate_left
         ·rintro w' ⟨s0_, s1_, s2_, s3_, s4_, s5_, s6_, s7_⟩
          go_simp
          with_reducible rfl
         rotate_left
         ·simp only [Act.put, List.setIfInBounds_toArray, List.set_cons_zero, List.set_cons_succ, i64_w, i32_w]
          rfl
         refine pure_ (i := 18) (N := some 95) (v := ?_) (a' := ?_) #[true, true, true, true, true, true, true, true, true, true, true, true, true, true, true, true, true, true, true, false, false, false, false, false] rfl rfl (by kernel_rfl) (fun _ _ _ h => h) (Or.inl ⟨by rfl, ?_⟩) ?_ ?_
         rotate_left
         ·intro w'
          go_simp
          with_reducible rfl
         rotate_left
         ·simp only [Act.put, List.setIfInBounds_toArray, List.set_cons_zero, List.set_cons_succ, i64_w, i32_w]
          rfl
         refine pure_ (i := 19) (N := some 96) (v := ?_) (a' := ?_) #[true, true, true, true, true, true, true, true, true, true, true, true, true, true, true, true, true, true, true, true, false, false, false, false] rfl rfl (by kernel_rfl) (fun _ _ _ h => h) (Or.inl ⟨by rfl, ?_⟩) ?_ ?_
         rotate_left
         ·intro w'
          go_simp
          with_reducible rfl
         rotate_left
         ·simp only [Act.put, List.setIfInBounds_toArray, List.set_cons_zero, List.set_cons_succ, i64_w, i32_w]
          rfl
         refine one_ (i := 20) (N := some 97) #[true, true, true, true, true, true, true, true, true, true, true, true, true, true, true, true, true, true, true, true, true, false, false, false] rfl rfl (by kernel_rfl) (by decide) (fun K hK => ?_)
         refine value_ (w1 := ?_) (v := ?_) (by rfl) rfl ?_ ?_
         rotate_left 2
         ·go_simp
          constructor
          ·rfl
          ·rfl
         obtain ⟨e0_, e1_, e2_, e3_, e4_, e5_, e6_, e7_⟩ := HHd.out
         refine hK.out _ _ ⟨kp1 e0_ ((Below.refl Vd.heap.size Vd).alloc (Nat.le_refl _) _), kp1 e1_ ((Below.refl Vd.heap.size Vd).alloc (Nat.le_refl _) _), kp1 e2_ ((Below.refl Vd.heap.size Vd).alloc (Nat.le_refl _) _), kp1 e3_ ((Below.refl Vd.heap.size Vd).alloc (Nat.le_refl _) _), kp1 e4_ ((Below.refl Vd.heap.size Vd).alloc (Nat.le_refl _) _), kp1 e5_ ((Below.refl Vd.heap.size Vd).alloc (Nat.le_refl _) _), kp1 e6_ ((Below.refl Vd.heap.size Vd).alloc (Nat.le_refl _) _), kp1 e7_ ((Below.refl Vd.heap.size Vd).alloc (Nat.le_refl _) _)⟩ (fun hHeld => ?_)
         clear hK K
         refine norm_ (a' := ?_) ?_ ?_
         rotate_left
         ·show Act.put _ (some 97) _ = _
          simp only [Act.put, List.setIfInBounds_toArray, List.set_cons_zero, List.set_cons_succ, i64_w, i32_w]
          rfl
         refine one_ (i := 21) (N := some 98) #[true, true, true, true, true, true, true, true, true, true, true, true, true, true, true, true, true, true, true, true, true, true, false, false] rfl rfl (by kernel_rfl) (by decide) (fun K hK => ?_)
         refine Kd.R_append_step P.k80 (w0 := wm) wm.heap.size (by rfl) (.tmp 78) (.tmp 97) 37 80 (.agg #[.int .i64 0, .int .i64 0, .int .i64 0, .int .i64 0]) 32 rfl Tryz.underlying37 info_ref rfl (by decide) (by omega) v5 rs (⟨r.f0, r.f1, _, _⟩ : P.S80) [.int .i64 r.f0, .int .i64 r.f1, .int .i64 _, .int .i64 _] (fun _ => True) (fun _ => False) rfl rfl (P.k80_mkM _ _ _ (⟨r.f0, r.f1, _, _⟩ : P.S80)) (fun _ hk => hk.elim) (fun _ _ => trivial) HRd.out HBd.out HBd.out.size (by have := HLr.out; omega) ?_
         intro v1 w9 hr1 hb1 hg1 hat1
         obtain ⟨Av, cv, ev⟩ := Kd.R_slice hr1
         rw [List.length_append, List.length_singleton] at ev
         subst ev
         have HX9 := Azz.mk (blk_grown HXd.out hg1 (Kd.R_ne HRd.out HXd.out (by decide)))
         have hre9 := blk_grown HRed.out hg1 (Kd.R_ne HRd.out HRed.out (by decide))
         have hpl9 := blk_grown HPd.out hg1 (Kd.R_ne HRd.out HPd.out (by decide))
         have HR9' := Azz.mk hr1
         have HB9 := Azz.mk hb1
         refine hK.out _ _ ⟨(cl6 HX9.out).2.2.2.2.2, (cl4 hre9).1, (cl4 hre9).2.1, (cq3 hpl9).1, kp1 HZm.out hb1, (cq3 hpl9).2.1, (cq3 hpl9).2.2, (cl4 hre9).2.2.2⟩ (fun hHeld => ?_)
         clear hr1 hb1 hg1 hat1 hre9 hpl9
         clear hK K
         refine norm_ (a' := ?_) ?_ ?_
         rotate_left
         ·show Act.put _ (some 98) _ = _
          simp only [Act.put, List.setIfInBounds_toArray, List.set_cons_zero, List.set_cons_succ, i64_w, i32_w]
          rfl
         refine pure_ (i := 22) (N := some 99) (v := ?_) (a' := ?_) #[true, true, true, true, true, true, true, true, true, true, true, true, true, true, true, true, true, true, true, true, true, true, true, false] rfl rfl (by kernel_rfl) (fun _ _ _ h => h) (Or.inl ⟨by rfl, ?_⟩) ?_ ?_
         rotate_left
         ·intro w'
          go_simp
          with_reducible rfl
         rotate_left
         ·simp only [Act.put, List.setIfInBounds_toArray, List.set_cons_zero, List.set_cons_succ, i64_w, i32_w]
          rfl
         refine last_ (i := 23) (N := none) #[true, true, true, true, true, true, true, true, true, true, true, true, true, true, true, true, true, true, true, true, true, true, true, true] rfl rfl (by kernel_rfl) (by decide) (fun K hK => ?_)
         have hcs : w9.cell? ⟨wm.heap.size + 1, 5, none⟩ = some v5 := hHeld.1
         have hfs : w9.frozen? ⟨wm.heap.size + 1, 5, none⟩ = false := kFF HX9.out 5
         refine skip_ (w1 := ?_) (by rfl) rfl ?_ ?_
         rotate_left
         ·go_simp
          rfl
         refine hK.out _ _ ?_
         clear hK K
         refine done_ (by kernel_rfl) ?_
         go_wp2
         go_roundw
         case rel =>
          refine ⟨j + 1, _, _, by omega, by go_num, ?_, ⟨blk_put HX9.out 5 _ rfl⟩, ⟨Kd.R_set HR9'.out HX9.out ref_types 5 _⟩, ⟨bSS HB9.out (Nat.le_succ _)⟩⟩
          rw [List.length_append]
          have := HLr.out
          simp; omega
         case measure => simp [RowKit.intOf]; omega
       ·obtain rfl : j = s.f5.length := by omega
        obtain ⟨Ax, cx, rfl, hlx, hCx⟩ := Kd.R_reads HRf.out
        have HRw := Azz.mk (Kd.R_mono (ok' := fun _ => True) (Kd.R_move (w1 := wi) (Kd.R_bound HR.out) (fun g hg => HBi.out.block g hg.2.2.1)) (fun _ _ => trivial))
        have HBw := Azz.mk (show Below w2.heap.size w2 wi from bTT HBk.out HBi.out)
        obtain ⟨u0, u1, u2, u3, u4, u5⟩ := cl6 HX.out
        have uf := frzq HX.out
        have hlen : (fk os i ++ (o.f0.take k).map skOf).length ≤ 40 * os.length := by
         rw [List.length_append, fk_len, List.length_map, List.length_take]
         have h1 := fsN_le HF.out (i + 1) (by omega)
         have h2 : fsN os (i + 1) = fsN os i + o.f0.length := by rw [← HOe.out]; rfl
         omega
        have HLn := Azz.mk hlen
        clear hCx hlen
        go_wp2_with (at_builtin; refine Kd.R_append_rows kNK (w0 := w2) w2.heap.size rfl _ _ 22 39 (.agg #[.string ⟨#[]⟩, .int .i64 0, .bool false, .int .i64 0, .string ⟨#[]⟩, .slice none 0 0]) 80 rfl Tryz.underlying22 info_unit rfl (by decide) (by decide) _ (fk os i ++ (o.f0.take k).map skOf) [(s.f0, s.f1)] (some ⟨wi.heap.size, 0, none⟩) 1 1 (fun _ => True) (fun _ => False) rfl rfl (Kd.R_alloc HRw.out _) (nk_one (blk_new wi _)) (fun _ _ h => h) (fun _ h => h.elim) (fun _ _ => trivial) (bAA HBw.out _) (bAA HBw.out _).size (by have := HLn.out; omega) ?_; intro v1 w7 ho1 hb1 _ _; have HO1 := Azz.mk ho1; have HB1 := Azz.mk hb1; clear ho1 hb1)
        go_roundw
        case rel =>
         refine ⟨k + 1, by omega, by go_num, ⟨?_⟩, HB1⟩
         rw [List.take_succ_eq_append_getElem hkl, List.map_append, ← List.append_assoc]
         have e : o.f0[k] = s := by rw [← HSn.out]; exact (rd_get _ _ _ hkl).symm
         rw [List.map_singleton, e]
         exact HO1.out
        case measure => simp [RowKit.intOf]; omega
     ·obtain rfl : k = o.f0.length := by omega
      go_wp2
      go_roundw
      case rel =>
       refine ⟨i + 1, by omega, by go_num, ⟨?_⟩, HBk⟩
       have h := HR.out
       rw [List.take_of_length_le (Nat.le_refl _)] at h
       show Kd.R kNK 39 _ _ _ _ (fk os i ++ (obN os i).f0.map skOf)
       rw [HOe.out]
       exact h
      case measure => simp [RowKit.intOf]; omega
   ·obtain rfl : i = os.length := by omega
    obtain ⟨Aa, ca, rfl, hla, hC⟩ := Kd.R_reads HR.out
    have HC := Azz.mk hC
    have HXr := Azz.mk (kBB HX2.out HB.out)
    obtain ⟨y0, y1, y2⟩ := cq3 HXr.out
    have yf := frzq HXr.out
    clear hC
    go_wp2
    have hq := set3_same wr w.heap.size 45 (.int .i64 0) (.int .i64 0) (.int .i64 0) (.int .i64 0) (.int .i64 0) (.int .i64 0) HXr.out
    obtain ⟨q0, q1, q2⟩ := cq3 hq
    refine bodyPost_ret (v := .tuple #[.slice Aa (fk os os.length).length ca, .agg #[.int .i64 0, .int .i64 0, .int .i64 0]]) (by simp [results, Tryz.results37, go_sem, q0, q1, q2]) rfl ⟨?_, .inr ⟨HOk.out, Aa, ca, rfl, hla, ?_⟩⟩
    ·exact below_set3 (bTT HB2.out HB.out) (Nat.le_refl _) _ _ _
    ·exact (Kd.R_reads' (Kd.R_set (Kd.R_set (Kd.R_set HR.out HXr.out nk_types 0 (.int .i64 0)) (blk_put HXr.out 0 (.int .i64 0) rfl) nk_types 1 (.int .i64 0)) (blk_put (blk_put HXr.out 0 (.int .i64 0) rfl) 1 (.int .i64 0) rfl) nk_types 2 (.int .i64 0))).2.2
end Go.Proofs.YtngmipfodjgmmaaGreatDoor.Pure
