/- Walks and plain laws of this claim, a part. -/
import Derived.Test.YtngmipfodjgmmaaGreatDoorFz110
set_option maxRecDepth 100000
set_option maxHeartbeats 16000000
set_option linter.unusedVariables false
set_option linter.unusedSimpArgs false
namespace Go.Proofs.YtngmipfodjgmmaaGreatDoor.Pure
open Go Go.RowKit Go.Lib Go.Shelf Wa Wb Wc
open P (Glob UA)
open Folds (put cnt Apt OneP apart0 apt_start)
def AptPost (us : List P.S39) (ins : List Bool) (w : World) (e : Ending) (w' : World) : Prop :=
 Below w.heap.size w w' ∧ ∃ v bs m, e = .returned v ∧ Mx w' w.heap.size us.length v bs m ∧ bs.length = us.length ∧ ∀ i k, i < us.length → k < us.length → (m i k = false ↔ OneP (inn ins) (foldP us ins) i k)
def tk (n k : Nat) : Array Bool := (List.replicate k true ++ List.replicate (n - k) false).toArray
theorem pureK {P : Program} {ops : Array Oper} {Q : Exit → Act → World → Prop} {md : Region.Mode} {S : World → Prop} {ds : List Nat} {n k : Nat} {oi : Oper} {v : Value} {fuel : Nat} {a : Act} {w : World} (hi : ops[k]? = some oi) (hc : anyB md ops (tk n k) (tk n (k + 1)) k = true)
 (hQ : ∀ c a w, Q (.panic c) (a.put oi.dst v) w → Q (.panic c) a w) (hy : Yields P ops oi v a) {a' : Act} (ha : a.put oi.dst v = a')
 (h : wpAnyLast P md ops Q S ds fuel (tk n (k + 1)) a' w) : wpAnyLast P md ops Q S ds (fuel + 1) (tk n k) a w := pure_ (tk n (k + 1)) hi rfl hc hQ hy ha h
theorem takeK {P : Program} {ops : Array Oper} {Q : Exit → Act → World → Prop} {md : Region.Mode} {S : World → Prop} {ds : List Nat} {n k : Nat} {oi : Oper} {v : Value} {fuel : Nat} {a : Act} {w : World} (hi : ops[k]? = some oi) (hc : takeB md ops ds (tk n k) (tk n (k + 1)) k = true)
 (hQ : ∀ c a w, Q (.panic c) (a.put oi.dst v) w → Q (.panic c) a w) (hy : YieldsIf P ops S oi v a) (hS : S w) {a' : Act} (ha : a.put oi.dst v = a')
 (h : wpAnyLast P md ops Q S ds fuel (tk n (k + 1)) a' w) : wpAnyLast P md ops Q S ds (fuel + 1) (tk n k) a w := take_ (tk n (k + 1)) hi rfl hc hQ hy hS ha h
theorem ap_self (inn : Nat → Bool) (al : Nat → Nat → Bool) (i : Nat) : apart0 inn al i i = false := by unfold apart0; simp
theorem ap_out1 {inn : Nat → Bool} {al : Nat → Nat → Bool} {i k : Nat} (h : i ≠ k) (h1 : inn i = false) : apart0 inn al i k = true := by unfold apart0; simp [h, h1]
theorem ap_out2 {inn : Nat → Bool} {al : Nat → Nat → Bool} {i k : Nat} (h : i ≠ k) (h1 : inn k = false) : apart0 inn al i k = true := by unfold apart0; simp [h, h1]
theorem ap_in {inn : Nat → Bool} {al : Nat → Nat → Bool} {i k : Nat} (h : i ≠ k) (h1 : inn i = true) (h2 : inn k = true) : apart0 inn al i k = !(al i k) := by unfold apart0; simp [h, h1, h2]
theorem apart_any (w : World) (A A2 : Option Addr) (us : List P.S39) (ins : List Bool) (c c2 : Nat) (hu : UA w A us) (hc : us.length ≤ c) (hok : UOk us) (hi : BA w A2 ins) (hil : ins.length = us.length) (hc2 : us.length ≤ c2) :
 Calls Tryz.prog 43 #[.slice A us.length c, .slice A2 us.length c2] w (AptPost us ins w) := by
 have hul := hok.1
 have hul : us.length ≤ 100000 := by omega
 have HU := Azz.mk hu
 have HI := Azz.mk hi
 have HOk := Azz.mk hok
 have HIl := Azz.mk hil
 have h64 : Azz (∀ i, i < us.length → (P.rd_T39 us i).f5.length ≤ 64) := ⟨fun i hi => (nd_64 hok i hi).1⟩
 clear hu hi hok hil
 go_enter Tryz.func43, Tryz.ntmps43
 go_wp2
 go_loopw [5, 6] (fun v5 v wr => ∃ (i : Nat) (bs : List Nat), i ≤ us.length ∧ v = .int .i64 i ∧ Azz (Mx wr w.heap.size us.length v5 bs (apart0 (inn ins) (al us)) ∧ bs.length = i) ∧ Azz (Below w.heap.size w wr)) (fun _ v _ => us.length - (RowKit.intOf v).toNat)
 case atStart => exact ⟨0, [], Nat.zero_le _, rfl, ⟨Mx.start _ _ _ _, rfl⟩, ⟨Below.refl _ _⟩⟩
 case round =>
  obtain ⟨i, bs, hi, rfl, HX, HB⟩ := hrel
  obtain ⟨wi, hwi⟩ : ∃ x, x = wr := ⟨_, rfl⟩
  subst hwi
  by_cases hlt : i < us.length
  rotate_left
  ·obtain rfl : i = us.length := by omega
   have hap : Apt us.length (inn ins) (al us) (foldP us ins) (apart0 (inn ins) (al us)) := apt_start (fold_part us ins).1
   have HAp := Azz.mk hap
   have hbl := HX.out.2
   have HX := Azz.mk HX.out.1
   clear hap
   go_wp2
   go_loopg [9] (2 * cnt us.length (apart0 (inn ins) (al us)) + 1) (fun g v wr2 => ∃ (m : Nat → Nat → Bool) (t : Bool), v = .bool t ∧ Azz (2 * cnt us.length m + (if t = true then 1 else 0) = g) ∧ Azz (Mx wr2 w.heap.size us.length u5 bs m) ∧ Azz (Apt us.length (inn ins) (al us) (foldP us ins) m ∧ (t = false → ∀ i k, i < us.length → k < us.length → m i k = false → ∀ j, j < (rf us i).length → m ((rf us i).getD j 0) ((rf us k).getD j 0) = false)) ∧ Azz (Below w.heap.size w wr2))
   case atStart => exact ⟨_, true, rfl, ⟨rfl⟩, HX, ⟨HAp.out, fun h => by cases h⟩, HB⟩
   case round =>
    clear HX HAp HB
    obtain ⟨m0, t, rfl, HG, HX, HAp, HB⟩ := hrel
    cases t with
    | false =>
     have HEnd := Azz.mk (apt_end HOk.out HAp.out.1 (HAp.out.2 rfl))
     go_wp2
     go_ret
     exact ⟨HB.out, _, bs, m0, rfl, HX.out, hbl, HEnd.out⟩
    | true =>
     go_wp2
     go_loopw [9, 10] (fun v9 v wr2 => ∃ (i : Nat) (m : Nat → Nat → Bool) (t : Bool), i ≤ us.length ∧ v = .int .i64 i ∧ v9 = .bool t ∧ Azz (Mx wr2 w.heap.size us.length u5 bs m) ∧ Azz (Trn us ins m0 i 0 0 m t) ∧ Azz (Below w.heap.size w wr2)) (fun _ v _ => us.length - (RowKit.intOf v).toNat)
     case atStart => exact ⟨0, m0, false, Nat.zero_le _, rfl, rfl, HX, ⟨Trn.start HAp.out.1⟩, HB⟩
     case round =>
      clear HX HB HAp
      obtain ⟨i, m, t, hi, rfl, rfl, HX, HT, HB⟩ := hrel
      by_cases hlt : i < us.length
      rotate_left
      ·obtain rfl : i = us.length := by omega
       go_wp2
       go_roundg (2 * cnt us.length m + (if t = true then 1 else 0))
       case measure =>
        have h1 : 2 * cnt us.length m0 + 1 = gk := by simpa using HG.out
        cases t with
        | false => have := HT.out.le; rw [if_neg (by decide)]; omega
        | true => have := HT.out.less rfl; rw [if_pos rfl]; omega
       case rel =>
        refine ⟨m, t, rfl, ⟨rfl⟩, HX, ⟨HT.out.apt, fun e => ?_⟩, HB⟩
        subst e
        exact HT.out.closed
      have i0 : (0 : Int) ≤ (i : Int) := by omega
      have i1 : (i : Int) < us.length := by omega
      have HLt := Azz.mk hlt
      clear hlt
      go_wp2
      go_loopw [9, 11] (fun v9 v wr2 => ∃ (k : Nat) (m : Nat → Nat → Bool) (t : Bool), k ≤ us.length ∧ v = .int .i64 k ∧ v9 = .bool t ∧ Azz (Mx wr2 w.heap.size us.length u5 bs m) ∧ Azz (Trn us ins m0 i k 0 m t) ∧ Azz (Below w.heap.size w wr2)) (fun _ v _ => us.length - (RowKit.intOf v).toNat)
      case atStart => exact ⟨0, m, t, Nat.zero_le _, rfl, rfl, HX, HT, HB⟩
      case round =>
       clear HX HB HT
       obtain ⟨k, m, t, hk, rfl, rfl, HX, HT, HB⟩ := hrel
       by_cases hkl : k < us.length
       rotate_left
       ·obtain rfl : k = us.length := by omega
        go_wp2
        go_roundw
        case rel => exact ⟨i + 1, m, t, HLt.out, by go_num, rfl, HX, ⟨HT.out.endK⟩, HB⟩
        case measure => have := HLt.out; simp [RowKit.intOf]; omega
       have k0 : (0 : Int) ≤ (k : Int) := by omega
       have k1 : (k : Int) < us.length := by omega
       have HKl := Azz.mk hkl
       clear hkl
       go_wp2
       go_loopw [9, 12] (fun v9 v wr2 => ∃ (j : Nat) (m : Nat → Nat → Bool) (t : Bool), j ≤ (rf us i).length ∧ v = .int .i64 j ∧ v9 = .bool t ∧ Azz (Mx wr2 w.heap.size us.length u5 bs m) ∧ Azz (Trn us ins m0 i k j m t) ∧ Azz (Below w.heap.size w wr2)) (fun _ v _ => (rf us i).length - (RowKit.intOf v).toNat)
       case atStart => exact ⟨0, m, t, Nat.zero_le _, rfl, rfl, HX, HT, HB⟩
       case round =>
        clear HX HB HT
        obtain ⟨j, m, t, hj, rfl, rfl, HX, HT, HB⟩ := hrel
        have hri := rf_length us i
        have hrk := rf_length us k
        have hri64 := h64.out i HLt.out
        obtain ⟨ad, A5, c5, ea, _, _, _, _, _, x5, l5, C5⟩ := P.at_T39 (Kd.C_below HU.out HB.out) i (by omega) (by omega)
        cases ea
        obtain ⟨_, B5, d5, ea, _, _, _, _, _, y5, m5, D5⟩ := P.at_T39 (Kd.C_below HU.out HB.out) k (by omega) (by omega)
        cases ea
        obtain ⟨ao, co, ev, hh⟩ := HX.out.head (i := i) (by rw [hbl]; exact HLt.out)
        cases ev
        have hcl := HX.out.cell (i := i) (k := k) (by rw [hbl]; exact HLt.out) HKl.out
        have hfz := (HX.out.blk i (by rw [hbl]; exact HLt.out)).frozen k
        obtain ⟨bi, hbi⟩ : ∃ b, bs.getD i 0 = b := ⟨_, rfl⟩
        have HBi := Azz.mk hbi
        have HBlo := Azz.mk (HX.out.lo i (by rw [hbl]; exact HLt.out))
        rw [hbi] at hh hcl hfz HBlo
        rw [Int.toNat_natCast] at x5 y5
        obtain ⟨x, hx⟩ : ∃ x, P.rd_T39 us i = x := ⟨_, rfl⟩
        obtain ⟨y, hy⟩ : ∃ y, P.rd_T39 us k = y := ⟨_, rfl⟩
        have HXe := Azz.mk hx
        have HYe := Azz.mk hy
        rw [hx] at x5 l5 C5 hri hri64
        rw [hy] at y5 m5 D5 hrk
        have HC5 := Azz.mk C5
        have HD5 := Azz.mk D5
        clear hx hy hbi C5 D5
        obtain ⟨b, hb⟩ : ∃ b, m i k = b := ⟨_, rfl⟩
        rw [hb] at hcl
        have HBm := Azz.mk hb
        clear hb
        by_cases hjl : j < x.f5.length
        rotate_left
        ·have j1 : decide ((j : Int) < x.f5.length) = false := dF_ (by omega)
         go_wp2
         go_roundw
         case rel => exact ⟨k + 1, m, t, HKl.out, by go_num, rfl, HX, ⟨HT.out.endJ (.inr (by omega))⟩, HB⟩
         case measure => have := HKl.out; simp [RowKit.intOf]; omega
        have j1 : decide ((j : Int) < x.f5.length) = true := dT_ (by omega)
        cases b with
        | true =>
         go_wp2
         go_roundw
         case rel => exact ⟨k + 1, m, t, HKl.out, by go_num, rfl, HX, ⟨HT.out.endJ (.inl HBm.out)⟩, HB⟩
         case measure => have := HKl.out; simp [RowKit.intOf]; omega
        | false =>
         have hjk : j < y.f5.length := by
          have := apt_len HT.out.apt HLt.out HKl.out HBm.out
          omega
         obtain ⟨q, hq, hql, hqg⟩ := ref_atA HOk.out HLt.out (j := j) (by rw [HXe.out]; exact hjl)
         obtain ⟨p, hp, hpl, hpg⟩ := ref_atA HOk.out HKl.out (j := j) (by rw [HYe.out]; exact hjk)
         rw [HXe.out] at hq
         rw [HYe.out] at hp
         obtain ⟨a5, ea, _, _, r2, _⟩ := P.at_T80 HC5.out j (by omega) (by omega)
         cases ea
         obtain ⟨e5, ea, _, _, s2, _⟩ := P.at_T80 HD5.out j (by omega) (by omega)
         cases ea
         rw [Int.toNat_natCast, hq] at r2
         rw [Int.toNat_natCast, hp] at s2
         obtain ⟨aq, cq, ev, hhq⟩ := HX.out.head (i := q) (by rw [hbl]; exact hql)
         cases ev
         have hcq := HX.out.cell (i := q) (k := p) (by rw [hbl]; exact hql) hpl
         obtain ⟨bq, hbq⟩ : ∃ b, bs.getD q 0 = b := ⟨_, rfl⟩
         rw [hbq] at hhq hcq
         obtain ⟨z, hz⟩ : ∃ z, m q p = z := ⟨_, rfl⟩
         rw [hz] at hcq
         have HZ := Azz.mk (show m ((rf us i).getD j 0) ((rf us k).getD j 0) = z by rw [hqg, hpg]; exact hz)
         have j0 : (0 : Int) ≤ (j : Int) := by omega
         have j2 : (j : Int) < x.f5.length := by omega
         have j3 : (j : Int) < y.f5.length := by omega
         have q0 : (0 : Int) ≤ (q : Int) := by omega
         have q1 : (q : Int) < us.length := by omega
         have p0 : (0 : Int) ≤ (p : Int) := by omega
         have p1 : (p : Int) < us.length := by omega
         clear hq hqg hp hpg hbq hz
         cases z with
         | false =>
          go_wp2
          go_quiet (fail)
          go_wp2
          go_roundw
          case rel => exact ⟨j + 1, m, t, by omega, by go_num, rfl, ⟨HX.out.below (bNN (Below.refl _ _) _)⟩, ⟨HT.out.stepJ (fun _ _ => HZ.out)⟩, ⟨bNN HB.out _⟩⟩
          case measure => simp [RowKit.intOf]; omega
         | true =>
          go_wp2
          go_quiet (fail)
          go_wp2
          go_roundw
          case rel => exact ⟨j + 1, Folds.put m i k, true, by omega, by go_num, rfl, ⟨HX.out.setN _ (by rw [hbl]; exact HLt.out) k HBi.out⟩, ⟨HT.out.put HOk.out HLt.out HKl.out HBm.out (by omega) (by omega) HZ.out⟩, ⟨Below.setCell (p := ⟨bi, k, none⟩) (bNN HB.out _) HBlo.out _⟩⟩
          case measure => simp [RowKit.intOf]; omega
  have hmk := make_bools us.length hul
  have hbb := made_bb us.length wi
  rw [rowK_zero (apart0 (inn ins) (al us) i)] at hbb
  have HBB := Azz.mk hbb
  have HB0 := Azz.mk ((Below.refl wi.heap.size wi).alloc (Nat.le_refl _) (.cells (madeCells #[.bool false] us.length) 4))
  have i0 : (0 : Int) ≤ (i : Int) := by omega
  have i1 : (i : Int) < us.length := by omega
  have HLt := Azz.mk hlt
  clear hbb
  go_wp2
  clear hmk
  go_loopw [8] (fun v wk => ∃ k : Nat, k ≤ us.length ∧ v = .int .i64 k ∧ Azz (BB wk wi.heap.size (rowK (apart0 (inn ins) (al us) i) us.length k)) ∧ Azz (Below wi.heap.size wi wk)) (fun v _ => us.length - (RowKit.intOf v).toNat)
  case atStart => exact ⟨0, Nat.zero_le _, rfl, HBB, HB0⟩
  case round =>
   clear HBB HB0
   obtain ⟨k, hk, rfl, HRw, HBk⟩ := hrel
   by_cases hkl : k < us.length
   rotate_left
   ·obtain rfl : k = us.length := by omega
    have HX2 := Azz.mk (HX.out.1.below HBk.out)
    have HB2 := Azz.mk (bTT HB.out HBk.out)
    have hbl := HX.out.2
    have HOld : Azz (∀ q, q < bs.length → bs.getD q 0 ≠ wi.heap.size) := ⟨fun q hq e => by have := (Array.getElem?_eq_some_iff.1 (HX.out.1.blk q hq)).1; omega⟩
    have HRow : Azz (BB wr wi.heap.size ((List.range us.length).map (apart0 (inn ins) (al us) bs.length))) := ⟨by rw [hbl, ← rowK_all]; exact HRw.out⟩
    go_wp2_with (at_builtin; refine R_app (kHd us.length) (w0 := w) wr w.heap.size rfl (.tmp 61) (.tmp 63) 75 23 (.slice none 0 0) 24 rfl Tryz.underlying75 info_rowB rfl Nat.zero_lt_one (by decide) u5 bs wi.heap.size [.slice (some ⟨wi.heap.size, 0, none⟩) us.length us.length] (fun _ => True) (fun _ => False) rfl rfl rfl rfl (fun _ h => h.elim) (fun _ _ => trivial) HX2.out.row HB2.out HB2.out.size (by rw [hbl]; omega) ?_; intro v1 w7 ho1 hb1 hg1; have HO1 := Azz.mk ho1; have HB1 := Azz.mk hb1; have HG1 := Azz.mk hg1; clear ho1 hb1 hg1)
    go_roundw
    case rel => exact ⟨i + 1, bs ++ [wi.heap.size], by have := HLt.out; omega, by go_num, ⟨HX2.out.snoc HRow.out HB.out.size HOld.out HO1.out HG1.out, by rw [List.length_append, hbl]; rfl⟩, HB1⟩
    case measure => have := HLt.out; simp [RowKit.intOf]; omega
   have k0 : (0 : Int) ≤ (k : Int) := by omega
   have k1 : (k : Int) < us.length := by omega
   have HB2 := Azz.mk (bTT HB.out HBk.out)
   by_cases hik : i = k
   ·have e1 : ((i : Int) != (k : Int)) = false := by simp [hik]
    have HAp := Azz.mk (show apart0 (inn ins) (al us) i k = false by rw [hik]; exact ap_self _ _ _)
    clear hik
    go_wp2
    refine start_ (n := 33) (S := fun w' => True) (ds := [32]) (tk 33 0) (by kernel_rfl) rfl (by kernel_rfl) trivial (fun hHeld => ?_)
    have HRd := Azz.mk (show BB wr.drew wi.heap.size (rowK (apart0 (inn ins) (al us) i) us.length k) from HRw.out)
    have HBd := Azz.mk (bDD HBk.out)
    generalize wr.drew = Vd at HRd HBd hHeld ⊢
    iterate 6
     refine pureK (v := ?_) (a' := ?_) rfl (by as_aux_lemma => kernel_rfl) (fun _ _ _ h => h) (Or.inl ⟨by rfl, ?_⟩) ?_ ?_
     rotate_left
     (intro w'; go_simp; with_reducible rfl)
     rotate_left
     (show Act.put _ (some _) _ = _; simp only [Act.put, l_A, l_0, l_1, i64_w, i32_w]; rfl)
    iterate 24
     refine pureK (v := undef) (a' := ?_) rfl (by as_aux_lemma => kernel_rfl) (fun _ _ _ h => h) (Or.inr ⟨by rfl, rfl⟩) ?_ ?_
     rotate_left
     (show Act.put _ (some _) _ = _; simp only [Act.put, l_A, l_0, l_1, i64_w, i32_w]; rfl)
    iterate 2
     refine pureK (v := ?_) (a' := ?_) rfl (by as_aux_lemma => kernel_rfl) (fun _ _ _ h => h) (Or.inl ⟨by rfl, ?_⟩) ?_ ?_
     rotate_left
     (intro w'; go_simp; with_reducible rfl)
     rotate_left
     (show Act.put _ (some _) _ = _; simp only [Act.put, l_A, l_0, l_1, i64_w, i32_w]; rfl)
    refine last_ (i := 32) (N := none) (tk 33 33) rfl rfl (by kernel_rfl) (by decide) (fun K hK => ?_)
    have cz := HRd.out.cell k (by rw [rowK_length]; omega)
    have fz := HRd.out.frozen k
    refine skip_ (w1 := ?_) (by rfl) rfl ?_ ?_
    rotate_left
    ·go_simp
     rfl
    refine hK.out _ _ ?_
    clear cz fz
    clear hK K
    refine done_ (by kernel_rfl) ?_
    clear hHeld
    go_wp2
    go_roundw
    case rel =>
     refine ⟨k + 1, by omega, by go_num, ⟨?_⟩, ⟨Below.setCell (p := ⟨wi.heap.size, k, none⟩) HBd.out (Nat.le_refl _) _⟩⟩
     rw [← rowK_set, HAp.out]
     exact HRd.out.set k _
    case measure => simp [RowKit.intOf]; omega
   have e1 : ((i : Int) != (k : Int)) = true := bN_ (by omega)
   obtain ⟨ad2, e2, n1⟩ := bool_at _ A2 ins (Kd.C_below HI.out HB2.out) i (by have := HIl.out; omega)
   cases e2
   obtain ⟨ad3, e3, n2⟩ := bool_at _ (some ad2) ins (Kd.C_below HI.out HB2.out) k (by have := HIl.out; omega)
   cases e3
   obtain ⟨bi, hbi⟩ : ∃ b, ins.getD i false = b := ⟨_, rfl⟩
   obtain ⟨bk, hbk⟩ : ∃ b, ins.getD k false = b := ⟨_, rfl⟩
   rw [hbi] at n1
   rw [hbk] at n2
   cases bi with
   | false =>
    have HAp := Azz.mk (show apart0 (inn ins) (al us) i k = true from ap_out1 hik hbi)
    clear hik hbi hbk
    go_wp2
    refine start_ (n := 33) (S := fun w' => w'.cell? (ad2.add i) = some (.bool false)) (ds := [32]) (tk 33 0) (by kernel_rfl) rfl (by kernel_rfl) n1 (fun hHeld => ?_)
    have HRd := Azz.mk (show BB wr.drew wi.heap.size (rowK (apart0 (inn ins) (al us) i) us.length k) from HRw.out)
    have HBd := Azz.mk (bDD HBk.out)
    generalize wr.drew = Vd at HRd HBd hHeld ⊢
    iterate 9
     refine pureK (v := ?_) (a' := ?_) rfl (by as_aux_lemma => kernel_rfl) (fun _ _ _ h => h) (Or.inl ⟨by rfl, ?_⟩) ?_ ?_
     rotate_left
     (intro w'; go_simp; with_reducible rfl)
     rotate_left
     (show Act.put _ (some _) _ = _; simp only [Act.put, l_A, l_0, l_1, i64_w, i32_w]; rfl)
    refine takeK (v := ?_) (a' := ?_) rfl (by as_aux_lemma => kernel_rfl) (fun _ _ _ h => h) (Or.inl ⟨by rfl, ?_⟩) hHeld ?_ ?_
    rotate_left
    (intro w' s0_; go_simp; with_reducible rfl)
    rotate_left
    (show Act.put _ (some _) _ = _; simp only [Act.put, l_A, l_0, l_1, i64_w, i32_w]; rfl)
    iterate 2
     refine pureK (v := ?_) (a' := ?_) rfl (by as_aux_lemma => kernel_rfl) (fun _ _ _ h => h) (Or.inl ⟨by rfl, ?_⟩) ?_ ?_
     rotate_left
     (intro w'; go_simp; with_reducible rfl)
     rotate_left
     (show Act.put _ (some _) _ = _; simp only [Act.put, l_A, l_0, l_1, i64_w, i32_w]; rfl)
    iterate 5
     refine pureK (v := undef) (a' := ?_) rfl (by as_aux_lemma => kernel_rfl) (fun _ _ _ h => h) (Or.inr ⟨by rfl, rfl⟩) ?_ ?_
     rotate_left
     (show Act.put _ (some _) _ = _; simp only [Act.put, l_A, l_0, l_1, i64_w, i32_w]; rfl)
    iterate 2
     refine pureK (v := ?_) (a' := ?_) rfl (by as_aux_lemma => kernel_rfl) (fun _ _ _ h => h) (Or.inl ⟨by rfl, ?_⟩) ?_ ?_
     rotate_left
     (intro w'; go_simp; with_reducible rfl)
     rotate_left
     (show Act.put _ (some _) _ = _; simp only [Act.put, l_A, l_0, l_1, i64_w, i32_w]; rfl)
    iterate 10
     refine pureK (v := undef) (a' := ?_) rfl (by as_aux_lemma => kernel_rfl) (fun _ _ _ h => h) (Or.inr ⟨by rfl, rfl⟩) ?_ ?_
     rotate_left
     (show Act.put _ (some _) _ = _; simp only [Act.put, l_A, l_0, l_1, i64_w, i32_w]; rfl)
    iterate 3
     refine pureK (v := ?_) (a' := ?_) rfl (by as_aux_lemma => kernel_rfl) (fun _ _ _ h => h) (Or.inl ⟨by rfl, ?_⟩) ?_ ?_
     rotate_left
     (intro w'; go_simp; with_reducible rfl)
     rotate_left
     (show Act.put _ (some _) _ = _; simp only [Act.put, l_A, l_0, l_1, i64_w, i32_w]; rfl)
    refine last_ (i := 32) (N := none) (tk 33 33) rfl rfl (by kernel_rfl) (by decide) (fun K hK => ?_)
    have cz := HRd.out.cell k (by rw [rowK_length]; omega)
    have fz := HRd.out.frozen k
    refine skip_ (w1 := ?_) (by rfl) rfl ?_ ?_
    rotate_left
    ·go_simp
     rfl
    refine hK.out _ _ ?_
    clear cz fz
    clear hK K
    refine done_ (by kernel_rfl) ?_
    clear hHeld
    go_wp2
    go_roundw
    case rel =>
     refine ⟨k + 1, by omega, by go_num, ⟨?_⟩, ⟨Below.setCell (p := ⟨wi.heap.size, k, none⟩) HBd.out (Nat.le_refl _) _⟩⟩
     rw [← rowK_set, HAp.out]
     exact HRd.out.set k _
    case measure => simp [RowKit.intOf]; omega
   | true =>
    cases bk with
    | false =>
     have HAp := Azz.mk (show apart0 (inn ins) (al us) i k = true from ap_out2 hik hbk)
     clear hik hbi hbk
     go_wp2
     refine start_ (n := 33) (S := fun w' => w'.cell? (ad2.add i) = some (.bool true) ∧ w'.cell? (ad2.add k) = some (.bool false)) (ds := [32]) (tk 33 0) (by kernel_rfl) rfl (by kernel_rfl) ⟨n1, n2⟩ (fun hHeld => ?_)
     have HRd := Azz.mk (show BB wr.drew wi.heap.size (rowK (apart0 (inn ins) (al us) i) us.length k) from HRw.out)
     have HBd := Azz.mk (bDD HBk.out)
     generalize wr.drew = Vd at HRd HBd hHeld ⊢
     iterate 9
      refine pureK (v := ?_) (a' := ?_) rfl (by as_aux_lemma => kernel_rfl) (fun _ _ _ h => h) (Or.inl ⟨by rfl, ?_⟩) ?_ ?_
      rotate_left
      (intro w'; go_simp; with_reducible rfl)
      rotate_left
      (show Act.put _ (some _) _ = _; simp only [Act.put, l_A, l_0, l_1, i64_w, i32_w]; rfl)
     refine takeK (v := ?_) (a' := ?_) rfl (by as_aux_lemma => kernel_rfl) (fun _ _ _ h => h) (Or.inl ⟨by rfl, ?_⟩) hHeld ?_ ?_
     rotate_left
     (rintro w' ⟨s0_, s1_⟩; go_simp; with_reducible rfl)
     rotate_left
     (show Act.put _ (some _) _ = _; simp only [Act.put, l_A, l_0, l_1, i64_w, i32_w]; rfl)
     iterate 5
      refine pureK (v := ?_) (a' := ?_) rfl (by as_aux_lemma => kernel_rfl) (fun _ _ _ h => h) (Or.inl ⟨by rfl, ?_⟩) ?_ ?_
      rotate_left
      (intro w'; go_simp; with_reducible rfl)
      rotate_left
      (show Act.put _ (some _) _ = _; simp only [Act.put, l_A, l_0, l_1, i64_w, i32_w]; rfl)
     refine takeK (v := ?_) (a' := ?_) rfl (by as_aux_lemma => kernel_rfl) (fun _ _ _ h => h) (Or.inl ⟨by rfl, ?_⟩) hHeld ?_ ?_
     rotate_left
     (rintro w' ⟨s0_, s1_⟩; go_simp; with_reducible rfl)
     rotate_left
     (show Act.put _ (some _) _ = _; simp only [Act.put, l_A, l_0, l_1, i64_w, i32_w]; rfl)
     iterate 3
      refine pureK (v := ?_) (a' := ?_) rfl (by as_aux_lemma => kernel_rfl) (fun _ _ _ h => h) (Or.inl ⟨by rfl, ?_⟩) ?_ ?_
      rotate_left
      (intro w'; go_simp; with_reducible rfl)
      rotate_left
      (show Act.put _ (some _) _ = _; simp only [Act.put, l_A, l_0, l_1, i64_w, i32_w]; rfl)
     iterate 10
      refine pureK (v := undef) (a' := ?_) rfl (by as_aux_lemma => kernel_rfl) (fun _ _ _ h => h) (Or.inr ⟨by rfl, rfl⟩) ?_ ?_
      rotate_left
      (show Act.put _ (some _) _ = _; simp only [Act.put, l_A, l_0, l_1, i64_w, i32_w]; rfl)
     iterate 3
      refine pureK (v := ?_) (a' := ?_) rfl (by as_aux_lemma => kernel_rfl) (fun _ _ _ h => h) (Or.inl ⟨by rfl, ?_⟩) ?_ ?_
      rotate_left
      (intro w'; go_simp; with_reducible rfl)
      rotate_left
      (show Act.put _ (some _) _ = _; simp only [Act.put, l_A, l_0, l_1, i64_w, i32_w]; rfl)
     refine last_ (i := 32) (N := none) (tk 33 33) rfl rfl (by kernel_rfl) (by decide) (fun K hK => ?_)
     have cz := HRd.out.cell k (by rw [rowK_length]; omega)
     have fz := HRd.out.frozen k
     refine skip_ (w1 := ?_) (by rfl) rfl ?_ ?_
     rotate_left
     ·go_simp
      rfl
     refine hK.out _ _ ?_
     clear cz fz
     clear hK K
     refine done_ (by kernel_rfl) ?_
     clear hHeld
     go_wp2
     go_roundw
     case rel =>
      refine ⟨k + 1, by omega, by go_num, ⟨?_⟩, ⟨Below.setCell (p := ⟨wi.heap.size, k, none⟩) HBd.out (Nat.le_refl _) _⟩⟩
      rw [← rowK_set, HAp.out]
      exact HRd.out.set k _
     case measure => simp [RowKit.intOf]; omega
    | true =>
     have hAp := ap_in (inn := inn ins) (al := al us) hik hbi hbk
     obtain ⟨ad, A5, c5, ea, x0, x1, x2, x3, x4, x5, l5, C5⟩ := P.at_T39 (Kd.C_below HU.out HB2.out) i (by omega) (by omega)
     cases ea
     obtain ⟨ad4, B5, d5, ea, y0, y1, y2, y3, y4, y5, m5, D5⟩ := P.at_T39 (Kd.C_below HU.out HB2.out) k (by omega) (by omega)
     cases ea
     rw [Int.toNat_natCast] at x0 x1 x2 x3 x4 x5 y0 y1 y2 y3 y4 y5
     have hxl := h64.out i HLt.out
     have hal : al us i k = alikeU (P.rd_T39 us i) (P.rd_T39 us k) := rfl
     obtain ⟨x, hx⟩ : ∃ x, P.rd_T39 us i = x := ⟨_, rfl⟩
     obtain ⟨y, hy⟩ : ∃ y, P.rd_T39 us k = y := ⟨_, rfl⟩
     rw [hx, hy] at hal
     rw [hx] at x0 x1 x2 x3 x4 x5 l5 C5 hxl
     rw [hy] at y0 y1 y2 y3 y4 y5 m5 D5
     obtain ⟨q, hq⟩ : ∃ q, alikeU x y = q := ⟨_, rfl⟩
     have HAl := Azz.mk hq
     have HAp : Azz (apart0 (inn ins) (al us) i k = !q) := ⟨by rw [hAp, hal, hq]⟩
     have HX5 := Azz.mk (Kd.C_below C5 (bDD (Below.refl wr.heap.size wr)))
     have HY5 := Azz.mk (Kd.C_below D5 (bDD (Below.refl wr.heap.size wr)))
     have HXl := Azz.mk hxl
     clear hik hbi hbk hAp hx hy hal hq C5 D5 hxl
     cases q with
     | false =>
      go_wp2
      refine start_ (n := 33) (S := fun w' => w'.cell? (ad2.add i) = some (.bool true) ∧ w'.cell? (ad2.add k) = some (.bool true) ∧ w'.cell? (ad.add (i * 6)) = some (.string x.f0) ∧ w'.cell? ⟨(ad.add (i * 6)).block, (ad.add (i * 6)).off + 1, none⟩ = some (.int .i64 x.f1) ∧ w'.cell? ⟨(ad.add (i * 6)).block, (ad.add (i * 6)).off + 2, none⟩ = some (.bool x.f2) ∧ w'.cell? ⟨(ad.add (i * 6)).block, (ad.add (i * 6)).off + 3, none⟩ = some (.int .i64 x.f3) ∧ w'.cell? ⟨(ad.add (i * 6)).block, (ad.add (i * 6)).off + 4, none⟩ = some (.string x.f4) ∧ w'.cell? ⟨(ad.add (i * 6)).block, (ad.add (i * 6)).off + 5, none⟩ = some (.slice A5 x.f5.length c5) ∧ w'.cell? (ad.add (k * 6)) = some (.string y.f0) ∧ w'.cell? ⟨(ad.add (k * 6)).block, (ad.add (k * 6)).off + 1, none⟩ = some (.int .i64 y.f1) ∧ w'.cell? ⟨(ad.add (k * 6)).block, (ad.add (k * 6)).off + 2, none⟩ = some (.bool y.f2) ∧ w'.cell? ⟨(ad.add (k * 6)).block, (ad.add (k * 6)).off + 3, none⟩ = some (.int .i64 y.f3) ∧ w'.cell? ⟨(ad.add (k * 6)).block, (ad.add (k * 6)).off + 4, none⟩ = some (.string y.f4) ∧ w'.cell? ⟨(ad.add (k * 6)).block, (ad.add (k * 6)).off + 5, none⟩ = some (.slice B5 y.f5.length d5)) (ds := [32]) (tk 33 0) (by kernel_rfl) rfl (by kernel_rfl) ⟨n1, n2, x0, x1, x2, x3, x4, x5, y0, y1, y2, y3, y4, y5⟩ (fun hHeld => ?_)
      have HRd := Azz.mk (show BB wr.drew wi.heap.size (rowK (apart0 (inn ins) (al us) i) us.length k) from HRw.out)
      have HBd := Azz.mk (bDD HBk.out)
      generalize wr.drew = Vd at HRd HBd HX5 HY5 hHeld ⊢
      iterate 9
       refine pureK (v := ?_) (a' := ?_) rfl (by as_aux_lemma => kernel_rfl) (fun _ _ _ h => h) (Or.inl ⟨by rfl, ?_⟩) ?_ ?_
       rotate_left
       (intro w'; go_simp; with_reducible rfl)
       rotate_left
       (show Act.put _ (some _) _ = _; simp only [Act.put, l_A, l_0, l_1, i64_w, i32_w]; rfl)
      refine takeK (v := ?_) (a' := ?_) rfl (by as_aux_lemma => kernel_rfl) (fun _ _ _ h => h) (Or.inl ⟨by rfl, ?_⟩) hHeld ?_ ?_
      rotate_left
      (rintro w' ⟨s0_, s1_, s2_, s3_, s4_, s5_, s6_, s7_, s8_, s9_, s10_, s11_, s12_, s13_⟩; go_simp; with_reducible rfl)
      rotate_left
      (show Act.put _ (some _) _ = _; simp only [Act.put, l_A, l_0, l_1, i64_w, i32_w]; rfl)
      iterate 5
       refine pureK (v := ?_) (a' := ?_) rfl (by as_aux_lemma => kernel_rfl) (fun _ _ _ h => h) (Or.inl ⟨by rfl, ?_⟩) ?_ ?_
       rotate_left
       (intro w'; go_simp; with_reducible rfl)
       rotate_left
       (show Act.put _ (some _) _ = _; simp only [Act.put, l_A, l_0, l_1, i64_w, i32_w]; rfl)
      refine takeK (v := ?_) (a' := ?_) rfl (by as_aux_lemma => kernel_rfl) (fun _ _ _ h => h) (Or.inl ⟨by rfl, ?_⟩) hHeld ?_ ?_
      rotate_left
      (rintro w' ⟨s0_, s1_, s2_, s3_, s4_, s5_, s6_, s7_, s8_, s9_, s10_, s11_, s12_, s13_⟩; go_simp; with_reducible rfl)
      rotate_left
      (show Act.put _ (some _) _ = _; simp only [Act.put, l_A, l_0, l_1, i64_w, i32_w]; rfl)
      iterate 6
       refine pureK (v := ?_) (a' := ?_) rfl (by as_aux_lemma => kernel_rfl) (fun _ _ _ h => h) (Or.inl ⟨by rfl, ?_⟩) ?_ ?_
       rotate_left
       (intro w'; go_simp; with_reducible rfl)
       rotate_left
       (show Act.put _ (some _) _ = _; simp only [Act.put, l_A, l_0, l_1, i64_w, i32_w]; rfl)
      refine takeK (v := ?_) (a' := ?_) rfl (by as_aux_lemma => kernel_rfl) (fun _ _ _ h => h) (Or.inl ⟨by rfl, ?_⟩) hHeld ?_ ?_
      rotate_left
      (rintro w' ⟨s0_, s1_, s2_, s3_, s4_, s5_, s6_, s7_, s8_, s9_, s10_, s11_, s12_, s13_⟩; go_simp; with_reducible rfl)
      rotate_left
      (show Act.put _ (some _) _ = _; simp only [Act.put, l_A, l_0, l_1, i64_w, i32_w]; rfl)
      iterate 3
       refine pureK (v := ?_) (a' := ?_) rfl (by as_aux_lemma => kernel_rfl) (fun _ _ _ h => h) (Or.inl ⟨by rfl, ?_⟩) ?_ ?_
       rotate_left
       (intro w'; go_simp; with_reducible rfl)
       rotate_left
       (show Act.put _ (some _) _ = _; simp only [Act.put, l_A, l_0, l_1, i64_w, i32_w]; rfl)
      refine takeK (v := ?_) (a' := ?_) rfl (by as_aux_lemma => kernel_rfl) (fun _ _ _ h => h) (Or.inl ⟨by rfl, ?_⟩) hHeld ?_ ?_
      rotate_left
      (rintro w' ⟨s0_, s1_, s2_, s3_, s4_, s5_, s6_, s7_, s8_, s9_, s10_, s11_, s12_, s13_⟩; go_simp; with_reducible rfl)
      rotate_left
      (show Act.put _ (some _) _ = _; simp only [Act.put, l_A, l_0, l_1, i64_w, i32_w]; rfl)
      refine one_ (i := 27) (N := some 56) (tk 33 28) rfl rfl (by kernel_rfl) (by decide) (fun K hK => ?_)
      refine goes_ Tryz.func18 (by kernel_rfl) rfl #[.agg #[.string x.f0, .int .i64 x.f1, .bool x.f2, .int .i64 x.f3, .string x.f4, .slice A5 x.f5.length c5], .agg #[.string y.f0, .int .i64 y.f1, .bool y.f2, .int .i64 y.f3, .string y.f4, .slice B5 y.f5.length d5]] (by kernel_rfl) rfl rfl (by kernel_rfl) ?_
      refine (ralike_calls Vd x y A5 B5 c5 d5 HX5.out l5 HY5.out m5 (by have := HXl.out; omega)).mono ?_
      rintro e w5 ⟨rfl, hb⟩
      replace HRd := Azz.mk (HRd.out.below hb)
      replace HBd := Azz.mk (bTT HBd.out hb)
      obtain ⟨i1_, i2_, hx_⟩ := hHeld
      have hHeld := And.intro (kp1 i1_ hb) (And.intro (kp1 i2_ hb) (kp12 hx_ hb))
      clear i1_ i2_ hx_ hb
      rw [HAl.out]
      refine ⟨_, rfl, ?_⟩
      refine hK.out _ _ hHeld (fun hHeld => ?_)
      clear hK K
      refine norm_ (a' := ?_) ?_ ?_
      rotate_left
      ·show Act.put _ (some 56) _ = _
       simp only [Act.put, l_A, l_0, l_1, i64_w, i32_w]
       rfl
      iterate 4
       refine pureK (v := ?_) (a' := ?_) rfl (by as_aux_lemma => kernel_rfl) (fun _ _ _ h => h) (Or.inl ⟨by rfl, ?_⟩) ?_ ?_
       rotate_left
       (intro w'; go_simp; with_reducible rfl)
       rotate_left
       (show Act.put _ (some _) _ = _; simp only [Act.put, l_A, l_0, l_1, i64_w, i32_w]; rfl)
      refine last_ (i := 32) (N := none) (tk 33 33) rfl rfl (by kernel_rfl) (by decide) (fun K hK => ?_)
      have cz := HRd.out.cell k (by rw [rowK_length]; omega)
      have fz := HRd.out.frozen k
      refine skip_ (w1 := ?_) (by rfl) rfl ?_ ?_
      rotate_left
      ·go_simp
       rfl
      refine hK.out _ _ ?_
      clear cz fz
      clear hK K
      refine done_ (by kernel_rfl) ?_
      clear hHeld
      go_wp2
      go_roundw
      case rel =>
       refine ⟨k + 1, by omega, by go_num, ⟨?_⟩, ⟨Below.setCell (p := ⟨wi.heap.size, k, none⟩) HBd.out (Nat.le_refl _) _⟩⟩
       rw [← rowK_set, HAp.out]
       exact HRd.out.set k _
      case measure => simp [RowKit.intOf]; omega
     | true =>
      go_wp2
      refine start_ (n := 33) (S := fun w' => w'.cell? (ad2.add i) = some (.bool true) ∧ w'.cell? (ad2.add k) = some (.bool true) ∧ w'.cell? (ad.add (i * 6)) = some (.string x.f0) ∧ w'.cell? ⟨(ad.add (i * 6)).block, (ad.add (i * 6)).off + 1, none⟩ = some (.int .i64 x.f1) ∧ w'.cell? ⟨(ad.add (i * 6)).block, (ad.add (i * 6)).off + 2, none⟩ = some (.bool x.f2) ∧ w'.cell? ⟨(ad.add (i * 6)).block, (ad.add (i * 6)).off + 3, none⟩ = some (.int .i64 x.f3) ∧ w'.cell? ⟨(ad.add (i * 6)).block, (ad.add (i * 6)).off + 4, none⟩ = some (.string x.f4) ∧ w'.cell? ⟨(ad.add (i * 6)).block, (ad.add (i * 6)).off + 5, none⟩ = some (.slice A5 x.f5.length c5) ∧ w'.cell? (ad.add (k * 6)) = some (.string y.f0) ∧ w'.cell? ⟨(ad.add (k * 6)).block, (ad.add (k * 6)).off + 1, none⟩ = some (.int .i64 y.f1) ∧ w'.cell? ⟨(ad.add (k * 6)).block, (ad.add (k * 6)).off + 2, none⟩ = some (.bool y.f2) ∧ w'.cell? ⟨(ad.add (k * 6)).block, (ad.add (k * 6)).off + 3, none⟩ = some (.int .i64 y.f3) ∧ w'.cell? ⟨(ad.add (k * 6)).block, (ad.add (k * 6)).off + 4, none⟩ = some (.string y.f4) ∧ w'.cell? ⟨(ad.add (k * 6)).block, (ad.add (k * 6)).off + 5, none⟩ = some (.slice B5 y.f5.length d5)) (ds := [32]) (tk 33 0) (by kernel_rfl) rfl (by kernel_rfl) ⟨n1, n2, x0, x1, x2, x3, x4, x5, y0, y1, y2, y3, y4, y5⟩ (fun hHeld => ?_)
      have HRd := Azz.mk (show BB wr.drew wi.heap.size (rowK (apart0 (inn ins) (al us) i) us.length k) from HRw.out)
      have HBd := Azz.mk (bDD HBk.out)
      generalize wr.drew = Vd at HRd HBd HX5 HY5 hHeld ⊢
      iterate 9
       refine pureK (v := ?_) (a' := ?_) rfl (by as_aux_lemma => kernel_rfl) (fun _ _ _ h => h) (Or.inl ⟨by rfl, ?_⟩) ?_ ?_
       rotate_left
       (intro w'; go_simp; with_reducible rfl)
       rotate_left
       (show Act.put _ (some _) _ = _; simp only [Act.put, l_A, l_0, l_1, i64_w, i32_w]; rfl)
      refine takeK (v := ?_) (a' := ?_) rfl (by as_aux_lemma => kernel_rfl) (fun _ _ _ h => h) (Or.inl ⟨by rfl, ?_⟩) hHeld ?_ ?_
      rotate_left
      (rintro w' ⟨s0_, s1_, s2_, s3_, s4_, s5_, s6_, s7_, s8_, s9_, s10_, s11_, s12_, s13_⟩; go_simp; with_reducible rfl)
      rotate_left
      (show Act.put _ (some _) _ = _; simp only [Act.put, l_A, l_0, l_1, i64_w, i32_w]; rfl)
      iterate 5
       refine pureK (v := ?_) (a' := ?_) rfl (by as_aux_lemma => kernel_rfl) (fun _ _ _ h => h) (Or.inl ⟨by rfl, ?_⟩) ?_ ?_
       rotate_left
       (intro w'; go_simp; with_reducible rfl)
       rotate_left
       (show Act.put _ (some _) _ = _; simp only [Act.put, l_A, l_0, l_1, i64_w, i32_w]; rfl)
      refine takeK (v := ?_) (a' := ?_) rfl (by as_aux_lemma => kernel_rfl) (fun _ _ _ h => h) (Or.inl ⟨by rfl, ?_⟩) hHeld ?_ ?_
      rotate_left
      (rintro w' ⟨s0_, s1_, s2_, s3_, s4_, s5_, s6_, s7_, s8_, s9_, s10_, s11_, s12_, s13_⟩; go_simp; with_reducible rfl)
      rotate_left
      (show Act.put _ (some _) _ = _; simp only [Act.put, l_A, l_0, l_1, i64_w, i32_w]; rfl)
      iterate 6
       refine pureK (v := ?_) (a' := ?_) rfl (by as_aux_lemma => kernel_rfl) (fun _ _ _ h => h) (Or.inl ⟨by rfl, ?_⟩) ?_ ?_
       rotate_left
       (intro w'; go_simp; with_reducible rfl)
       rotate_left
       (show Act.put _ (some _) _ = _; simp only [Act.put, l_A, l_0, l_1, i64_w, i32_w]; rfl)
      refine takeK (v := ?_) (a' := ?_) rfl (by as_aux_lemma => kernel_rfl) (fun _ _ _ h => h) (Or.inl ⟨by rfl, ?_⟩) hHeld ?_ ?_
      rotate_left
      (rintro w' ⟨s0_, s1_, s2_, s3_, s4_, s5_, s6_, s7_, s8_, s9_, s10_, s11_, s12_, s13_⟩; go_simp; with_reducible rfl)
      rotate_left
      (show Act.put _ (some _) _ = _; simp only [Act.put, l_A, l_0, l_1, i64_w, i32_w]; rfl)
      iterate 3
       refine pureK (v := ?_) (a' := ?_) rfl (by as_aux_lemma => kernel_rfl) (fun _ _ _ h => h) (Or.inl ⟨by rfl, ?_⟩) ?_ ?_
       rotate_left
       (intro w'; go_simp; with_reducible rfl)
       rotate_left
       (show Act.put _ (some _) _ = _; simp only [Act.put, l_A, l_0, l_1, i64_w, i32_w]; rfl)
      refine takeK (v := ?_) (a' := ?_) rfl (by as_aux_lemma => kernel_rfl) (fun _ _ _ h => h) (Or.inl ⟨by rfl, ?_⟩) hHeld ?_ ?_
      rotate_left
      (rintro w' ⟨s0_, s1_, s2_, s3_, s4_, s5_, s6_, s7_, s8_, s9_, s10_, s11_, s12_, s13_⟩; go_simp; with_reducible rfl)
      rotate_left
      (show Act.put _ (some _) _ = _; simp only [Act.put, l_A, l_0, l_1, i64_w, i32_w]; rfl)
      refine one_ (i := 27) (N := some 56) (tk 33 28) rfl rfl (by kernel_rfl) (by decide) (fun K hK => ?_)
      refine goes_ Tryz.func18 (by kernel_rfl) rfl #[.agg #[.string x.f0, .int .i64 x.f1, .bool x.f2, .int .i64 x.f3, .string x.f4, .slice A5 x.f5.length c5], .agg #[.string y.f0, .int .i64 y.f1, .bool y.f2, .int .i64 y.f3, .string y.f4, .slice B5 y.f5.length d5]] (by kernel_rfl) rfl rfl (by kernel_rfl) ?_
      refine (ralike_calls Vd x y A5 B5 c5 d5 HX5.out l5 HY5.out m5 (by have := HXl.out; omega)).mono ?_
      rintro e w5 ⟨rfl, hb⟩
      replace HRd := Azz.mk (HRd.out.below hb)
      replace HBd := Azz.mk (bTT HBd.out hb)
      obtain ⟨i1_, i2_, hx_⟩ := hHeld
      have hHeld := And.intro (kp1 i1_ hb) (And.intro (kp1 i2_ hb) (kp12 hx_ hb))
      clear i1_ i2_ hx_ hb
      rw [HAl.out]
      refine ⟨_, rfl, ?_⟩
      refine hK.out _ _ hHeld (fun hHeld => ?_)
      clear hK K
      refine norm_ (a' := ?_) ?_ ?_
      rotate_left
      ·show Act.put _ (some 56) _ = _
       simp only [Act.put, l_A, l_0, l_1, i64_w, i32_w]
       rfl
      iterate 4
       refine pureK (v := ?_) (a' := ?_) rfl (by as_aux_lemma => kernel_rfl) (fun _ _ _ h => h) (Or.inl ⟨by rfl, ?_⟩) ?_ ?_
       rotate_left
       (intro w'; go_simp; with_reducible rfl)
       rotate_left
       (show Act.put _ (some _) _ = _; simp only [Act.put, l_A, l_0, l_1, i64_w, i32_w]; rfl)
      refine last_ (i := 32) (N := none) (tk 33 33) rfl rfl (by kernel_rfl) (by decide) (fun K hK => ?_)
      have cz := HRd.out.cell k (by rw [rowK_length]; omega)
      have fz := HRd.out.frozen k
      refine skip_ (w1 := ?_) (by rfl) rfl ?_ ?_
      rotate_left
      ·go_simp
       rfl
      refine hK.out _ _ ?_
      clear cz fz
      clear hK K
      refine done_ (by kernel_rfl) ?_
      clear hHeld
      go_wp2
      go_roundw
      case rel =>
       refine ⟨k + 1, by omega, by go_num, ⟨?_⟩, ⟨Below.setCell (p := ⟨wi.heap.size, k, none⟩) HBd.out (Nat.le_refl _) _⟩⟩
       rw [← rowK_set, HAp.out]
       exact HRd.out.set k _
      case measure => simp [RowKit.intOf]; omega
end Go.Proofs.YtngmipfodjgmmaaGreatDoor.Pure
