/- 'good' walked: whether a partition is good. -/
import Derived.Test.YtngmipfodjgmmaaDoorFr68
namespace Go.Proofs.YtngmipfodjgmmaaDoor.Pure
open Go Go.RowKit Go.Lib Go.Shelf Go.Proofs.YtngmipfodjgmmaaDoorW.PrintWords Go.Proofs.YtngmipfodjgmmaaDoorW.PrintLast Go.Proofs.YtngmipfodjgmmaaDoorW.PrintMore
open P (Glob UA root_at)
open Folds (gt GoodQ)
set_option linter.unusedVariables false
set_option linter.unusedSimpArgs false
def tk (n k : Nat) : Array Bool := (List.replicate k true ++ List.replicate (n - k) false).toArray
theorem pureK {P : Program} {ops : Array Oper} {Q : Exit → Act → World → Prop} {md : Region.Mode} {S : World → Prop} {ds : List Nat} {n k : Nat} {oi : Oper} {v : Value} {fuel : Nat} {a : Act} {w : World} (hi : ops[k]? = some oi) (hc : anyB md ops (tk n k) (tk n (k + 1)) k = true)
 (hQ : ∀ c a w, Q (.panic c) (a.put oi.dst v) w → Q (.panic c) a w) (hy : Yields P ops oi v a) {a' : Act} (ha : a.put oi.dst v = a')
 (h : wpAnyLast P md ops Q S ds fuel (tk n (k + 1)) a' w) : wpAnyLast P md ops Q S ds (fuel + 1) (tk n k) a w := pure_ (tk n (k + 1)) hi rfl hc hQ hy ha h
theorem takeK {P : Program} {ops : Array Oper} {Q : Exit → Act → World → Prop} {md : Region.Mode} {S : World → Prop} {ds : List Nat} {n k : Nat} {oi : Oper} {v : Value} {fuel : Nat} {a : Act} {w : World} (hi : ops[k]? = some oi) (hc : takeB md ops ds (tk n k) (tk n (k + 1)) k = true)
 (hQ : ∀ c a w, Q (.panic c) (a.put oi.dst v) w → Q (.panic c) a w) (hy : YieldsIf P ops S oi v a) (hS : S w) {a' : Act} (ha : a.put oi.dst v = a')
 (h : wpAnyLast P md ops Q S ds fuel (tk n (k + 1)) a' w) : wpAnyLast P md ops Q S ds (fuel + 1) (tk n k) a w := take_ (tk n (k + 1)) hi rfl hc hQ hy hS ha h
theorem ref_at {us : List P.S36} (h : UOk us) {i j : Nat} (hi : i < us.length) (hj : j < (P.rd_T36 us i).f5.length) : ∃ q : Nat, (P.rd_T64 (P.rd_T36 us i).f5 j).f2 = (q : Int) ∧ q < us.length ∧ (rf us i).getD j 0 = q := by
 have hm : (P.rd_T64 (P.rd_T36 us i).f5 j).f2 ∈ P.ndI us i := by
  unfold P.ndI
  rw [show P.rd_T64 (P.rd_T36 us i).f5 (j : Int) = (P.rd_T36 us i).f5[j] from rd_get _ _ _ hj]
  exact List.mem_map_of_mem (List.getElem_mem hj)
 have := (nd_64 h i hi).2 _ hm
 refine ⟨(P.rd_T64 (P.rd_T36 us i).f5 j).f2.toNat, by omega, by omega, ?_⟩
 unfold rf
 rw [List.getD_eq_getElem?_getD, List.getElem?_map, List.getElem?_eq_getElem hj, show P.rd_T64 (P.rd_T36 us i).f5 (j : Int) = (P.rd_T36 us i).f5[j] from rd_get _ _ _ hj]
 rfl
def RefOk (us : List P.S36) (ins : List Bool) (l : List Int) (i k j : Nat) : Prop := (rf us i).getD j 0 = (rf us k).getD j 0 ∨ (inn ins ((rf us i).getD j 0) = true ∧ inn ins ((rf us k).getD j 0) = true ∧ l.getD ((rf us i).getD j 0) 0 = l.getD ((rf us k).getD j 0) 0)
def PairOk (us : List P.S36) (ins : List Bool) (l : List Int) (i k : Nat) : Prop := inn ins i = true → inn ins k = true → l.getD i 0 = l.getD k 0 → al us i k = true ∧ (rf us i).length = (rf us k).length ∧ ∀ j, j < (rf us i).length → RefOk us ins l i k j
def AllOk (us : List P.S36) (ins : List Bool) (l : List Int) : Prop := ∀ i, i < us.length → ∀ k, k < i → PairOk us ins l i k
theorem all_good {us : List P.S36} {ins : List Bool} {l : List Int} : AllOk us ins l ↔ GoodQ us.length (inn ins) (al us) (rf us) (fun i => l.getD i 0) := ⟨fun h i k hi hk => h i hi k hk, fun h i hi k hk => h i k hi hk⟩
theorem int_at (w : World) (A : Option Addr) (l : List Int) (hr : IA w A l) (i : Nat) (hi : i < l.length) : ∃ ad, A = some ad ∧ w.cell? (ad.add i) = some (.int .i64 (l.getD i 0)) := root_at w A l hr i hi
def GoodPost (us : List P.S36) (ins : List Bool) (l : List Int) (w : World) (e : Ending) (w' : World) : Prop := ∃ b, e = .returned (.bool b) ∧ (b = true ↔ AllOk us ins l) ∧ Below w.heap.size w w'
theorem good_no {us : List P.S36} {ins : List Bool} {l : List Int} {w w' : World} {i k : Nat} (hi : i < us.length) (hk : k < i) (h : ¬ PairOk us ins l i k) (hb : Below w.heap.size w w') : GoodPost us ins l w (.returned (.bool false)) w' := ⟨false, rfl, ⟨fun e => (by cases e), fun a => absurd (a i hi k hk) h⟩, hb⟩
theorem keep12 {w w1 : World} {p0 p1 p2 p3 p4 p5 p6 p7 p8 p9 p10 p11 : Addr} {v0 v1 v2 v3 v4 v5 v6 v7 v8 v9 v10 v11 : Value} (h : w.cell? p0 = some v0 ∧ w.cell? p1 = some v1 ∧ w.cell? p2 = some v2 ∧ w.cell? p3 = some v3 ∧ w.cell? p4 = some v4 ∧ w.cell? p5 = some v5 ∧ w.cell? p6 = some v6 ∧ w.cell? p7 = some v7 ∧ w.cell? p8 = some v8 ∧ w.cell? p9 = some v9 ∧ w.cell? p10 = some v10 ∧ w.cell? p11 = some v11) (hb : Below w.heap.size w w1) : w1.cell? p0 = some v0 ∧ w1.cell? p1 = some v1 ∧ w1.cell? p2 = some v2 ∧ w1.cell? p3 = some v3 ∧ w1.cell? p4 = some v4 ∧ w1.cell? p5 = some v5 ∧ w1.cell? p6 = some v6 ∧ w1.cell? p7 = some v7 ∧ w1.cell? p8 = some v8 ∧ w1.cell? p9 = some v9 ∧ w1.cell? p10 = some v10 ∧ w1.cell? p11 = some v11 := by
 obtain ⟨a0, a1, a2, a3, a4, a5, a6, a7, a8, a9, a10, a11⟩ := h
 exact ⟨keepc a0 hb, keepc a1 hb, keepc a2 hb, keepc a3 hb, keepc a4 hb, keepc a5 hb, keepc a6 hb, keepc a7 hb, keepc a8 hb, keepc a9 hb, keepc a10 hb, keepc a11 hb⟩
theorem upto {p : Nat → Prop} {k : Nat} (h : ∀ q, q < k → p q) (hk : p k) : ∀ q, q < k + 1 → p q := fun q hq => by
 rcases Nat.lt_or_ge q k with c | c
 ·exact h q c
 ·obtain rfl : q = k := by omega
  exact hk
set_option maxRecDepth 100000 in
set_option maxHeartbeats 16000000 in
theorem good_any (w : World) (A A2 A3 : Option Addr) (us : List P.S36) (ins : List Bool) (l : List Int) (c c2 c3 : Nat) (hu : UA w A us) (hc : us.length ≤ c) (hok : UOk us) (hi : BA w A2 ins) (hil : ins.length = us.length) (hc2 : us.length ≤ c2) (hl : IA w A3 l) (hll : l.length = us.length) (hc3 : us.length ≤ c3) :
 Calls Tryd.prog 16 #[.slice A us.length c, .slice A2 us.length c2, .slice A3 us.length c3] w (GoodPost us ins l w) := by
 have hul := hok.1
 have HU := Azz.mk hu
 have HS := Azz.mk hi
 have HL := Azz.mk hl
 have HN := Azz.mk hok
 have H64 := Azz.mk (nd_64 hok)
 clear hu hi hl hok
 go_enter Tryd.func16, Tryd.ntmps16
 go_wp2
 go_loopw [7] (fun v wr => ∃ i : Nat, i ≤ us.length ∧ v = .int .i64 i ∧ Azz (∀ q, q < i → ∀ k, k < q → PairOk us ins l q k) ∧ Azz (Below w.heap.size w wr)) (fun v _ => us.length - (RowKit.intOf v).toNat)
 case atStart => exact ⟨0, Nat.zero_le _, rfl, ⟨fun q hq => absurd hq (Nat.not_lt_zero _)⟩, ⟨Below.refl _ _⟩⟩
 case round =>
  obtain ⟨i, hi, rfl, HA, HB⟩ := hrel
  by_cases hlt : i < us.length
  ·go_wp2
   go_loopw [8] (fun v wx => ∃ k : Nat, k ≤ i ∧ v = .int .i64 k ∧ Azz (∀ q, q < k → PairOk us ins l i q) ∧ Azz (Below w.heap.size w wx)) (fun v _ => i - (RowKit.intOf v).toNat)
   case atStart => exact ⟨0, Nat.zero_le _, rfl, ⟨fun q hq => absurd hq (Nat.not_lt_zero _)⟩, HB⟩
   case round =>
    clear HB
    obtain ⟨k, hk, rfl, HK, HB⟩ := hrel
    by_cases hkl : k < i
    ·have hi0 : (0 : Int) ≤ (i : Int) := by omega
     have hi1 : (i : Int) < us.length := by omega
     have hk0 : (0 : Int) ≤ (k : Int) := by omega
     have hk1 : (k : Int) < us.length := by omega
     obtain ⟨ad2, e2, b1⟩ := bool_at _ A2 ins (Kd.C_below HS.out HB.out) i (by omega)
     subst e2
     obtain ⟨ad2', e2, b2⟩ := bool_at _ (some ad2) ins (Kd.C_below HS.out HB.out) k (by omega)
     cases e2
     obtain ⟨ad3, e3, l1⟩ := int_at _ A3 l (Kd.C_below HL.out HB.out) i (by omega)
     subst e3
     obtain ⟨ad3', e3, l2⟩ := int_at _ (some ad3) l (Kd.C_below HL.out HB.out) k (by omega)
     cases e3
     obtain ⟨bi, hbi⟩ : ∃ b, ins.getD i false = b := ⟨_, rfl⟩
     obtain ⟨bk, hbk⟩ : ∃ b, ins.getD k false = b := ⟨_, rfl⟩
     obtain ⟨qi, hqi⟩ : ∃ b, l.getD i 0 = b := ⟨_, rfl⟩
     obtain ⟨qk, hqk⟩ : ∃ b, l.getD k 0 = b := ⟨_, rfl⟩
     rw [hbi] at b1
     rw [hbk] at b2
     rw [hqi] at l1
     rw [hqk] at l2
     have HBi := Azz.mk (show inn ins i = bi from hbi)
     have HBk := Azz.mk (show inn ins k = bk from hbk)
     have HQi := Azz.mk hqi
     have HQk := Azz.mk hqk
     clear hbi hbk hqi hqk
     cases bi with
     | false =>
      go_wp2
      go_quiet (fail)
      go_wp2
      go_roundw
      case rel => exact ⟨k + 1, by omega, by go_num, ⟨upto HK.out fun h => absurd (HBi.out.symm.trans h) (by decide)⟩, ⟨bNN HB.out _⟩⟩
      case measure => simp [RowKit.intOf]; omega
     | true =>
      cases bk with
      | false =>
       go_wp2
       go_quiet (fail)
       go_wp2
       go_roundw
       case rel => exact ⟨k + 1, by omega, by go_num, ⟨upto HK.out fun _ h => absurd (HBk.out.symm.trans h) (by decide)⟩, ⟨bNN HB.out _⟩⟩
       case measure => simp [RowKit.intOf]; omega
      | true =>
       by_cases hq : qi = qk
       ·subst hq
        have hqq : (qi != qi) = false := by simp
        go_wp2
        go_quiet (fail)
        clear b1 b2 l1 l2 hqq
        have hUx := Kd.C_below HU.out HB.out
        obtain ⟨ad, A5, c5, e3, x0, x1, x2, x3, x4, x5, l5, C5⟩ := P.at_T36 hUx i (by omega) (by omega)
        subst e3
        obtain ⟨ad', B5, d5, e4, y0, y1, y2, y3, y4, y5, m5, D5⟩ := P.at_T36 hUx k (by omega) (by omega)
        cases e4
        clear hUx
        rw [Int.toNat_natCast] at x0 x1 x2 x3 x4 x5 y0 y1 y2 y3 y4 y5
        have hli := (H64.out i hlt).1
        have HAl : Azz (al us i k = alikeU (P.rd_T36 us i) (P.rd_T36 us k)) := ⟨rfl⟩
        have HRi : Azz ((rf us i).length = (P.rd_T36 us i).f5.length) := ⟨by unfold rf; rw [List.length_map]⟩
        have HRk : Azz ((rf us k).length = (P.rd_T36 us k).f5.length) := ⟨by unfold rf; rw [List.length_map]⟩
        have HLx := Azz.mk (fun h => alikeU_length (x := P.rd_T36 us i) (y := P.rd_T36 us k) h)
        obtain ⟨x, hx⟩ : ∃ x, P.rd_T36 us i = x := ⟨_, rfl⟩
        obtain ⟨y, hy⟩ : ∃ y, P.rd_T36 us k = y := ⟨_, rfl⟩
        rw [hx, hy] at HAl HLx
        rw [hx] at x0 x1 x2 x3 x4 x5 l5 C5 hli HRi
        rw [hy] at y0 y1 y2 y3 y4 y5 m5 D5 HRk
        have HXe := Azz.mk hx
        have HYe := Azz.mk hy
        clear hx hy
        have HCa : Azz (∀ W, Below wr.heap.size wr W → Calls Tryd.prog 36 #[.agg #[.string x.f0, .int .i64 x.f1, .bool x.f2, .int .i64 x.f3, .string x.f4, .slice A5 x.f5.length c5], .agg #[.string y.f0, .int .i64 y.f1, .bool y.f2, .int .i64 y.f3, .string y.f4, .slice B5 y.f5.length d5]] W fun e w' => e = .returned (.bool (alikeU x y)) ∧ Below W.heap.size W w') :=
         ⟨fun W hW => alike_calls W x y A5 B5 c5 d5 (Kd.C_below C5 hW) l5 (Kd.C_below D5 hW) m5 (by omega)⟩
        clear C5 D5 l5 m5
        obtain ⟨b, hb⟩ : ∃ b, alikeU x y = b := ⟨_, rfl⟩
        rw [hb] at HCa HAl
        have HAe := Azz.mk hb
        clear hb
        cases b with
        | false =>
         go_wp2
         refine start_ (n := 25) (S := fun w' => w'.cell? (ad.add (i * 6)) = some (.string x.f0) ∧ w'.cell? ⟨(ad.add (i * 6)).block, (ad.add (i * 6)).off + 1, none⟩ = some (.int .i64 x.f1) ∧ w'.cell? ⟨(ad.add (i * 6)).block, (ad.add (i * 6)).off + 2, none⟩ = some (.bool x.f2) ∧ w'.cell? ⟨(ad.add (i * 6)).block, (ad.add (i * 6)).off + 3, none⟩ = some (.int .i64 x.f3) ∧ w'.cell? ⟨(ad.add (i * 6)).block, (ad.add (i * 6)).off + 4, none⟩ = some (.string x.f4) ∧ w'.cell? ⟨(ad.add (i * 6)).block, (ad.add (i * 6)).off + 5, none⟩ = some (.slice A5 x.f5.length c5) ∧ w'.cell? (ad.add (k * 6)) = some (.string y.f0) ∧ w'.cell? ⟨(ad.add (k * 6)).block, (ad.add (k * 6)).off + 1, none⟩ = some (.int .i64 y.f1) ∧ w'.cell? ⟨(ad.add (k * 6)).block, (ad.add (k * 6)).off + 2, none⟩ = some (.bool y.f2) ∧ w'.cell? ⟨(ad.add (k * 6)).block, (ad.add (k * 6)).off + 3, none⟩ = some (.int .i64 y.f3) ∧ w'.cell? ⟨(ad.add (k * 6)).block, (ad.add (k * 6)).off + 4, none⟩ = some (.string y.f4) ∧ w'.cell? ⟨(ad.add (k * 6)).block, (ad.add (k * 6)).off + 5, none⟩ = some (.slice B5 y.f5.length d5)) (ds := []) (tk 25 0) (by kernel_rfl) rfl (by kernel_rfl) ⟨x0, x1, x2, x3, x4, x5, y0, y1, y2, y3, y4, y5⟩ (fun hHeld => ?_)
         iterate 3
          refine pureK (v := ?_) (a' := ?_) rfl (by as_aux_lemma => kernel_rfl) (fun _ _ _ h => h) (Or.inl ⟨by rfl, ?_⟩) ?_ ?_
          rotate_left
          (intro w'; go_simp; with_reducible rfl)
          rotate_left
          (show Act.put _ (some _) _ = _; simp only [Act.put, List.setIfInBounds_toArray, List.set_cons_zero, List.set_cons_succ, i64_w, i32_w]; rfl)
         refine takeK (v := ?_) (a' := ?_) rfl (by as_aux_lemma => kernel_rfl) (fun _ _ _ h => h) (Or.inl ⟨by rfl, ?_⟩) hHeld ?_ ?_
         rotate_left
         (rintro w' ⟨s0_, s1_, s2_, s3_, s4_, s5_, s6_, s7_, s8_, s9_, s10_, s11_⟩; go_simp; with_reducible rfl)
         rotate_left
         (show Act.put _ (some _) _ = _; simp only [Act.put, List.setIfInBounds_toArray, List.set_cons_zero, List.set_cons_succ, i64_w, i32_w]; rfl)
         iterate 3
          refine pureK (v := ?_) (a' := ?_) rfl (by as_aux_lemma => kernel_rfl) (fun _ _ _ h => h) (Or.inl ⟨by rfl, ?_⟩) ?_ ?_
          rotate_left
          (intro w'; go_simp; with_reducible rfl)
          rotate_left
          (show Act.put _ (some _) _ = _; simp only [Act.put, List.setIfInBounds_toArray, List.set_cons_zero, List.set_cons_succ, i64_w, i32_w]; rfl)
         refine takeK (v := ?_) (a' := ?_) rfl (by as_aux_lemma => kernel_rfl) (fun _ _ _ h => h) (Or.inl ⟨by rfl, ?_⟩) hHeld ?_ ?_
         rotate_left
         (rintro w' ⟨s0_, s1_, s2_, s3_, s4_, s5_, s6_, s7_, s8_, s9_, s10_, s11_⟩; go_simp; with_reducible rfl)
         rotate_left
         (show Act.put _ (some _) _ = _; simp only [Act.put, List.setIfInBounds_toArray, List.set_cons_zero, List.set_cons_succ, i64_w, i32_w]; rfl)
         refine one_ (i := 8) (N := some 54) (tk 25 9) rfl rfl (by kernel_rfl) (by decide) (fun K hK => ?_)
         refine goes_ Tryd.func36 (by kernel_rfl) rfl #[.agg #[.string x.f0, .int .i64 x.f1, .bool x.f2, .int .i64 x.f3, .string x.f4, .slice A5 x.f5.length c5], .agg #[.string y.f0, .int .i64 y.f1, .bool y.f2, .int .i64 y.f3, .string y.f4, .slice B5 y.f5.length d5]] (by rfl) rfl rfl (by kernel_rfl) ?_
         refine (HCa.out _ (bDD (bNN (Below.refl _ _) _))).mono ?_
         rintro e w2 ⟨rfl, hb⟩
         refine ⟨_, rfl, ?_⟩
         refine hK.out _ _ (keep12 hHeld hb) (fun hHeld => ?_)
         clear hK K
         refine norm_ (a' := ?_) ?_ ?_
         rotate_left
         ·show Act.put _ (some 54) _ = _
          simp only [Act.put, List.setIfInBounds_toArray, List.set_cons_zero, List.set_cons_succ, i64_w, i32_w]
          rfl
         iterate 2
          refine pureK (v := ?_) (a' := ?_) rfl (by as_aux_lemma => kernel_rfl) (fun _ _ _ h => h) (Or.inl ⟨by rfl, ?_⟩) ?_ ?_
          rotate_left
          (intro w'; go_simp; with_reducible rfl)
          rotate_left
          (show Act.put _ (some _) _ = _; simp only [Act.put, List.setIfInBounds_toArray, List.set_cons_zero, List.set_cons_succ, i64_w, i32_w]; rfl)
         iterate 13
          refine pureK (v := undef) (a' := ?_) rfl (by as_aux_lemma => kernel_rfl) (fun _ _ _ h => h) (Or.inr ⟨by rfl, rfl⟩) ?_ ?_
          rotate_left
          (show Act.put _ (some _) _ = _; simp only [Act.put, List.setIfInBounds_toArray, List.set_cons_zero, List.set_cons_succ, i64_w, i32_w]; rfl)
         refine pureK (v := ?_) (a' := ?_) rfl (by as_aux_lemma => kernel_rfl) (fun _ _ _ h => h) (Or.inl ⟨by rfl, ?_⟩) ?_ ?_
         rotate_left
         (intro w'; go_simp; with_reducible rfl)
         rotate_left
         (show Act.put _ (some _) _ = _; simp only [Act.put, List.setIfInBounds_toArray, List.set_cons_zero, List.set_cons_succ, i64_w, i32_w]; rfl)
         refine done_ (by kernel_rfl) ?_
         clear hHeld
         have HW := Azz.mk (show Below wr.heap.size wr w2 by repeat (first | exact Below.refl _ _ | apply bDD | apply bNN | (refine bTT ?_ (by assumption))))
         have HBw := Azz.mk (bTT HB.out HW.out)
         clear hb HCa HB x0 x1 x2 x3 x4 x5 y0 y1 y2 y3 y4 y5
         go_wp2
         go_ret
         exact good_no hlt hkl (fun h => by have := (h HBi.out HBk.out (HQi.out.trans HQk.out.symm)).1; rw [HAl.out] at this; cases this) HBw.out
        | true =>
         have HXy := Azz.mk (HLx.out HAe.out)
         have hxn : ((x.f5.length : Int) != y.f5.length) = false := by rw [HXy.out]; simp
         have hxn2 : (x.f5.length == y.f5.length) = true := by rw [HXy.out]; simp
         go_wp2
         refine start_ (n := 25) (S := fun w' => w'.cell? (ad.add (i * 6)) = some (.string x.f0) ∧ w'.cell? ⟨(ad.add (i * 6)).block, (ad.add (i * 6)).off + 1, none⟩ = some (.int .i64 x.f1) ∧ w'.cell? ⟨(ad.add (i * 6)).block, (ad.add (i * 6)).off + 2, none⟩ = some (.bool x.f2) ∧ w'.cell? ⟨(ad.add (i * 6)).block, (ad.add (i * 6)).off + 3, none⟩ = some (.int .i64 x.f3) ∧ w'.cell? ⟨(ad.add (i * 6)).block, (ad.add (i * 6)).off + 4, none⟩ = some (.string x.f4) ∧ w'.cell? ⟨(ad.add (i * 6)).block, (ad.add (i * 6)).off + 5, none⟩ = some (.slice A5 x.f5.length c5) ∧ w'.cell? (ad.add (k * 6)) = some (.string y.f0) ∧ w'.cell? ⟨(ad.add (k * 6)).block, (ad.add (k * 6)).off + 1, none⟩ = some (.int .i64 y.f1) ∧ w'.cell? ⟨(ad.add (k * 6)).block, (ad.add (k * 6)).off + 2, none⟩ = some (.bool y.f2) ∧ w'.cell? ⟨(ad.add (k * 6)).block, (ad.add (k * 6)).off + 3, none⟩ = some (.int .i64 y.f3) ∧ w'.cell? ⟨(ad.add (k * 6)).block, (ad.add (k * 6)).off + 4, none⟩ = some (.string y.f4) ∧ w'.cell? ⟨(ad.add (k * 6)).block, (ad.add (k * 6)).off + 5, none⟩ = some (.slice B5 y.f5.length d5)) (ds := []) (tk 25 0) (by kernel_rfl) rfl (by kernel_rfl) ⟨x0, x1, x2, x3, x4, x5, y0, y1, y2, y3, y4, y5⟩ (fun hHeld => ?_)
         iterate 3
          refine pureK (v := ?_) (a' := ?_) rfl (by as_aux_lemma => kernel_rfl) (fun _ _ _ h => h) (Or.inl ⟨by rfl, ?_⟩) ?_ ?_
          rotate_left
          (intro w'; go_simp; with_reducible rfl)
          rotate_left
          (show Act.put _ (some _) _ = _; simp only [Act.put, List.setIfInBounds_toArray, List.set_cons_zero, List.set_cons_succ, i64_w, i32_w]; rfl)
         refine takeK (v := ?_) (a' := ?_) rfl (by as_aux_lemma => kernel_rfl) (fun _ _ _ h => h) (Or.inl ⟨by rfl, ?_⟩) hHeld ?_ ?_
         rotate_left
         (rintro w' ⟨s0_, s1_, s2_, s3_, s4_, s5_, s6_, s7_, s8_, s9_, s10_, s11_⟩; go_simp; with_reducible rfl)
         rotate_left
         (show Act.put _ (some _) _ = _; simp only [Act.put, List.setIfInBounds_toArray, List.set_cons_zero, List.set_cons_succ, i64_w, i32_w]; rfl)
         iterate 3
          refine pureK (v := ?_) (a' := ?_) rfl (by as_aux_lemma => kernel_rfl) (fun _ _ _ h => h) (Or.inl ⟨by rfl, ?_⟩) ?_ ?_
          rotate_left
          (intro w'; go_simp; with_reducible rfl)
          rotate_left
          (show Act.put _ (some _) _ = _; simp only [Act.put, List.setIfInBounds_toArray, List.set_cons_zero, List.set_cons_succ, i64_w, i32_w]; rfl)
         refine takeK (v := ?_) (a' := ?_) rfl (by as_aux_lemma => kernel_rfl) (fun _ _ _ h => h) (Or.inl ⟨by rfl, ?_⟩) hHeld ?_ ?_
         rotate_left
         (rintro w' ⟨s0_, s1_, s2_, s3_, s4_, s5_, s6_, s7_, s8_, s9_, s10_, s11_⟩; go_simp; with_reducible rfl)
         rotate_left
         (show Act.put _ (some _) _ = _; simp only [Act.put, List.setIfInBounds_toArray, List.set_cons_zero, List.set_cons_succ, i64_w, i32_w]; rfl)
         refine one_ (i := 8) (N := some 54) (tk 25 9) rfl rfl (by kernel_rfl) (by decide) (fun K hK => ?_)
         refine goes_ Tryd.func36 (by kernel_rfl) rfl #[.agg #[.string x.f0, .int .i64 x.f1, .bool x.f2, .int .i64 x.f3, .string x.f4, .slice A5 x.f5.length c5], .agg #[.string y.f0, .int .i64 y.f1, .bool y.f2, .int .i64 y.f3, .string y.f4, .slice B5 y.f5.length d5]] (by rfl) rfl rfl (by kernel_rfl) ?_
         refine (HCa.out _ (bDD (bNN (Below.refl _ _) _))).mono ?_
         rintro e w2 ⟨rfl, hb⟩
         refine ⟨_, rfl, ?_⟩
         refine hK.out _ _ (keep12 hHeld hb) (fun hHeld => ?_)
         clear hK K
         refine norm_ (a' := ?_) ?_ ?_
         rotate_left
         ·show Act.put _ (some 54) _ = _
          simp only [Act.put, List.setIfInBounds_toArray, List.set_cons_zero, List.set_cons_succ, i64_w, i32_w]
          rfl
         iterate 6
          refine pureK (v := ?_) (a' := ?_) rfl (by as_aux_lemma => kernel_rfl) (fun _ _ _ h => h) (Or.inl ⟨by rfl, ?_⟩) ?_ ?_
          rotate_left
          (intro w'; go_simp; with_reducible rfl)
          rotate_left
          (show Act.put _ (some _) _ = _; simp only [Act.put, List.setIfInBounds_toArray, List.set_cons_zero, List.set_cons_succ, i64_w, i32_w]; rfl)
         refine takeK (v := ?_) (a' := ?_) rfl (by as_aux_lemma => kernel_rfl) (fun _ _ _ h => h) (Or.inl ⟨by rfl, ?_⟩) hHeld ?_ ?_
         rotate_left
         (rintro w' ⟨s0_, s1_, s2_, s3_, s4_, s5_, s6_, s7_, s8_, s9_, s10_, s11_⟩; go_simp; with_reducible rfl)
         rotate_left
         (show Act.put _ (some _) _ = _; simp only [Act.put, List.setIfInBounds_toArray, List.set_cons_zero, List.set_cons_succ, i64_w, i32_w]; rfl)
         iterate 5
          refine pureK (v := ?_) (a' := ?_) rfl (by as_aux_lemma => kernel_rfl) (fun _ _ _ h => h) (Or.inl ⟨by rfl, ?_⟩) ?_ ?_
          rotate_left
          (intro w'; go_simp; with_reducible rfl)
          rotate_left
          (show Act.put _ (some _) _ = _; simp only [Act.put, List.setIfInBounds_toArray, List.set_cons_zero, List.set_cons_succ, i64_w, i32_w]; rfl)
         refine takeK (v := ?_) (a' := ?_) rfl (by as_aux_lemma => kernel_rfl) (fun _ _ _ h => h) (Or.inl ⟨by rfl, ?_⟩) hHeld ?_ ?_
         rotate_left
         (rintro w' ⟨s0_, s1_, s2_, s3_, s4_, s5_, s6_, s7_, s8_, s9_, s10_, s11_⟩; go_simp; with_reducible rfl)
         rotate_left
         (show Act.put _ (some _) _ = _; simp only [Act.put, List.setIfInBounds_toArray, List.set_cons_zero, List.set_cons_succ, i64_w, i32_w]; rfl)
         iterate 3
          refine pureK (v := ?_) (a' := ?_) rfl (by as_aux_lemma => kernel_rfl) (fun _ _ _ h => h) (Or.inl ⟨by rfl, ?_⟩) ?_ ?_
          rotate_left
          (intro w'; go_simp; with_reducible rfl)
          rotate_left
          (show Act.put _ (some _) _ = _; simp only [Act.put, List.setIfInBounds_toArray, List.set_cons_zero, List.set_cons_succ, i64_w, i32_w]; rfl)
         refine done_ (by kernel_rfl) ?_
         clear hHeld
         have HW := Azz.mk (show Below wr.heap.size wr w2 by repeat (first | exact Below.refl _ _ | apply bDD | apply bNN | (refine bTT ?_ (by assumption))))
         have HBw := Azz.mk (bTT HB.out HW.out)
         clear hb HCa HB HW x0 x1 x2 x3 x4 x5 y0 y1 y2 y3 y4 y5 hxn hxn2
         go_wp2
         go_loopw [9] (fun v wy => ∃ j : Nat, j ≤ x.f5.length ∧ v = .int .i64 j ∧ Azz (∀ q, q < j → RefOk us ins l i k q) ∧ Azz (Below w.heap.size w wy)) (fun v _ => x.f5.length - (RowKit.intOf v).toNat)
         case atStart => exact ⟨0, Nat.zero_le _, rfl, ⟨fun q hq => absurd hq (Nat.not_lt_zero _)⟩, HBw⟩
         case round =>
          clear HBw
          obtain ⟨j, hj, rfl, HJ, HB⟩ := hrel
          have hUx := Kd.C_below HU.out HB.out
          obtain ⟨_, A5, c5, e3, _, _, _, _, _, x5, l5, C5⟩ := P.at_T36 hUx i (by omega) (by omega)
          cases e3
          obtain ⟨_, B5, d5, e4, _, _, _, _, _, y5, m5, D5⟩ := P.at_T36 hUx k (by omega) (by omega)
          cases e4
          clear hUx
          rw [Int.toNat_natCast] at x5 y5
          rw [HXe.out] at x5 l5 C5
          rw [HYe.out] at y5 m5 D5
          by_cases hjl : j < x.f5.length
          ·have hj0 : (0 : Int) ≤ (j : Int) := by omega
           have hj1 : (j : Int) < x.f5.length := by omega
           have hj2 : (j : Int) < y.f5.length := by have := HXy.out; omega
           obtain ⟨a5, e5, u0, u1, u2, u3⟩ := P.at_T64 C5 j (by omega) (by omega)
           subst e5
           obtain ⟨a6, e6, v0, v1, v2, v3⟩ := P.at_T64 D5 j (by omega) (by omega)
           subst e6
           rw [Int.toNat_natCast] at u2 v2
           clear u0 u1 u3 v0 v1 v3 C5 D5 l5 m5
           obtain ⟨qa, ha, hqa, hra⟩ := ref_at HN.out (i := i) (j := j) hlt (by rw [HXe.out]; exact hjl)
           obtain ⟨qb, hb, hqb, hrb⟩ := ref_at HN.out (i := k) (j := j) (by omega) (by rw [HYe.out]; have := HXy.out; omega)
           rw [HXe.out] at ha
           rw [HYe.out] at hb
           rw [ha] at u2
           rw [hb] at v2
           clear ha hb
           have HRa := Azz.mk hra
           have HRb := Azz.mk hrb
           clear hra hrb
           have ha0 : ((qa : Int) < 0) = False := by simp
           have hb0 : ((qb : Int) < 0) = False := by simp
           have ha1 : (0 : Int) ≤ (qa : Int) := by omega
           have ha2 : (qa : Int) < us.length := by omega
           have hb1 : (0 : Int) ≤ (qb : Int) := by omega
           have hb2 : (qb : Int) < us.length := by omega
           have ha3 : ((us.length : Int) ≤ (qa : Int)) = False := by simp; omega
           have hb3 : ((us.length : Int) ≤ (qb : Int)) = False := by simp; omega
           obtain ⟨ae, e2, b1⟩ := bool_at _ (some ad2) ins (Kd.C_below HS.out HB.out) qa (by omega)
           cases e2
           obtain ⟨af, e2, b2⟩ := bool_at _ (some ad2) ins (Kd.C_below HS.out HB.out) qb (by omega)
           cases e2
           obtain ⟨ag, e3, l1⟩ := int_at _ (some ad3) l (Kd.C_below HL.out HB.out) qa (by omega)
           cases e3
           obtain ⟨ah, e3, l2⟩ := int_at _ (some ad3) l (Kd.C_below HL.out HB.out) qb (by omega)
           cases e3
           obtain ⟨ba, hba⟩ : ∃ b, ins.getD qa false = b := ⟨_, rfl⟩
           obtain ⟨bb, hbb⟩ : ∃ b, ins.getD qb false = b := ⟨_, rfl⟩
           obtain ⟨la, hla⟩ : ∃ b, l.getD qa 0 = b := ⟨_, rfl⟩
           obtain ⟨lb, hlb⟩ : ∃ b, l.getD qb 0 = b := ⟨_, rfl⟩
           rw [hba] at b1
           rw [hbb] at b2
           rw [hla] at l1
           rw [hlb] at l2
           have HBa := Azz.mk (show inn ins qa = ba from hba)
           have HBb := Azz.mk (show inn ins qb = bb from hbb)
           have HLa := Azz.mk hla
           have HLb := Azz.mk hlb
           clear hba hbb hla hlb
           have no : ¬ RefOk us ins l i k j → ¬ PairOk us ins l i k := fun h p => h ((p HBi.out HBk.out (HQi.out.trans HQk.out.symm)).2.2 j (by rw [HRi.out]; exact hjl))
           have HNo := Azz.mk no
           clear no
           have HRo : Azz (RefOk us ins l i k j ↔ qa = qb ∨ (ba = true ∧ bb = true ∧ la = lb)) := ⟨by unfold RefOk; rw [HRa.out, HRb.out, HBa.out, HBb.out, HLa.out, HLb.out]⟩
           by_cases hab : qa = qb
           ·subst hab
            have hn : ((qa : Int) != (qa : Int)) = false := by simp
            as_aux_lemma =>
             go_wp2
             refine start_ (n := 48) (S := fun w' => True) (ds := []) (tk 48 0) (by kernel_rfl) rfl (by kernel_rfl) trivial (fun hHeld => ?_)
             iterate 23
              refine pureK (v := ?_) (a' := ?_) rfl (by as_aux_lemma => kernel_rfl) (fun _ _ _ h => h) (Or.inl ⟨by rfl, ?_⟩) ?_ ?_
              rotate_left
              (intro w'; go_simp; with_reducible rfl)
              rotate_left
              (show Act.put _ (some _) _ = _; simp only [Act.put, List.setIfInBounds_toArray, List.set_cons_zero, List.set_cons_succ, i64_w, i32_w]; rfl)
             iterate 23
              refine pureK (v := undef) (a' := ?_) rfl (by as_aux_lemma => kernel_rfl) (fun _ _ _ h => h) (Or.inr ⟨by rfl, rfl⟩) ?_ ?_
              rotate_left
              (show Act.put _ (some _) _ = _; simp only [Act.put, List.setIfInBounds_toArray, List.set_cons_zero, List.set_cons_succ, i64_w, i32_w]; rfl)
             iterate 2
              refine pureK (v := ?_) (a' := ?_) rfl (by as_aux_lemma => kernel_rfl) (fun _ _ _ h => h) (Or.inl ⟨by rfl, ?_⟩) ?_ ?_
              rotate_left
              (intro w'; go_simp; with_reducible rfl)
              rotate_left
              (show Act.put _ (some _) _ = _; simp only [Act.put, List.setIfInBounds_toArray, List.set_cons_zero, List.set_cons_succ, i64_w, i32_w]; rfl)
             refine done_ (by kernel_rfl) ?_
             clear hHeld
             go_wp2
             go_roundw
             case rel => exact ⟨j + 1, by omega, by go_num, ⟨upto HJ.out (HRo.out.2 (.inl (by first | rfl | trivial)))⟩, ⟨(by first | exact bDD HB.out | exact bNN HB.out _ | exact HB.out)⟩⟩
             case measure => simp [RowKit.intOf]; omega
           ·have hn : ((qa : Int) != (qb : Int)) = true := bne_iff_ne.mpr (by omega)
            cases ba with
            | false =>
             as_aux_lemma =>
              go_wp2
              refine start_ (n := 48) (S := fun w' => w'.cell? (ad2.add qa) = some (.bool false)) (ds := []) (tk 48 0) (by kernel_rfl) rfl (by kernel_rfl) b1 (fun hHeld => ?_)
              iterate 26
               refine pureK (v := ?_) (a' := ?_) rfl (by as_aux_lemma => kernel_rfl) (fun _ _ _ h => h) (Or.inl ⟨by rfl, ?_⟩) ?_ ?_
               rotate_left
               (intro w'; go_simp; with_reducible rfl)
               rotate_left
               (show Act.put _ (some _) _ = _; simp only [Act.put, List.setIfInBounds_toArray, List.set_cons_zero, List.set_cons_succ, i64_w, i32_w]; rfl)
              refine takeK (v := ?_) (a' := ?_) rfl (by as_aux_lemma => kernel_rfl) (fun _ _ _ h => h) (Or.inl ⟨by rfl, ?_⟩) hHeld ?_ ?_
              rotate_left
              (intro w' s0_; go_simp; with_reducible rfl)
              rotate_left
              (show Act.put _ (some _) _ = _; simp only [Act.put, List.setIfInBounds_toArray, List.set_cons_zero, List.set_cons_succ, i64_w, i32_w]; rfl)
              iterate 2
               refine pureK (v := ?_) (a' := ?_) rfl (by as_aux_lemma => kernel_rfl) (fun _ _ _ h => h) (Or.inl ⟨by rfl, ?_⟩) ?_ ?_
               rotate_left
               (intro w'; go_simp; with_reducible rfl)
               rotate_left
               (show Act.put _ (some _) _ = _; simp only [Act.put, List.setIfInBounds_toArray, List.set_cons_zero, List.set_cons_succ, i64_w, i32_w]; rfl)
              iterate 5
               refine pureK (v := undef) (a' := ?_) rfl (by as_aux_lemma => kernel_rfl) (fun _ _ _ h => h) (Or.inr ⟨by rfl, rfl⟩) ?_ ?_
               rotate_left
               (show Act.put _ (some _) _ = _; simp only [Act.put, List.setIfInBounds_toArray, List.set_cons_zero, List.set_cons_succ, i64_w, i32_w]; rfl)
              iterate 2
               refine pureK (v := ?_) (a' := ?_) rfl (by as_aux_lemma => kernel_rfl) (fun _ _ _ h => h) (Or.inl ⟨by rfl, ?_⟩) ?_ ?_
               rotate_left
               (intro w'; go_simp; with_reducible rfl)
               rotate_left
               (show Act.put _ (some _) _ = _; simp only [Act.put, List.setIfInBounds_toArray, List.set_cons_zero, List.set_cons_succ, i64_w, i32_w]; rfl)
              iterate 9
               refine pureK (v := undef) (a' := ?_) rfl (by as_aux_lemma => kernel_rfl) (fun _ _ _ h => h) (Or.inr ⟨by rfl, rfl⟩) ?_ ?_
               rotate_left
               (show Act.put _ (some _) _ = _; simp only [Act.put, List.setIfInBounds_toArray, List.set_cons_zero, List.set_cons_succ, i64_w, i32_w]; rfl)
              iterate 3
               refine pureK (v := ?_) (a' := ?_) rfl (by as_aux_lemma => kernel_rfl) (fun _ _ _ h => h) (Or.inl ⟨by rfl, ?_⟩) ?_ ?_
               rotate_left
               (intro w'; go_simp; with_reducible rfl)
               rotate_left
               (show Act.put _ (some _) _ = _; simp only [Act.put, List.setIfInBounds_toArray, List.set_cons_zero, List.set_cons_succ, i64_w, i32_w]; rfl)
              refine done_ (by kernel_rfl) ?_
              clear hHeld
              go_wp2
              go_ret
              exact good_no hlt hkl (HNo.out fun h => (HRo.out.1 h).elim (fun e => hab e) fun e => by cases e.1) ((by first | exact bDD HB.out | exact bNN HB.out _ | exact HB.out))
            | true =>
             cases bb with
             | false =>
              as_aux_lemma =>
               go_wp2
               refine start_ (n := 48) (S := fun w' => w'.cell? (ad2.add qa) = some (.bool true) ∧ w'.cell? (ad2.add qb) = some (.bool false)) (ds := []) (tk 48 0) (by kernel_rfl) rfl (by kernel_rfl) ⟨b1, b2⟩ (fun hHeld => ?_)
               iterate 26
                refine pureK (v := ?_) (a' := ?_) rfl (by as_aux_lemma => kernel_rfl) (fun _ _ _ h => h) (Or.inl ⟨by rfl, ?_⟩) ?_ ?_
                rotate_left
                (intro w'; go_simp; with_reducible rfl)
                rotate_left
                (show Act.put _ (some _) _ = _; simp only [Act.put, List.setIfInBounds_toArray, List.set_cons_zero, List.set_cons_succ, i64_w, i32_w]; rfl)
               refine takeK (v := ?_) (a' := ?_) rfl (by as_aux_lemma => kernel_rfl) (fun _ _ _ h => h) (Or.inl ⟨by rfl, ?_⟩) hHeld ?_ ?_
               rotate_left
               (rintro w' ⟨s0_, s1_⟩; go_simp; with_reducible rfl)
               rotate_left
               (show Act.put _ (some _) _ = _; simp only [Act.put, List.setIfInBounds_toArray, List.set_cons_zero, List.set_cons_succ, i64_w, i32_w]; rfl)
               iterate 5
                refine pureK (v := ?_) (a' := ?_) rfl (by as_aux_lemma => kernel_rfl) (fun _ _ _ h => h) (Or.inl ⟨by rfl, ?_⟩) ?_ ?_
                rotate_left
                (intro w'; go_simp; with_reducible rfl)
                rotate_left
                (show Act.put _ (some _) _ = _; simp only [Act.put, List.setIfInBounds_toArray, List.set_cons_zero, List.set_cons_succ, i64_w, i32_w]; rfl)
               refine takeK (v := ?_) (a' := ?_) rfl (by as_aux_lemma => kernel_rfl) (fun _ _ _ h => h) (Or.inl ⟨by rfl, ?_⟩) hHeld ?_ ?_
               rotate_left
               (rintro w' ⟨s0_, s1_⟩; go_simp; with_reducible rfl)
               rotate_left
               (show Act.put _ (some _) _ = _; simp only [Act.put, List.setIfInBounds_toArray, List.set_cons_zero, List.set_cons_succ, i64_w, i32_w]; rfl)
               iterate 3
                refine pureK (v := ?_) (a' := ?_) rfl (by as_aux_lemma => kernel_rfl) (fun _ _ _ h => h) (Or.inl ⟨by rfl, ?_⟩) ?_ ?_
                rotate_left
                (intro w'; go_simp; with_reducible rfl)
                rotate_left
                (show Act.put _ (some _) _ = _; simp only [Act.put, List.setIfInBounds_toArray, List.set_cons_zero, List.set_cons_succ, i64_w, i32_w]; rfl)
               iterate 9
                refine pureK (v := undef) (a' := ?_) rfl (by as_aux_lemma => kernel_rfl) (fun _ _ _ h => h) (Or.inr ⟨by rfl, rfl⟩) ?_ ?_
                rotate_left
                (show Act.put _ (some _) _ = _; simp only [Act.put, List.setIfInBounds_toArray, List.set_cons_zero, List.set_cons_succ, i64_w, i32_w]; rfl)
               iterate 3
                refine pureK (v := ?_) (a' := ?_) rfl (by as_aux_lemma => kernel_rfl) (fun _ _ _ h => h) (Or.inl ⟨by rfl, ?_⟩) ?_ ?_
                rotate_left
                (intro w'; go_simp; with_reducible rfl)
                rotate_left
                (show Act.put _ (some _) _ = _; simp only [Act.put, List.setIfInBounds_toArray, List.set_cons_zero, List.set_cons_succ, i64_w, i32_w]; rfl)
               refine done_ (by kernel_rfl) ?_
               clear hHeld
               go_wp2
               go_ret
               exact good_no hlt hkl (HNo.out fun h => (HRo.out.1 h).elim (fun e => hab e) fun e => by cases e.2.1) ((by first | exact bDD HB.out | exact bNN HB.out _ | exact HB.out))
             | true =>
              by_cases hlab : la = lb
              ·subst hlab
               have hn2 : (la != la) = false := by simp
               as_aux_lemma =>
                go_wp2
                refine start_ (n := 48) (S := fun w' => w'.cell? (ad2.add qa) = some (.bool true) ∧ w'.cell? (ad2.add qb) = some (.bool true) ∧ w'.cell? (ad3.add qa) = some (.int .i64 la) ∧ w'.cell? (ad3.add qb) = some (.int .i64 la)) (ds := []) (tk 48 0) (by kernel_rfl) rfl (by kernel_rfl) ⟨b1, b2, l1, l2⟩ (fun hHeld => ?_)
                iterate 26
                 refine pureK (v := ?_) (a' := ?_) rfl (by as_aux_lemma => kernel_rfl) (fun _ _ _ h => h) (Or.inl ⟨by rfl, ?_⟩) ?_ ?_
                 rotate_left
                 (intro w'; go_simp; with_reducible rfl)
                 rotate_left
                 (show Act.put _ (some _) _ = _; simp only [Act.put, List.setIfInBounds_toArray, List.set_cons_zero, List.set_cons_succ, i64_w, i32_w]; rfl)
                refine takeK (v := ?_) (a' := ?_) rfl (by as_aux_lemma => kernel_rfl) (fun _ _ _ h => h) (Or.inl ⟨by rfl, ?_⟩) hHeld ?_ ?_
                rotate_left
                (rintro w' ⟨s0_, s1_, s2_, s3_⟩; go_simp; with_reducible rfl)
                rotate_left
                (show Act.put _ (some _) _ = _; simp only [Act.put, List.setIfInBounds_toArray, List.set_cons_zero, List.set_cons_succ, i64_w, i32_w]; rfl)
                iterate 5
                 refine pureK (v := ?_) (a' := ?_) rfl (by as_aux_lemma => kernel_rfl) (fun _ _ _ h => h) (Or.inl ⟨by rfl, ?_⟩) ?_ ?_
                 rotate_left
                 (intro w'; go_simp; with_reducible rfl)
                 rotate_left
                 (show Act.put _ (some _) _ = _; simp only [Act.put, List.setIfInBounds_toArray, List.set_cons_zero, List.set_cons_succ, i64_w, i32_w]; rfl)
                refine takeK (v := ?_) (a' := ?_) rfl (by as_aux_lemma => kernel_rfl) (fun _ _ _ h => h) (Or.inl ⟨by rfl, ?_⟩) hHeld ?_ ?_
                rotate_left
                (rintro w' ⟨s0_, s1_, s2_, s3_⟩; go_simp; with_reducible rfl)
                rotate_left
                (show Act.put _ (some _) _ = _; simp only [Act.put, List.setIfInBounds_toArray, List.set_cons_zero, List.set_cons_succ, i64_w, i32_w]; rfl)
                iterate 6
                 refine pureK (v := ?_) (a' := ?_) rfl (by as_aux_lemma => kernel_rfl) (fun _ _ _ h => h) (Or.inl ⟨by rfl, ?_⟩) ?_ ?_
                 rotate_left
                 (intro w'; go_simp; with_reducible rfl)
                 rotate_left
                 (show Act.put _ (some _) _ = _; simp only [Act.put, List.setIfInBounds_toArray, List.set_cons_zero, List.set_cons_succ, i64_w, i32_w]; rfl)
                refine takeK (v := ?_) (a' := ?_) rfl (by as_aux_lemma => kernel_rfl) (fun _ _ _ h => h) (Or.inl ⟨by rfl, ?_⟩) hHeld ?_ ?_
                rotate_left
                (rintro w' ⟨s0_, s1_, s2_, s3_⟩; go_simp; with_reducible rfl)
                rotate_left
                (show Act.put _ (some _) _ = _; simp only [Act.put, List.setIfInBounds_toArray, List.set_cons_zero, List.set_cons_succ, i64_w, i32_w]; rfl)
                iterate 3
                 refine pureK (v := ?_) (a' := ?_) rfl (by as_aux_lemma => kernel_rfl) (fun _ _ _ h => h) (Or.inl ⟨by rfl, ?_⟩) ?_ ?_
                 rotate_left
                 (intro w'; go_simp; with_reducible rfl)
                 rotate_left
                 (show Act.put _ (some _) _ = _; simp only [Act.put, List.setIfInBounds_toArray, List.set_cons_zero, List.set_cons_succ, i64_w, i32_w]; rfl)
                refine takeK (v := ?_) (a' := ?_) rfl (by as_aux_lemma => kernel_rfl) (fun _ _ _ h => h) (Or.inl ⟨by rfl, ?_⟩) hHeld ?_ ?_
                rotate_left
                (rintro w' ⟨s0_, s1_, s2_, s3_⟩; go_simp; with_reducible rfl)
                rotate_left
                (show Act.put _ (some _) _ = _; simp only [Act.put, List.setIfInBounds_toArray, List.set_cons_zero, List.set_cons_succ, i64_w, i32_w]; rfl)
                iterate 4
                 refine pureK (v := ?_) (a' := ?_) rfl (by as_aux_lemma => kernel_rfl) (fun _ _ _ h => h) (Or.inl ⟨by rfl, ?_⟩) ?_ ?_
                 rotate_left
                 (intro w'; go_simp; with_reducible rfl)
                 rotate_left
                 (show Act.put _ (some _) _ = _; simp only [Act.put, List.setIfInBounds_toArray, List.set_cons_zero, List.set_cons_succ, i64_w, i32_w]; rfl)
                refine done_ (by kernel_rfl) ?_
                clear hHeld
                go_wp2
                go_roundw
                case rel => exact ⟨j + 1, by omega, by go_num, ⟨upto HJ.out (HRo.out.2 (.inr (by refine ⟨?_, ?_, ?_⟩ <;> first | rfl | trivial)))⟩, ⟨(by first | exact bDD HB.out | exact bNN HB.out _ | exact HB.out)⟩⟩
                case measure => simp [RowKit.intOf]; omega
              ·have hn2 : (la != lb) = true := bne_iff_ne.mpr hlab
               as_aux_lemma =>
                go_wp2
                refine start_ (n := 48) (S := fun w' => w'.cell? (ad2.add qa) = some (.bool true) ∧ w'.cell? (ad2.add qb) = some (.bool true) ∧ w'.cell? (ad3.add qa) = some (.int .i64 la) ∧ w'.cell? (ad3.add qb) = some (.int .i64 lb)) (ds := []) (tk 48 0) (by kernel_rfl) rfl (by kernel_rfl) ⟨b1, b2, l1, l2⟩ (fun hHeld => ?_)
                iterate 26
                 refine pureK (v := ?_) (a' := ?_) rfl (by as_aux_lemma => kernel_rfl) (fun _ _ _ h => h) (Or.inl ⟨by rfl, ?_⟩) ?_ ?_
                 rotate_left
                 (intro w'; go_simp; with_reducible rfl)
                 rotate_left
                 (show Act.put _ (some _) _ = _; simp only [Act.put, List.setIfInBounds_toArray, List.set_cons_zero, List.set_cons_succ, i64_w, i32_w]; rfl)
                refine takeK (v := ?_) (a' := ?_) rfl (by as_aux_lemma => kernel_rfl) (fun _ _ _ h => h) (Or.inl ⟨by rfl, ?_⟩) hHeld ?_ ?_
                rotate_left
                (rintro w' ⟨s0_, s1_, s2_, s3_⟩; go_simp; with_reducible rfl)
                rotate_left
                (show Act.put _ (some _) _ = _; simp only [Act.put, List.setIfInBounds_toArray, List.set_cons_zero, List.set_cons_succ, i64_w, i32_w]; rfl)
                iterate 5
                 refine pureK (v := ?_) (a' := ?_) rfl (by as_aux_lemma => kernel_rfl) (fun _ _ _ h => h) (Or.inl ⟨by rfl, ?_⟩) ?_ ?_
                 rotate_left
                 (intro w'; go_simp; with_reducible rfl)
                 rotate_left
                 (show Act.put _ (some _) _ = _; simp only [Act.put, List.setIfInBounds_toArray, List.set_cons_zero, List.set_cons_succ, i64_w, i32_w]; rfl)
                refine takeK (v := ?_) (a' := ?_) rfl (by as_aux_lemma => kernel_rfl) (fun _ _ _ h => h) (Or.inl ⟨by rfl, ?_⟩) hHeld ?_ ?_
                rotate_left
                (rintro w' ⟨s0_, s1_, s2_, s3_⟩; go_simp; with_reducible rfl)
                rotate_left
                (show Act.put _ (some _) _ = _; simp only [Act.put, List.setIfInBounds_toArray, List.set_cons_zero, List.set_cons_succ, i64_w, i32_w]; rfl)
                iterate 6
                 refine pureK (v := ?_) (a' := ?_) rfl (by as_aux_lemma => kernel_rfl) (fun _ _ _ h => h) (Or.inl ⟨by rfl, ?_⟩) ?_ ?_
                 rotate_left
                 (intro w'; go_simp; with_reducible rfl)
                 rotate_left
                 (show Act.put _ (some _) _ = _; simp only [Act.put, List.setIfInBounds_toArray, List.set_cons_zero, List.set_cons_succ, i64_w, i32_w]; rfl)
                refine takeK (v := ?_) (a' := ?_) rfl (by as_aux_lemma => kernel_rfl) (fun _ _ _ h => h) (Or.inl ⟨by rfl, ?_⟩) hHeld ?_ ?_
                rotate_left
                (rintro w' ⟨s0_, s1_, s2_, s3_⟩; go_simp; with_reducible rfl)
                rotate_left
                (show Act.put _ (some _) _ = _; simp only [Act.put, List.setIfInBounds_toArray, List.set_cons_zero, List.set_cons_succ, i64_w, i32_w]; rfl)
                iterate 3
                 refine pureK (v := ?_) (a' := ?_) rfl (by as_aux_lemma => kernel_rfl) (fun _ _ _ h => h) (Or.inl ⟨by rfl, ?_⟩) ?_ ?_
                 rotate_left
                 (intro w'; go_simp; with_reducible rfl)
                 rotate_left
                 (show Act.put _ (some _) _ = _; simp only [Act.put, List.setIfInBounds_toArray, List.set_cons_zero, List.set_cons_succ, i64_w, i32_w]; rfl)
                refine takeK (v := ?_) (a' := ?_) rfl (by as_aux_lemma => kernel_rfl) (fun _ _ _ h => h) (Or.inl ⟨by rfl, ?_⟩) hHeld ?_ ?_
                rotate_left
                (rintro w' ⟨s0_, s1_, s2_, s3_⟩; go_simp; with_reducible rfl)
                rotate_left
                (show Act.put _ (some _) _ = _; simp only [Act.put, List.setIfInBounds_toArray, List.set_cons_zero, List.set_cons_succ, i64_w, i32_w]; rfl)
                iterate 4
                 refine pureK (v := ?_) (a' := ?_) rfl (by as_aux_lemma => kernel_rfl) (fun _ _ _ h => h) (Or.inl ⟨by rfl, ?_⟩) ?_ ?_
                 rotate_left
                 (intro w'; go_simp; with_reducible rfl)
                 rotate_left
                 (show Act.put _ (some _) _ = _; simp only [Act.put, List.setIfInBounds_toArray, List.set_cons_zero, List.set_cons_succ, i64_w, i32_w]; rfl)
                refine done_ (by kernel_rfl) ?_
                clear hHeld
                go_wp2
                go_ret
                exact good_no hlt hkl (HNo.out fun h => (HRo.out.1 h).elim (fun e => hab e) fun e => hlab e.2.2) ((by first | exact bDD HB.out | exact bNN HB.out _ | exact HB.out))
          ·obtain rfl : j = x.f5.length := by omega
           have HPo : Azz (PairOk us ins l i k) := ⟨fun _ _ _ => ⟨HAl.out, by rw [HRi.out, HRk.out]; exact HXy.out, fun q hq => HJ.out q (by rw [HRi.out] at hq; exact hq)⟩⟩
           go_wp2
           go_roundw
           case rel => exact ⟨k + 1, by omega, by go_num, ⟨upto HK.out HPo.out⟩, HB⟩
           case measure => simp [RowKit.intOf]; omega
       ·have hqq : (qi != qk) = true := bne_iff_ne.mpr hq
        go_wp2
        go_quiet (fail)
        go_wp2
        go_roundw
        case rel => exact ⟨k + 1, by omega, by go_num, ⟨upto HK.out fun _ _ h => absurd (HQi.out.symm.trans (h.trans HQk.out)) hq⟩, ⟨(by first | exact bDD HB.out | exact bNN HB.out _ | exact HB.out)⟩⟩
        case measure => simp [RowKit.intOf]; omega
    ·obtain rfl : k = i := by omega
     go_wp2
     go_roundw
     case rel => exact ⟨k + 1, by omega, by go_num, ⟨upto HA.out HK.out⟩, HB⟩
     case measure => simp [RowKit.intOf]; omega
  ·obtain rfl : i = us.length := by omega
   go_wp2
   go_ret
   exact ⟨true, rfl, ⟨fun _ => HA.out, fun _ => rfl⟩, HB.out⟩
end Go.Proofs.YtngmipfodjgmmaaDoor.Pure
