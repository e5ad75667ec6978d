/- Walks and plain laws of this claim, a part. -/
import Derived.Test.YtngmipfodjgmmaaGreatDoorFz57
set_option maxRecDepth 100000
set_option maxHeartbeats 8000000
set_option linter.unusedVariables false
set_option linter.unusedSimpArgs false
section
namespace Go.Proofs.YtngmipfodjgmmaaGreatDoor.Pure
open Go Go.RowKit Go.Lib Go.Shelf Wa Wb Wc
theorem info_u32 : (Tryz.prog.info? 124).map (fun i => (i.zero, i.size, i.bytes)) = some (some (.int .u32 0), 1, 4) := by kernel_rfl
theorem C_blkG {α : Type} {d : Kd α} {W : World} {g : Nat} {t : TypeId} {xs : List α} {inner : List Value} (hb : W.heap[g]? = some (.cells inner.toArray t (0, 0))) (hr : Reps (d.K W) d.sz xs inner) (hm : xs.length ≤ maxLen) : d.C W (some ⟨g, 0, none⟩) xs.length xs := by
 have ho : W.ownsRow 0 t d.sz (.slice (some ⟨g, 0, none⟩) xs.length xs.length) xs.length inner := ⟨hr.1, .inr ⟨g, xs.length, inner.toArray, rfl, Nat.zero_le _, hb, Nat.le_refl _, hm, by simpa using hr.1, by rw [← hr.1]; simp⟩⟩
 obtain ⟨A, c, e, h⟩ := own_reads_row ho hr rfl
 cases e
 exact h
theorem u32_new {W : World} {g t : Nat} {z : Int} (h : W.heap[g]? = some (.cells #[.int .u32 z] t (0, 0))) : U32 W (some ⟨g, 0, none⟩) [z] := by
 refine C_blkG (d := Kd.int .u32) (inner := [.int .u32 z]) h ⟨by simp [Kd.int, Kd.scalar], fun j p hj => ?_⟩ (by show 1 ≤ maxLen; decide)
 have hj2 : j < [z].length := (List.getElem?_eq_some_iff.1 hj).1
 obtain rfl : j = 0 := by simpa using hj2
 have hp : z = p := by simpa using hj
 subst hp
 rfl
def DecR (n : Nat) (t : I10) (er : Int) : Prop := Ev (fun k => P.code_Decode.f k (n : Int)) (r11 t er) ∨ ∃ op, P.code_Opcode.f (n : Int) = some op ∧ P.inst_Shape.f op = some 3 ∧ (er ≠ 0 ∨ t.1 = op)
def DecPost (n : Nat) (w : World) (e : Ending) (w' : World) : Prop := ∃ t er, e = .returned (.tuple #[.agg (cel t), .int .i64 er]) ∧ DecR n t er ∧ Below w.heap.size w w'
theorem pdec_none (n : Nat) (ho : P.code_Opcode.f (n : Int) = some 0) : Ev (fun k => P.code_Decode.f k (n : Int)) (r11 zero10 11) := by
 have hs : P.inst_Shape.f 0 = some 0 := rfl
 have hp : ∀ k, P.code_Decode.pan k (n : Int) 0 = some true := fun k => by
  unfold P.code_Decode.pan
  rw [if_pos rfl]
 unfold P.code_Decode.f
 exact Ev.bind (Ev.nowc ho) (Ev.bind (Ev.nowc hs) (Ev.bind (Ev.congr hp (Ev.now true)) (Ev.congr (fun k => if_pos rfl) (Ev.now _))))
theorem fsOf_take (n s k : Nat) (hk : k < (plc s).length) : (fsOf n s).take (k + 1) = (fsOf n s).take k ++ [((fdN n (pAt s k) : Nat) : Int)] := by
 have hl : k < (fsOf n s).length := by simpa [fsOf] using hk
 rw [List.take_succ_eq_append_getElem hl]
 congr 2
 simp only [fsOf, List.getElem_map]
 unfold pAt
 rw [List.getD_eq_getElem?_getD, List.getElem?_eq_getElem hk]
 rfl
theorem fsOf_len (n s : Nat) : (fsOf n s).length = (plc s).length := by simp [fsOf]
theorem rdecode_any (n : Nat) (hn : n < 4294967296) (w : World) : Calls Tryz.prog 91 #[.int .u32 (n : Int)] w (DecPost n w) := by
 have HN0 := Azz.mk hn
 clear hn
 go_enter Tryz.func91, Tryz.ntmps91
 go_wp2_with fail
 (with_reducible refine (ropcode_any n HN0.out _).mono ?_)
 rintro e w1 ⟨op, rfl, hop, hoc, han, hb⟩
 have HI := Azz.mk (kBB (blk_new w (.cells #[.int .i64 0, .int .i64 0, .int .i64 0, .int .i64 0, .int .i64 0, .int .i64 0, .int .u64 0, .int .i64 0, .int .i64 0, .int .i64 0] 135)) hb)
 have HB := Azz.mk (bTT ((Below.refl _ w).alloc (Nat.le_refl _) _) hb)
 have HO := Azz.mk hoc
 clear hb hoc han
 by_cases h0 : op = 0
 ·subst h0
  obtain ⟨i0, i1, i2, i3, i4, i5, i6, i7, i8, i9⟩ := cel10 HI.out
  have if_ := fun i => kFF HI.out i
  go_wp2
  refine bodyPost_ret (results_ct rfl _ _ w.heap.size 135 #[.int .i64 0, .int .i64 0, .int .i64 0, .int .i64 0, .int .i64 0, .int .i64 0, .int .u64 0, .int .i64 0, .int .i64 0, .int .i64 0] (0, 0) _ rfl (P.row10 (c0 := .int .i64 0) (c1 := .int .i64 0) (c2 := .int .i64 0) (c3 := .int .i64 0) (c4 := .int .i64 0) (c5 := .int .i64 0) (c6 := .int .u64 0) (c7 := .int .i64 0) (c8 := .int .i64 0) (c9 := .int .i64 0) ?blk _ _ _ _ _ _ _ _ _ _) Tryz.underlying135 rfl (by kernel_rfl)) rfl ⟨zero10, 11, rfl, .inl (pdec_none n HO.out), ?bel⟩
  case blk => repeat (first | (with_reducible exact HI.out) | (with_reducible refine kNN ?_ _) | (with_reducible refine kAA ?_ _) | (with_reducible refine blk_far ?_ (Nat.succ_ne_self _).symm _))
  case bel => repeat (first | (with_reducible exact HB.out) | (with_reducible apply bAA) | (with_reducible apply bNN) | (with_reducible apply bDD) | (with_reducible refine bSS ?_ (Nat.le_refl _)) | (with_reducible refine bSS ?_ (Nat.le_succ _)))
 obtain ⟨hb1, hs1⟩ := rbase (i := op) (by omega) hop
 obtain ⟨t1, _, _, t4, _, _, t7⟩ := tables op hop
 have HSn := Azz.mk (shape_some op (by omega) hop)
 have t7 := t7 (by omega)
 obtain ⟨s, hs⟩ : ∃ s, shapeN op = s := ⟨_, rfl⟩
 rw [hs] at hs1 t4 t7 HSn
 have HSr := Azz.mk hs1
 have HSh := Azz.mk (fun W => P.cleatref04_Shape.calls (op : Int) _ W hs1)
 have HS := Azz.mk (And.intro t7 t4)
 have e0 : (((op : Nat) : Int) == 0) = false := bF_ (by omega)
 clear hb1 hs1 t1 t4 t7 hs
 go_wp2_with fail
 (with_reducible refine (HSh.out _).mono ?_)
 rintro e w2 ⟨rfl, hb⟩
 replace HI := Azz.mk (kBB HI.out hb)
 replace HB := Azz.mk (bTT HB.out hb)
 clear hb HSh
 go_wp2_with fail
 (with_reducible refine (rplaces_any s HS.out.2 _).mono ?_)
 rintro e w3 ⟨pv, rfl, hp, hb⟩
 replace HI := Azz.mk (kBB HI.out hb)
 replace HB := Azz.mk (bTT HB.out hb)
 obtain ⟨A, rfl⟩ := hp.slice
 have HP := Azz.mk hp
 clear hb hp
 have hl5 := plc_len s
 obtain ⟨m, hm⟩ : ∃ m, (plc s).length = m := ⟨_, rfl⟩
 have HM := Azz.mk hm
 rw [hm] at HP hl5 ⊢
 clear hm
 go_wp2
 go_loopw [5, 7] (fun v5 v7 wr => ∃ k : Nat, k ≤ m ∧ v7 = .int .i64 k ∧ Azz (Kd.R (Kd.int .u32) 124 wr w3.heap.size (fun _ => True) v5 ((fsOf n s).take k)) ∧ Azz (Below w3.heap.size w3 wr)) (fun _ v _ => m - (RowKit.intOf v).toNat)
 case atStart => exact ⟨0, Nat.zero_le _, rfl, ⟨Kd.R_nil _ _ _ _ _⟩, ⟨Below.refl _ _⟩⟩
 case round =>
  obtain ⟨k, hk, rfl, HR, HBr⟩ := hrel
  by_cases hkl : k < m
  ·obtain ⟨b, e, x0, x1⟩ := (HP.out.below HBr.out).get HS.out.2 (k := k) (by rw [HM.out]; exact hkl)
   obtain rfl : A = some ⟨b, 0, none⟩ := by injection e
   clear e
   obtain ⟨f1, f2, f3, f4⟩ := plc_facts (k := k) HS.out.2 (by rw [HM.out]; exact hkl)
   have hft := fsOf_take n s k (by rw [HM.out]; exact hkl)
   obtain ⟨⟨a, q⟩, hp⟩ : ∃ p, pAt s k = p := ⟨_, rfl⟩
   rw [hp] at x0 x1 f2 f3 f4 hft
   have HF := Azz.mk (rfield_calls n a q HN0.out f2 f4)
   have HFt := Azz.mk hft
   have hl1 : ((fsOf n s).take k).length ≤ 5 := by rw [List.length_take, fsOf_len, HM.out]; omega
   have HL1 := Azz.mk hl1
   have k0 : (0 : Int) ≤ (k : Int) := by omega
   have k1 : (k : Int) < m := by omega
   clear hft hp f1 f2 f3 f4 hl1
   go_wp2
   go_region_held3 (fun w' => w'.cell? ⟨b, k * 2, none⟩ = some (.int .i64 (a : Int)) ∧ w'.cell? ⟨b, k * 2 + 1, none⟩ = some (.int .i64 (q : Int))) (go_keep) (first | (go_at_call 108; (with_reducible refine (HF.out _).mono ?_); rintro e w' ⟨rfl, ⟨nd, rfl⟩⟩))
   go_wp2_with (at_builtin; refine Kd.R_append_rows (Kd.int .u32) (w0 := w3) w3.heap.size rfl _ _ 158 124 (.int .u32 0) 4 rfl Tryz.underlying158 info_u32 rfl (by decide) (by decide) _ ((fsOf n s).take k) [((fdN n (a, q) : Nat) : Int)] (some ⟨wr.heap.size, 0, none⟩) 1 1 (fun _ => True) (fun _ => False) rfl rfl (Kd.R_alloc (Kd.R_drewN HR.out _) _) (u32_new (blk_new _ _)) (fun _ _ h => h) (fun _ h => h.elim) (fun _ _ => trivial) ((bNN HBr.out _).alloc HBr.out.size _) ((bNN HBr.out _).alloc HBr.out.size _).size (by have := HL1.out; omega) ?_; intro v1 w7 ho1 hb1 _ _; have HO1 := Azz.mk ho1; have HB1 := Azz.mk hb1; clear ho1 hb1)
   go_roundw
   case rel => exact ⟨k + 1, by omega, by go_num, ⟨by rw [HFt.out]; exact HO1.out⟩, HB1⟩
   case measure => simp [RowKit.intOf]; omega
  obtain rfl : k = m := by omega
  replace HI := Azz.mk (kBB HI.out HBr.out)
  replace HB := Azz.mk (bTT HB.out HBr.out)
  have HR2 := HR.out
  rw [List.take_of_length_le (by rw [fsOf_len, HM.out]; exact Nat.le_refl _)] at HR2
  obtain ⟨Aa, ca, rfl, hla, hC⟩ := Kd.R_reads HR2
  obtain ⟨mk, hU, hOf⟩ := of_any n wr Aa ca (op : Int) s HS.out.1 HS.out.2 HSr.out hC
  obtain ⟨b, hbo, hIs⟩ := ris_any n (op : Int) mk hU s HS.out.1 HS.out.2 HSr.out
  have hfl := fsOf_len n s
  rw [← hfl] at hOf
  have hres0 : s ≠ 3 → Ev (fun k => P.code_Decode.f k (n : Int)) (if b = true then r11 (ofT n op mk s) 0 else r11 zero10 11) := fun h => by
   rw [hbo h, ofT_mk n op mk h]
   exact pdec_any n HN0.out op HO.out s HS.out.1 HS.out.2 h HSn.out
  have hop3 : s = 3 → (ofT n op mk s).1 = op := fun h => by rw [h]; rfl
  obtain ⟨t, ht⟩ : ∃ t, ofT n op mk s = t := ⟨_, rfl⟩
  rw [ht] at hOf hIs hres0 hop3
  have HRes := Azz.mk (And.intro hres0 hop3)
  have HOf := Azz.mk hOf
  have HIs := Azz.mk hIs
  obtain ⟨l, hl⟩ : ∃ l, (fsOf n s).length = l := ⟨_, rfl⟩
  rw [hl] at HOf ⊢
  clear hU hOf hbo hIs hres0 hop3 ht hfl hl hla hC HR2 HR HBr HP
  obtain ⟨o, d, n', m', a, im, mk', sh, am, cd⟩ := t
  simp only [cel] at HOf HIs
  go_wp2_with fail
  (with_reducible refine HOf.out.mono ?_)
  rintro e w4 ⟨rfl, hb⟩
  replace HI := Azz.mk (kBB HI.out hb)
  replace HB := Azz.mk (bTT HB.out hb)
  clear hb HOf
  go_wp2_with fail
  have hlt4 : w.heap.size < w4.heap.size := (Array.getElem?_eq_some_iff.1 HI.out).1
  (with_reducible refine (HIs.out _).mono ?_)
  rintro e w5 ⟨rfl, hb⟩
  have HE := Azz.mk (kBB (blk_new w4 (.cells #[.int .i64 o, .int .i64 d, .int .i64 n', .int .i64 m', .int .i64 a, .int .i64 im, .int .u64 mk', .int .i64 sh, .int .i64 am, .int .i64 cd] 135)) hb)
  replace HI := Azz.mk (kBB (kAA HI.out _) hb)
  replace HB := Azz.mk (bTT (HB.out.alloc HB.out.size _) hb)
  clear hb HIs
  obtain ⟨i0, i1, i2, i3, i4, i5, i6, i7, i8, i9⟩ := cel10 HI.out
  have if_ := fun i => kFF HI.out i
  obtain ⟨hr0, h3⟩ := HRes.out
  have HR0 := Azz.mk hr0
  have H3 := Azz.mk h3
  clear hr0 h3 HRes
  cases b with
  | false =>
   go_wp2
   refine bodyPost_ret (results_ct rfl _ _ w.heap.size 135 #[.int .i64 0, .int .i64 0, .int .i64 0, .int .i64 0, .int .i64 0, .int .i64 0, .int .u64 0, .int .i64 0, .int .i64 0, .int .i64 0] (0, 0) _ rfl (P.row10 (c0 := .int .i64 0) (c1 := .int .i64 0) (c2 := .int .i64 0) (c3 := .int .i64 0) (c4 := .int .i64 0) (c5 := .int .i64 0) (c6 := .int .u64 0) (c7 := .int .i64 0) (c8 := .int .i64 0) (c9 := .int .i64 0) ?blk _ _ _ _ _ _ _ _ _ _) Tryz.underlying135 rfl (by kernel_rfl)) rfl ⟨zero10, 11, rfl, ?rdc, ?bel⟩
   case blk => repeat (first | (with_reducible exact HI.out) | (with_reducible refine kNN ?_ _) | (with_reducible refine kAA ?_ _) | (with_reducible refine blk_far ?_ (Nat.succ_ne_self _).symm _))
   case bel => repeat (first | (with_reducible exact HB.out) | (with_reducible apply bAA) | (with_reducible apply bNN) | (with_reducible apply bDD) | (with_reducible refine bSS ?_ (Nat.le_refl _)) | (with_reducible refine bSS ?_ (Nat.le_succ _)))
   case rdc =>
    by_cases c : s = 3
    ·exact .inr ⟨op, HO.out, by rw [HSn.out, c]; rfl, .inl (by decide)⟩
    exact .inl (HR0.out c)
  | true =>
   obtain ⟨e0, e1, e2, e3, e4, e5, e6, e7, e8, e9⟩ := cel10 HE.out
   go_wp2
   refine bodyPost_ret (results_ct rfl _ _ w.heap.size 135 #[.int .i64 o, .int .i64 d, .int .i64 n', .int .i64 m', .int .i64 a, .int .i64 im, .int .u64 mk', .int .i64 sh, .int .i64 am, .int .i64 cd] (0, 0) _ rfl (P.row10 (c0 := .int .i64 0) (c1 := .int .i64 0) (c2 := .int .i64 0) (c3 := .int .i64 0) (c4 := .int .i64 0) (c5 := .int .i64 0) (c6 := .int .u64 0) (c7 := .int .i64 0) (c8 := .int .i64 0) (c9 := .int .i64 0) ?blk _ _ _ _ _ _ _ _ _ _) Tryz.underlying135 rfl (by kernel_rfl)) rfl ⟨(o, d, n', m', a, im, mk', sh, am, cd), 0, rfl, ?rdc, ?bel⟩
   case blk => repeat (first | (with_reducible exact HI.out) | (with_reducible refine kNN ?_ _) | (with_reducible refine kAA ?_ _) | (with_reducible refine blk_far ?_ (Nat.succ_ne_self _).symm _))
   case bel => repeat (first | (with_reducible exact HB.out) | (with_reducible apply bAA) | (with_reducible apply bNN) | (with_reducible apply bDD) | (with_reducible refine bSS ?_ (Nat.le_refl _)) | (with_reducible refine bSS ?_ (Nat.le_succ _)))
   case rdc =>
    by_cases c : s = 3
    ·exact .inr ⟨op, HO.out, by rw [HSn.out, c]; rfl, .inr (H3.out c)⟩
    exact .inl (HR0.out c)
def kfit (o : Int) : Int := if o = 29 then 2 else if o = 30 then 2 else if o = 31 then 3 else if o = 32 then 3 else if o = 33 then 3 else if o = 26 then 4 else if o = 27 then 5 else if o = 28 then 6 else if o = 4 then 7 else if o = 22 then 8 else if o = 23 then 8 else if o = 24 then 9 else if o = 25 then 9 else 0
def fitB (kind o im am er : Int) : Bool := decide (er = 0 ∧ im = 0 ∧ am = 0 ∧ kfit o = kind)
theorem fit_all : ((List.range 9).all fun q => (List.range 39).all fun j => (decide (((j + 1 : Nat) : Int) ≥ rd P.fittingL (2 * ((q + 1 : Nat) : Int))) && decide (((j + 1 : Nat) : Int) ≤ rd P.fittingL (2 * ((q + 1 : Nat) : Int) + 1))) == decide (kfit ((j + 1 : Nat) : Int) = ((q + 1 : Nat) : Int))) = true := by kernel_rfl
theorem fit_in {kind : Int} {o : Nat} (h1 : 1 ≤ kind) (h2 : kind ≤ 9) (o1 : 1 ≤ o) (o2 : o ≤ 39) : (decide ((o : Int) ≥ rd P.fittingL (2 * kind)) && decide ((o : Int) ≤ rd P.fittingL (2 * kind + 1))) = decide (kfit (o : Int) = kind) := by
 obtain ⟨q, rfl⟩ : ∃ q : Nat, kind = ((q + 1 : Nat) : Int) := ⟨(kind - 1).toNat, by omega⟩
 obtain ⟨j, rfl⟩ : ∃ j : Nat, o = j + 1 := ⟨o - 1, by omega⟩
 have h := List.all_eq_true.1 (List.all_eq_true.1 fit_all q (List.mem_range.2 (by omega))) j (List.mem_range.2 (by omega))
 exact beq_iff_eq.1 h
theorem shape3 {op : Nat} (h1 : 1 ≤ op) (h2 : op ≤ 39) (h : shapeN op = 3) : kfit (op : Int) = 0 := by
 have : ((List.range 39).all fun i => !(shapeN (i + 1) == 3) || (kfit ((i + 1 : Nat) : Int) == 0)) = true := by kernel_rfl
 have h3 := List.all_eq_true.1 this (op - 1) (List.mem_range.2 (by omega))
 rw [show op - 1 + 1 = op by omega, h] at h3
 simpa using h3
theorem fits_of {kind : Int} {r : Int × Int × Int × Int × Int × Int × Int × Int × Int × Int × Int} (h1 : 1 ≤ kind) (h2 : kind ≤ 9) (ho : r.2.2.2.2.2.2.2.2.2.2 = 0 → ∃ o : Nat, 1 ≤ o ∧ o ≤ 39 ∧ r.1 = (o : Int)) :
 P.part_Fits.of kind r = fitB kind r.1 r.2.2.2.2.2.1 r.2.2.2.2.2.2.2.2.1 r.2.2.2.2.2.2.2.2.2.2 := by
 unfold P.part_Fits.of fitB
 by_cases c1 : r.2.2.2.2.2.2.2.2.2.2 = 0
 ·obtain ⟨o, o1, o2, e⟩ := ho c1
  have := fit_in h1 h2 o1 o2
  rw [← e] at this
  rw [if_pos c1]
  by_cases c2 : r.2.2.2.2.2.1 = 0
  ·rw [if_pos c2]
   by_cases c3 : r.2.2.2.2.2.2.2.2.1 = 0
   ·rw [if_pos c3]
    by_cases c4 : r.1 ≥ rd P.fittingL (2 * kind)
    ·rw [if_pos c4]
     rw [dT_ c4, Bool.true_and] at this
     rw [this, Bool.eq_iff_iff, decide_eq_true_iff, decide_eq_true_iff]
     exact ⟨fun h => ⟨c1, c2, c3, h⟩, fun h => h.2.2.2⟩
    rw [if_neg c4]
    rw [dF_ c4, Bool.false_and] at this
    exact (dF_ fun h => by have := of_decide_eq_false this.symm; exact this h.2.2.2).symm
   rw [if_neg c3]
   exact (dF_ fun h => c3 h.2.2.1).symm
  rw [if_neg c2]
  exact (dF_ fun h => c2 h.2.1).symm
 rw [if_neg c1]
 exact (dF_ fun h => c1 h.1).symm
def FitE (kind : Int) (n : Nat) (b : Bool) : Prop := Ev (fun k => P.part_Fits.f k kind (n : Int)) b
theorem fit_ev {kind : Int} {n : Nat} (hn : n < 4294967296) (h1 : 1 ≤ kind) (h2 : kind ≤ 9) {t : I10} {er : Int} (h : DecR n t er) : FitE kind n (fitB kind t.1 t.2.2.2.2.2.1 t.2.2.2.2.2.2.2.2.1 er) := by
 obtain ⟨r, hr, hg⟩ := decode_full n hn
 have hof : P.part_Fits.of kind r = fitB kind r.1 r.2.2.2.2.2.1 r.2.2.2.2.2.2.2.2.1 r.2.2.2.2.2.2.2.2.2.2 := fits_of h1 h2 fun e => by
  obtain ⟨op, o1, o2, _, i, _, hi, hre, _⟩ := hg e
  exact ⟨op, o1, o2, by rw [hre]; exact hi⟩
 have hf : FitE kind n (P.part_Fits.of kind r) := by
  unfold FitE P.part_Fits.f
  exact Ev.congr (fun k => if_neg (by omega)) (Ev.congr (fun k => if_neg (by omega)) (Ev.bind hr (Ev.now _)))
 rw [hof] at hf
 rcases h with h | ⟨op, ho, hs, h⟩
 ·rw [Ev.one hr h] at hf
  exact hf
 have key : fitB kind r.1 r.2.2.2.2.2.1 r.2.2.2.2.2.2.2.2.1 r.2.2.2.2.2.2.2.2.2.2 = false := by
  refine dF_ fun ⟨e, _, _, hk⟩ => ?_
  obtain ⟨o', o1, o2, han, i, _, hi, hre, _⟩ := hg e
  have h3 := opcode_of n o' hn o1 o2 han
  rw [ho] at h3
  obtain rfl := Option.some.inj h3
  rw [shape_some o' o1 o2] at hs
  have hs3 : shapeN o' = 3 := by have := Option.some.inj hs; omega
  have : r.1 = (o' : Int) := by rw [hre]; exact hi
  rw [this, shape3 o1 o2 hs3] at hk
  omega
 have key2 : fitB kind t.1 t.2.2.2.2.2.1 t.2.2.2.2.2.2.2.2.1 er = false := by
  refine dF_ fun ⟨e, _, _, hk⟩ => ?_
  rcases h with h | h
  ·exact h e
  rcases opcode n hn with h0 | ⟨o', o1, o2, ho', _⟩
  ·rw [ho] at h0
   obtain rfl := Option.some.inj h0
   exact absurd hs (by decide)
  rw [ho] at ho'
  obtain rfl := Option.some.inj ho'
  rw [shape_some o' o1 o2] at hs
  have hs3 : shapeN o' = 3 := by have := Option.some.inj hs; omega
  rw [h, shape3 o1 o2 hs3] at hk
  omega
 rw [key] at hf
 rw [key2]
 exact hf
def FitsPost (kind : Int) (n : Nat) (w : World) (e : Ending) (w' : World) : Prop := ∃ b, e = .returned (.bool b) ∧ FitE kind n b ∧ Below w.heap.size w w'
theorem kfit_none {o : Int} (h29 : o ≠ 29) (h30 : o ≠ 30) (h31 : o ≠ 31) (h32 : o ≠ 32) (h33 : o ≠ 33) (h26 : o ≠ 26) (h27 : o ≠ 27) (h28 : o ≠ 28) (h4 : o ≠ 4) (h22 : o ≠ 22) (h23 : o ≠ 23) (h24 : o ≠ 24) (h25 : o ≠ 25) : kfit o = 0 := by
 unfold kfit
 rw [if_neg h29, if_neg h30, if_neg h31, if_neg h32, if_neg h33, if_neg h26, if_neg h27, if_neg h28, if_neg h4, if_neg h22, if_neg h23, if_neg h24, if_neg h25]
theorem rfits_any (kind : Int) (h1 : 1 ≤ kind) (h2 : kind ≤ 9) (n : Nat) (hn : n < 4294967296) (w : World) : Calls Tryz.prog 80 #[.int .i64 kind, .int .u32 (n : Int)] w (FitsPost kind n w) := by
 have HN0 := Azz.mk hn
 have HK := Azz.mk (And.intro h1 h2)
 clear hn h1 h2
 go_enter Tryz.func80, Tryz.ntmps80
 go_wp2_with fail
 (with_reducible refine (rdecode_any n HN0.out _).mono ?_)
 rintro e w1 ⟨⟨o, d, n', m', a, im, mk, sh, am, cd⟩, er, rfl, hd, hb⟩
 have HF := Azz.mk (fit_ev HN0.out HK.out.1 HK.out.2 hd)
 have HB := Azz.mk hb
 clear hb hd
 simp only [cel] at HF ⊢
 have HB2 := Azz.mk (HB.out.alloc HB.out.size (.cells #[.int .i64 o, .int .i64 d, .int .i64 n', .int .i64 m', .int .i64 a, .int .i64 im, .int .u64 mk, .int .i64 sh, .int .i64 am, .int .i64 cd] 135))
 have no : ∀ b : Bool, fitB kind o im am er = b → ∀ w', Below w.heap.size w w' → FitsPost kind n w (.returned (.bool b)) w' := fun b hb w' hw => ⟨b, rfl, by rw [← hb]; exact HF.out, hw⟩
 have HNo := Azz.mk no
 clear no HF
 by_cases c1 : er = 0
 rotate_left
 ·have e0 : (er != 0) = true := bN_ c1
  have HC := Azz.mk (show fitB kind o im am er = false from dF_ fun h => c1 h.1)
  clear c1
  go_wp2
  go_ret
  exact HNo.out _ HC.out _ HB2.out
 by_cases c2 : im = 0
 rotate_left
 ·have e0 : (er != 0) = false := bne_eq_false_iff_eq.mpr c1
  have e1 : (im != 0) = true := bN_ c2
  have HC := Azz.mk (show fitB kind o im am er = false from dF_ fun h => c2 h.2.1)
  clear c1 c2
  go_wp2
  go_ret
  exact HNo.out _ HC.out _ HB2.out
 by_cases c3 : am = 0
 rotate_left
 ·have e0 : (er != 0) = false := bne_eq_false_iff_eq.mpr c1
  have e1 : (im != 0) = false := bne_eq_false_iff_eq.mpr c2
  have e2 : (am != 0) = true := bN_ c3
  have HC := Azz.mk (show fitB kind o im am er = false from dF_ fun h => c3 h.2.2.1)
  clear c1 c2 c3
  go_wp2
  go_ret
  exact HNo.out _ HC.out _ HB2.out
 subst c1
 subst c2
 subst c3
 by_cases q29 : o = 29
 ·subst q29
  go_wp2
  go_ret
  exact HNo.out _ (by unfold fitB; rw [Bool.eq_iff_iff, decide_eq_true_iff, beq_iff_eq]; exact ⟨fun h => h.2.2.2.symm, fun h => ⟨rfl, rfl, rfl, h.symm⟩⟩) _ HB2.out
 by_cases q30 : o = 30
 ·subst q30
  go_wp2
  go_ret
  exact HNo.out _ (by unfold fitB; rw [Bool.eq_iff_iff, decide_eq_true_iff, beq_iff_eq]; exact ⟨fun h => h.2.2.2.symm, fun h => ⟨rfl, rfl, rfl, h.symm⟩⟩) _ HB2.out
 by_cases q31 : o = 31
 ·subst q31
  go_wp2
  go_ret
  exact HNo.out _ (by unfold fitB; rw [Bool.eq_iff_iff, decide_eq_true_iff, beq_iff_eq]; exact ⟨fun h => h.2.2.2.symm, fun h => ⟨rfl, rfl, rfl, h.symm⟩⟩) _ HB2.out
 by_cases q32 : o = 32
 ·subst q32
  go_wp2
  go_ret
  exact HNo.out _ (by unfold fitB; rw [Bool.eq_iff_iff, decide_eq_true_iff, beq_iff_eq]; exact ⟨fun h => h.2.2.2.symm, fun h => ⟨rfl, rfl, rfl, h.symm⟩⟩) _ HB2.out
 by_cases q33 : o = 33
 ·subst q33
  go_wp2
  go_ret
  exact HNo.out _ (by unfold fitB; rw [Bool.eq_iff_iff, decide_eq_true_iff, beq_iff_eq]; exact ⟨fun h => h.2.2.2.symm, fun h => ⟨rfl, rfl, rfl, h.symm⟩⟩) _ HB2.out
 by_cases q26 : o = 26
 ·subst q26
  go_wp2
  go_ret
  exact HNo.out _ (by unfold fitB; rw [Bool.eq_iff_iff, decide_eq_true_iff, beq_iff_eq]; exact ⟨fun h => h.2.2.2.symm, fun h => ⟨rfl, rfl, rfl, h.symm⟩⟩) _ HB2.out
 by_cases q27 : o = 27
 ·subst q27
  go_wp2
  go_ret
  exact HNo.out _ (by unfold fitB; rw [Bool.eq_iff_iff, decide_eq_true_iff, beq_iff_eq]; exact ⟨fun h => h.2.2.2.symm, fun h => ⟨rfl, rfl, rfl, h.symm⟩⟩) _ HB2.out
 by_cases q28 : o = 28
 ·subst q28
  go_wp2
  go_ret
  exact HNo.out _ (by unfold fitB; rw [Bool.eq_iff_iff, decide_eq_true_iff, beq_iff_eq]; exact ⟨fun h => h.2.2.2.symm, fun h => ⟨rfl, rfl, rfl, h.symm⟩⟩) _ HB2.out
 by_cases q4 : o = 4
 ·subst q4
  go_wp2
  go_ret
  exact HNo.out _ (by unfold fitB; rw [Bool.eq_iff_iff, decide_eq_true_iff, beq_iff_eq]; exact ⟨fun h => h.2.2.2.symm, fun h => ⟨rfl, rfl, rfl, h.symm⟩⟩) _ HB2.out
 by_cases q22 : o = 22
 ·subst q22
  go_wp2
  go_ret
  exact HNo.out _ (by unfold fitB; rw [Bool.eq_iff_iff, decide_eq_true_iff, beq_iff_eq]; exact ⟨fun h => h.2.2.2.symm, fun h => ⟨rfl, rfl, rfl, h.symm⟩⟩) _ HB2.out
 by_cases q23 : o = 23
 ·subst q23
  go_wp2
  go_ret
  exact HNo.out _ (by unfold fitB; rw [Bool.eq_iff_iff, decide_eq_true_iff, beq_iff_eq]; exact ⟨fun h => h.2.2.2.symm, fun h => ⟨rfl, rfl, rfl, h.symm⟩⟩) _ HB2.out
 by_cases q24 : o = 24
 ·subst q24
  go_wp2
  go_ret
  exact HNo.out _ (by unfold fitB; rw [Bool.eq_iff_iff, decide_eq_true_iff, beq_iff_eq]; exact ⟨fun h => h.2.2.2.symm, fun h => ⟨rfl, rfl, rfl, h.symm⟩⟩) _ HB2.out
 by_cases q25 : o = 25
 ·subst q25
  go_wp2
  go_ret
  exact HNo.out _ (by unfold fitB; rw [Bool.eq_iff_iff, decide_eq_true_iff, beq_iff_eq]; exact ⟨fun h => h.2.2.2.symm, fun h => ⟨rfl, rfl, rfl, h.symm⟩⟩) _ HB2.out
 have g29 : (o == 29) = false := bF_ q29
 have g30 : (o == 30) = false := bF_ q30
 have g31 : (o == 31) = false := bF_ q31
 have g32 : (o == 32) = false := bF_ q32
 have g33 : (o == 33) = false := bF_ q33
 have g26 : (o == 26) = false := bF_ q26
 have g27 : (o == 27) = false := bF_ q27
 have g28 : (o == 28) = false := bF_ q28
 have g4 : (o == 4) = false := bF_ q4
 have g22 : (o == 22) = false := bF_ q22
 have g23 : (o == 23) = false := bF_ q23
 have g24 : (o == 24) = false := bF_ q24
 have g25 : (o == 25) = false := bF_ q25
 have hk0 := kfit_none q29 q30 q31 q32 q33 q26 q27 q28 q4 q22 q23 q24 q25
 have HK0 := Azz.mk hk0
 clear hk0 q29 q30 q31 q32 q33 q26 q27 q28 q4 q22 q23 q24 q25
 go_wp2
 go_ret
 exact HNo.out _ (dF_ fun h => by have h2 := h.2.2.2; rw [HK0.out] at h2; have h3 := HK.out.1; omega) _ HB2.out
end Go.Proofs.YtngmipfodjgmmaaGreatDoor.Pure
end
