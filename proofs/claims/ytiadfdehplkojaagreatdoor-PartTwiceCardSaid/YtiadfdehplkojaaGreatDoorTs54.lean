/- The law 'PartTwice' walked: it returns true. -/
import Derived.Test.YtiadfdehplkojaaGreatDoorTs53
namespace Go.Proofs.YtiadfdehplkojaaGreatDoor.Pure
open Go Go.RowKit Go.Proofs.YtiadfdehplkojaaGreatDoorW.PrintWords Go.Proofs.YtiadfdehplkojaaGreatDoorW.PrintLast Go.Proofs.YtiadfdehplkojaaGreatDoorW.PrintMore
open P (Glob)
set_option linter.unusedVariables false
set_option linter.unusedSimpArgs false
structure ScAt (w : World) (A : Option Addr) (c : Nat) (s : Sc) : Prop where
 reads : Kd.C P.k61 w A s.rels.length s.rels
 le : s.rels.length ≤ c
theorem ScAt.below {w w1 : World} {A : Option Addr} {c : Nat} {s : Sc} (h : ScAt w A c s) (hb : Below w.heap.size w w1) : ScAt w1 A c s := ⟨Kd.C_below h.reads hb, h.le⟩
theorem cel6 {w : World} {g t : Nat} {v0 v1 v2 v3 v4 v5 : Value} (h : w.heap[g]? = some (.cells #[v0, v1, v2, v3, v4, v5] t (0, 0))) : w.cell? ⟨g, 0, none⟩ = some v0 ∧ w.cell? ⟨g, 1, none⟩ = some v1 ∧ w.cell? ⟨g, 2, none⟩ = some v2 ∧ w.cell? ⟨g, 3, none⟩ = some v3 ∧ w.cell? ⟨g, 4, none⟩ = some v4 ∧ w.cell? ⟨g, 5, none⟩ = some v5 :=
 ⟨(blk_cell h 0).trans rfl, (blk_cell h 1).trans rfl, (blk_cell h 2).trans rfl, (blk_cell h 3).trans rfl, (blk_cell h 4).trans rfl, (blk_cell h 5).trans rfl⟩
theorem put_calls {s r : Sc} {d : ByteArray} {e : Int} (hp : PutB s d r e) (W : World) (A : Option Addr) (c : Nat) (hG : Glob W) (h : ScAt W A c s) :
 Calls Tryz.prog 29 #[.agg #[.string s.n, .int .i64 s.kd, .bool s.keep, .int .i64 s.al, .string s.data, .slice A s.rels.length c], .string d] W fun x w' => ∃ A' c', x = .returned (.tuple #[.agg #[.string r.n, .int .i64 r.kd, .bool r.keep, .int .i64 r.al, .string r.data, .slice A' r.rels.length c'], .int .i64 e]) ∧ ScAt w' A' c' r ∧ Below W.heap.size W w' := by
 obtain ⟨K, hK⟩ := hp
 refine (P.part_Put.calls K s.n s.kd s.keep s.al s.data A c s.rels d r.n r.kd r.keep r.al r.data r.rels e W hG h.reads h.le (hK K (Nat.le_refl _))).mono ?_
 rintro x w' ⟨v, rfl, hR, hb⟩
 obtain ⟨A', c', rfl, hl, hC⟩ := Kd.R_reads hR
 exact ⟨A', c', rfl, ⟨hC, hl⟩, hb⟩
theorem align_calls {s r : Sc} {m e : Int} (hp : AlignB s m r e) (W : World) (A : Option Addr) (c : Nat) (hG : Glob W) (h : ScAt W A c s) :
 Calls Tryz.prog 30 #[.agg #[.string s.n, .int .i64 s.kd, .bool s.keep, .int .i64 s.al, .string s.data, .slice A s.rels.length c], .int .i64 m] W fun x w' => ∃ A' c', x = .returned (.tuple #[.agg #[.string r.n, .int .i64 r.kd, .bool r.keep, .int .i64 r.al, .string r.data, .slice A' r.rels.length c'], .int .i64 e]) ∧ ScAt w' A' c' r ∧ Below W.heap.size W w' := by
 obtain ⟨K, hK⟩ := hp
 refine (P.part_Align.calls K s.n s.kd s.keep s.al s.data A c s.rels m r.n r.kd r.keep r.al r.data r.rels e W hG h.reads h.le (hK K (Nat.le_refl _))).mono ?_
 rintro x w' ⟨v, rfl, hR, hb⟩
 obtain ⟨A', c', rfl, hl, hC⟩ := Kd.R_reads hR
 exact ⟨A', c', rfl, ⟨hC, hl⟩, hb⟩
theorem same_calls {s r : Sc} {b : Bool} (hp : SameB s r b) (W : World) (A A' : Option Addr) (c c' : Nat) (h : ScAt W A c s) (h' : ScAt W A' c' r) :
 Calls Tryz.prog 26 #[.agg #[.string s.n, .int .i64 s.kd, .bool s.keep, .int .i64 s.al, .string s.data, .slice A s.rels.length c], .agg #[.string r.n, .int .i64 r.kd, .bool r.keep, .int .i64 r.al, .string r.data, .slice A' r.rels.length c']] W fun x w' => x = .returned (.bool b) ∧ Below W.heap.size W w' := by
 obtain ⟨K, hK⟩ := hp
 exact P.cleatref16_Same.calls K s.n s.kd s.keep s.al s.data A c s.rels r.n r.kd r.keep r.al r.data A' c' r.rels b W h.reads h.le h'.reads h'.le (hK K (Nat.le_refl _))
theorem grown_calls (W : World) (hG : Glob W) : Calls Tryz.prog 25 #[] W fun x w' => x = .returned (.bool true) ∧ Below W.heap.size W w' := by
 obtain ⟨K, hK⟩ := grown_ev
 exact P.cleatlaw16_grown.calls K true W hG (hK K (Nat.le_refl _))
theorem big_calls (s : Sc) (W : World) (A : Option Addr) (c : Nat) (h : ScAt W A c s) : ∃ b, Calls Tryz.prog 28 #[.agg #[.string s.n, .int .i64 s.kd, .bool s.keep, .int .i64 s.al, .string s.data, .slice A s.rels.length c]] W (fun x w' => x = .returned (.bool b) ∧ Below W.heap.size W w') ∧ (b = false → Small s) := by
 by_cases c1 : (s.data.size : Int) > 5000
 ·exact ⟨true, P.cleatref16_Big.calls s.n s.kd s.keep s.al s.data A c s.rels true W h.reads h.le (by unfold P.cleatref16_Big.f; rw [if_pos c1]), fun h => by cases h⟩
 ·by_cases c2 : (s.rels.length : Int) > 80
  ·exact ⟨true, P.cleatref16_Big.calls s.n s.kd s.keep s.al s.data A c s.rels true W h.reads h.le (by unfold P.cleatref16_Big.f; rw [if_neg c1, if_pos c2]), fun h => by cases h⟩
  ·exact ⟨_, P.cleatref16_Big.calls s.n s.kd s.keep s.al s.data A c s.rels _ W h.reads h.le (by unfold P.cleatref16_Big.f; rw [if_neg c1, if_neg c2]), fun _ => ⟨by omega, by omega⟩⟩
set_option maxHeartbeats 8000000 in
set_option maxRecDepth 100000 in
theorem partTwice_any (s : Sc) (x y : ByteArray) (n m : Int) (w : World) (A : Option Addr) (c : Nat) (hG : Glob w) (h : ScAt w A c s) (hx : x.size ≤ 140737488351232) (hy : y.size ≤ 140737488351232) :
 Calls Tryz.prog 8 #[.agg #[.string s.n, .int .i64 s.kd, .bool s.keep, .int .i64 s.al, .string s.data, .slice A s.rels.length c], .string x, .string y, .int .i64 n, .int .i64 m] w fun e w' => e = .returned (.bool true) ∧ Below w.heap.size w w' := by
 have h0 : ScAt (w.alloc (.cells #[.string s.n, .int .i64 s.kd, .bool s.keep, .int .i64 s.al, .string s.data, .slice A s.rels.length c] 44)) A c s := h.below (below_alloc (Below.refl _ _) _)
 obtain ⟨bb, hbig, hsm⟩ := big_calls s (w.alloc (.cells #[.string s.n, .int .i64 s.kd, .bool s.keep, .int .i64 s.al, .string s.data, .slice A s.rels.length c] 44)) A c h0
 have HBig := Aside0.mk hbig
 have HB0 := Aside0.mk (below_alloc (Below.refl w.heap.size w) (.cells #[.string s.n, .int .i64 s.kd, .bool s.keep, .int .i64 s.al, .string s.data, .slice A s.rels.length c] 44))
 have K0 := Aside0.mk (blk_new w (.cells #[.string s.n, .int .i64 s.kd, .bool s.keep, .int .i64 s.al, .string s.data, .slice A s.rels.length c] 44))
 have H0 := Aside0.mk h0
 have HG := Aside0.mk hG
 clear hbig h0 h hG
 cases bb with
 | true =>
  go_enter Tryz.func8, Tryz.ntmps8
  go_wp2_with (go_at_call 28; (with_reducible refine HBig.out.mono ?_); rintro e w1 ⟨rfl, hb⟩; have HB := Aside0.mk (below_step HB0.out hb); clear hb)
  go_ret
  exact ⟨rfl, HB.out⟩
 | false =>
  have hs := hsm rfl
  clear hsm
  by_cases hxy : (x.size : Int) + y.size > 5000
  ·go_enter Tryz.func8, Tryz.ntmps8
   go_wp2_with (go_at_call 28; (with_reducible refine HBig.out.mono ?_); rintro e w1 ⟨rfl, hb⟩; have HB := Aside0.mk (below_step HB0.out hb); clear hb)
   go_ret
   exact ⟨rfl, HB.out⟩
  ·obtain ⟨a, ea, b, eb, c3, ec, ha, hb_, hc3, hsa, hres⟩ := put_twice s hs x y (by omega)
   obtain ⟨d, ed, hd, hsd, hal⟩ := align_again s hs n
   rcases hres with hA | hA
   ·obtain ⟨rfl, rfl, hsame⟩ := hA
    go_enter Tryz.func8, Tryz.ntmps8
    go_wp2_with fail
    (with_reducible refine HBig.out.mono ?_)
    rintro e w1 ⟨rfl, hb1⟩
    have HB := Aside0.mk (below_step HB0.out hb1)
    have Ks := Aside0.mk (blk_below K0.out hb1)
    have Hs := Aside0.mk (H0.out.below hb1)
    clear hb1 K0 H0 HB0 HBig
    have kk := Ks.out
    obtain ⟨z0s, z1s, z2s, z3s, z4s, z5s⟩ := cel6 kk
    clear kk
    go_wp2_with fail
    clear z0s z1s z2s z3s z4s z5s
    (with_reducible refine (put_calls ha _ A c (HG.out.below HB.out) Hs.out).mono ?_)
    rintro e w2 ⟨Aa, ca, rfl, hr, hb⟩
    have HBn := Aside0.mk (below_step HB.out hb)
    have Ksn := Aside0.mk (blk_below Ks.out hb)
    have Hsn := Aside0.mk (Hs.out.below hb)
    have Ha := Aside0.mk hr
    clear HB hb Ks Hs hr
    have HB := HBn
    have Ks := Ksn
    have Hs := Hsn
    clear HBn Ksn Hsn
    go_wp2_with fail
    have HBn := Aside0.mk (HB.out.alloc HB.out.size (.cells #[.string a.n, .int .i64 a.kd, .bool a.keep, .int .i64 a.al, .string a.data, .slice Aa a.rels.length ca] 44))
    have Ksn := Aside0.mk (blk_alloc Ks.out (.cells #[.string a.n, .int .i64 a.kd, .bool a.keep, .int .i64 a.al, .string a.data, .slice Aa a.rels.length ca] 44))
    have Hsn := Aside0.mk (Hs.out.below (below_alloc (Below.refl _ _) (.cells #[.string a.n, .int .i64 a.kd, .bool a.keep, .int .i64 a.al, .string a.data, .slice Aa a.rels.length ca] 44)))
    have Kan := Aside0.mk (blk_new w2 (.cells #[.string a.n, .int .i64 a.kd, .bool a.keep, .int .i64 a.al, .string a.data, .slice Aa a.rels.length ca] 44))
    have Han := Aside0.mk (Ha.out.below (below_alloc (Below.refl _ _) (.cells #[.string a.n, .int .i64 a.kd, .bool a.keep, .int .i64 a.al, .string a.data, .slice Aa a.rels.length ca] 44)))
    clear HB Ks Hs Ha
    have HB := HBn
    have Ks := Ksn
    have Hs := Hsn
    have Ka := Kan
    have Ha := Han
    clear HBn Ksn Hsn Kan Han
    (with_reducible refine (put_calls hb_ _ Aa ca (HG.out.below HB.out) Ha.out).mono ?_)
    rintro e w3 ⟨Ab, cb, rfl, hr, hb⟩
    have HBn := Aside0.mk (below_step HB.out hb)
    have Ksn := Aside0.mk (blk_below Ks.out hb)
    have Hsn := Aside0.mk (Hs.out.below hb)
    have Kan := Aside0.mk (blk_below Ka.out hb)
    have Han := Aside0.mk (Ha.out.below hb)
    have Hb := Aside0.mk hr
    clear HB hb Ks Hs Ka Ha hr
    have HB := HBn
    have Ks := Ksn
    have Hs := Hsn
    have Ka := Kan
    have Ha := Han
    clear HBn Ksn Hsn Kan Han
    have kk := blk_alloc Ks.out (.cells #[.string b.n, .int .i64 b.kd, .bool b.keep, .int .i64 b.al, .string b.data, .slice Ab b.rels.length cb] 44)
    obtain ⟨z0s, z1s, z2s, z3s, z4s, z5s⟩ := cel6 kk
    clear kk
    go_wp2_with fail
    clear z0s z1s z2s z3s z4s z5s
    have HBn := Aside0.mk (HB.out.alloc HB.out.size (.cells #[.string b.n, .int .i64 b.kd, .bool b.keep, .int .i64 b.al, .string b.data, .slice Ab b.rels.length cb] 44))
    have Ksn := Aside0.mk (blk_alloc Ks.out (.cells #[.string b.n, .int .i64 b.kd, .bool b.keep, .int .i64 b.al, .string b.data, .slice Ab b.rels.length cb] 44))
    have Hsn := Aside0.mk (Hs.out.below (below_alloc (Below.refl _ _) (.cells #[.string b.n, .int .i64 b.kd, .bool b.keep, .int .i64 b.al, .string b.data, .slice Ab b.rels.length cb] 44)))
    have Kan := Aside0.mk (blk_alloc Ka.out (.cells #[.string b.n, .int .i64 b.kd, .bool b.keep, .int .i64 b.al, .string b.data, .slice Ab b.rels.length cb] 44))
    have Han := Aside0.mk (Ha.out.below (below_alloc (Below.refl _ _) (.cells #[.string b.n, .int .i64 b.kd, .bool b.keep, .int .i64 b.al, .string b.data, .slice Ab b.rels.length cb] 44)))
    have Kbn := Aside0.mk (blk_new w3 (.cells #[.string b.n, .int .i64 b.kd, .bool b.keep, .int .i64 b.al, .string b.data, .slice Ab b.rels.length cb] 44))
    have Hbn := Aside0.mk (Hb.out.below (below_alloc (Below.refl _ _) (.cells #[.string b.n, .int .i64 b.kd, .bool b.keep, .int .i64 b.al, .string b.data, .slice Ab b.rels.length cb] 44)))
    clear HB Ks Hs Ka Ha Hb
    have HB := HBn
    have Ks := Ksn
    have Hs := Hsn
    have Ka := Kan
    have Ha := Han
    have Kb := Kbn
    have Hb := Hbn
    clear HBn Ksn Hsn Kan Han Kbn Hbn
    (with_reducible refine (put_calls hc3 _ A c (HG.out.below HB.out) Hs.out).mono ?_)
    rintro e w4 ⟨Ac, cc, rfl, hr, hb⟩
    have HBn := Aside0.mk (below_step HB.out hb)
    have Ksn := Aside0.mk (blk_below Ks.out hb)
    have Hsn := Aside0.mk (Hs.out.below hb)
    have Kan := Aside0.mk (blk_below Ka.out hb)
    have Han := Aside0.mk (Ha.out.below hb)
    have Kbn := Aside0.mk (blk_below Kb.out hb)
    have Hbn := Aside0.mk (Hb.out.below hb)
    have Hc3 := Aside0.mk hr
    clear HB hb Ks Hs Ka Ha Kb Hb hr
    have HB := HBn
    have Ks := Ksn
    have Hs := Hsn
    have Ka := Kan
    have Ha := Han
    have Kb := Kbn
    have Hb := Hbn
    clear HBn Ksn Hsn Kan Han Kbn Hbn
    have kk := blk_alloc Kb.out (.cells #[.string c3.n, .int .i64 c3.kd, .bool c3.keep, .int .i64 c3.al, .string c3.data, .slice Ac c3.rels.length cc] 44)
    obtain ⟨z0b, z1b, z2b, z3b, z4b, z5b⟩ := cel6 kk
    clear kk
    go_wp2_with fail
    clear z0b z1b z2b z3b z4b z5b
    have HBn := Aside0.mk (HB.out.alloc HB.out.size (.cells #[.string c3.n, .int .i64 c3.kd, .bool c3.keep, .int .i64 c3.al, .string c3.data, .slice Ac c3.rels.length cc] 44))
    have Ksn := Aside0.mk (blk_alloc Ks.out (.cells #[.string c3.n, .int .i64 c3.kd, .bool c3.keep, .int .i64 c3.al, .string c3.data, .slice Ac c3.rels.length cc] 44))
    have Hsn := Aside0.mk (Hs.out.below (below_alloc (Below.refl _ _) (.cells #[.string c3.n, .int .i64 c3.kd, .bool c3.keep, .int .i64 c3.al, .string c3.data, .slice Ac c3.rels.length cc] 44)))
    have Kan := Aside0.mk (blk_alloc Ka.out (.cells #[.string c3.n, .int .i64 c3.kd, .bool c3.keep, .int .i64 c3.al, .string c3.data, .slice Ac c3.rels.length cc] 44))
    have Han := Aside0.mk (Ha.out.below (below_alloc (Below.refl _ _) (.cells #[.string c3.n, .int .i64 c3.kd, .bool c3.keep, .int .i64 c3.al, .string c3.data, .slice Ac c3.rels.length cc] 44)))
    have Kbn := Aside0.mk (blk_alloc Kb.out (.cells #[.string c3.n, .int .i64 c3.kd, .bool c3.keep, .int .i64 c3.al, .string c3.data, .slice Ac c3.rels.length cc] 44))
    have Hbn := Aside0.mk (Hb.out.below (below_alloc (Below.refl _ _) (.cells #[.string c3.n, .int .i64 c3.kd, .bool c3.keep, .int .i64 c3.al, .string c3.data, .slice Ac c3.rels.length cc] 44)))
    have Kc3n := Aside0.mk (blk_new w4 (.cells #[.string c3.n, .int .i64 c3.kd, .bool c3.keep, .int .i64 c3.al, .string c3.data, .slice Ac c3.rels.length cc] 44))
    have Hc3n := Aside0.mk (Hc3.out.below (below_alloc (Below.refl _ _) (.cells #[.string c3.n, .int .i64 c3.kd, .bool c3.keep, .int .i64 c3.al, .string c3.data, .slice Ac c3.rels.length cc] 44)))
    clear HB Ks Hs Ka Ha Kb Hb Hc3
    have HB := HBn
    have Ks := Ksn
    have Hs := Hsn
    have Ka := Kan
    have Ha := Han
    have Kb := Kbn
    have Hb := Hbn
    have Kc3 := Kc3n
    have Hc3 := Hc3n
    clear HBn Ksn Hsn Kan Han Kbn Hbn Kc3n Hc3n
    (with_reducible refine (same_calls hsame _ Ab Ac cb cc Hb.out Hc3.out).mono ?_)
    rintro e w5 ⟨rfl, hb⟩
    have HBn := Aside0.mk (below_step HB.out hb)
    have Ksn := Aside0.mk (blk_below Ks.out hb)
    have Hsn := Aside0.mk (Hs.out.below hb)
    have Kan := Aside0.mk (blk_below Ka.out hb)
    have Han := Aside0.mk (Ha.out.below hb)
    have Kbn := Aside0.mk (blk_below Kb.out hb)
    have Hbn := Aside0.mk (Hb.out.below hb)
    have Kc3n := Aside0.mk (blk_below Kc3.out hb)
    have Hc3n := Aside0.mk (Hc3.out.below hb)
    clear HB hb Ks Hs Ka Ha Kb Hb Kc3 Hc3
    have HB := HBn
    have Ks := Ksn
    have Hs := Hsn
    have Ka := Kan
    have Ha := Han
    have Kb := Kbn
    have Hb := Hbn
    have Kc3 := Kc3n
    have Hc3 := Hc3n
    clear HBn Ksn Hsn Kan Han Kbn Hbn Kc3n Hc3n
    have kk := Ks.out
    obtain ⟨z0s, z1s, z2s, z3s, z4s, z5s⟩ := cel6 kk
    clear kk
    go_wp2_with fail
    clear z0s z1s z2s z3s z4s z5s
    (with_reducible refine (align_calls hd _ A c (HG.out.below HB.out) Hs.out).mono ?_)
    rintro e w6 ⟨Ad, cd, rfl, hr, hb⟩
    have HBn := Aside0.mk (below_step HB.out hb)
    have Ksn := Aside0.mk (blk_below Ks.out hb)
    have Hsn := Aside0.mk (Hs.out.below hb)
    have Kan := Aside0.mk (blk_below Ka.out hb)
    have Han := Aside0.mk (Ha.out.below hb)
    have Kbn := Aside0.mk (blk_below Kb.out hb)
    have Hbn := Aside0.mk (Hb.out.below hb)
    have Kc3n := Aside0.mk (blk_below Kc3.out hb)
    have Hc3n := Aside0.mk (Hc3.out.below hb)
    have Hd := Aside0.mk hr
    clear HB hb Ks Hs Ka Ha Kb Hb Kc3 Hc3 hr
    have HB := HBn
    have Ks := Ksn
    have Hs := Hsn
    have Ka := Kan
    have Ha := Han
    have Kb := Kbn
    have Hb := Hbn
    have Kc3 := Kc3n
    have Hc3 := Hc3n
    clear HBn Ksn Hsn Kan Han Kbn Hbn Kc3n Hc3n
    by_cases hfull : ed = 0 ∧ 0 ≤ m ∧ m ≤ n
    ·obtain ⟨rfl, m0, m1⟩ := hfull
     have hn2 := hal.resolve_left (by simp)
     obtain ⟨i, hi, hsi⟩ : ∃ i, AlignB d n i 0 ∧ SameB i d true := ⟨d, hn2.2 n (by omega) (Int.le_refl _), same_refl d hsd.2⟩
     obtain ⟨k, hk, hsk⟩ : ∃ k, AlignB d m k 0 ∧ SameB k d true := ⟨d, hn2.2 m m0 m1, same_refl d hsd.2⟩
     clear hal hn2
     go_wp2_with fail
     have HBn := Aside0.mk (HB.out.alloc HB.out.size (.cells #[.string d.n, .int .i64 d.kd, .bool d.keep, .int .i64 d.al, .string d.data, .slice Ad d.rels.length cd] 44))
     have Ksn := Aside0.mk (blk_alloc Ks.out (.cells #[.string d.n, .int .i64 d.kd, .bool d.keep, .int .i64 d.al, .string d.data, .slice Ad d.rels.length cd] 44))
     have Hsn := Aside0.mk (Hs.out.below (below_alloc (Below.refl _ _) (.cells #[.string d.n, .int .i64 d.kd, .bool d.keep, .int .i64 d.al, .string d.data, .slice Ad d.rels.length cd] 44)))
     have Kan := Aside0.mk (blk_alloc Ka.out (.cells #[.string d.n, .int .i64 d.kd, .bool d.keep, .int .i64 d.al, .string d.data, .slice Ad d.rels.length cd] 44))
     have Han := Aside0.mk (Ha.out.below (below_alloc (Below.refl _ _) (.cells #[.string d.n, .int .i64 d.kd, .bool d.keep, .int .i64 d.al, .string d.data, .slice Ad d.rels.length cd] 44)))
     have Kbn := Aside0.mk (blk_alloc Kb.out (.cells #[.string d.n, .int .i64 d.kd, .bool d.keep, .int .i64 d.al, .string d.data, .slice Ad d.rels.length cd] 44))
     have Hbn := Aside0.mk (Hb.out.below (below_alloc (Below.refl _ _) (.cells #[.string d.n, .int .i64 d.kd, .bool d.keep, .int .i64 d.al, .string d.data, .slice Ad d.rels.length cd] 44)))
     have Kc3n := Aside0.mk (blk_alloc Kc3.out (.cells #[.string d.n, .int .i64 d.kd, .bool d.keep, .int .i64 d.al, .string d.data, .slice Ad d.rels.length cd] 44))
     have Hc3n := Aside0.mk (Hc3.out.below (below_alloc (Below.refl _ _) (.cells #[.string d.n, .int .i64 d.kd, .bool d.keep, .int .i64 d.al, .string d.data, .slice Ad d.rels.length cd] 44)))
     have Kdn := Aside0.mk (blk_new w6 (.cells #[.string d.n, .int .i64 d.kd, .bool d.keep, .int .i64 d.al, .string d.data, .slice Ad d.rels.length cd] 44))
     have Hdn := Aside0.mk (Hd.out.below (below_alloc (Below.refl _ _) (.cells #[.string d.n, .int .i64 d.kd, .bool d.keep, .int .i64 d.al, .string d.data, .slice Ad d.rels.length cd] 44)))
     clear HB Ks Hs Ka Ha Kb Hb Kc3 Hc3 Hd
     have HB := HBn
     have Ks := Ksn
     have Hs := Hsn
     have Ka := Kan
     have Ha := Han
     have Kb := Kbn
     have Hb := Hbn
     have Kc3 := Kc3n
     have Hc3 := Hc3n
     have Kd := Kdn
     have Hd := Hdn
     clear HBn Ksn Hsn Kan Han Kbn Hbn Kc3n Hc3n Kdn Hdn
     (with_reducible refine (align_calls hi _ Ad cd (HG.out.below HB.out) Hd.out).mono ?_)
     rintro e w7 ⟨Ai, ci, rfl, hr, hb⟩
     have HBn := Aside0.mk (below_step HB.out hb)
     have Ksn := Aside0.mk (blk_below Ks.out hb)
     have Hsn := Aside0.mk (Hs.out.below hb)
     have Kan := Aside0.mk (blk_below Ka.out hb)
     have Han := Aside0.mk (Ha.out.below hb)
     have Kbn := Aside0.mk (blk_below Kb.out hb)
     have Hbn := Aside0.mk (Hb.out.below hb)
     have Kc3n := Aside0.mk (blk_below Kc3.out hb)
     have Hc3n := Aside0.mk (Hc3.out.below hb)
     have Kdn := Aside0.mk (blk_below Kd.out hb)
     have Hdn := Aside0.mk (Hd.out.below hb)
     have Hi := Aside0.mk hr
     clear HB hb Ks Hs Ka Ha Kb Hb Kc3 Hc3 Kd Hd hr
     have HB := HBn
     have Ks := Ksn
     have Hs := Hsn
     have Ka := Kan
     have Ha := Han
     have Kb := Kbn
     have Hb := Hbn
     have Kc3 := Kc3n
     have Hc3 := Hc3n
     have Kd := Kdn
     have Hd := Hdn
     clear HBn Ksn Hsn Kan Han Kbn Hbn Kc3n Hc3n Kdn Hdn
     have kk := blk_alloc Kd.out (.cells #[.string i.n, .int .i64 i.kd, .bool i.keep, .int .i64 i.al, .string i.data, .slice Ai i.rels.length ci] 44)
     obtain ⟨z0d, z1d, z2d, z3d, z4d, z5d⟩ := cel6 kk
     clear kk
     go_wp2_with fail
     clear z0d z1d z2d z3d z4d z5d
     have HBn := Aside0.mk (HB.out.alloc HB.out.size (.cells #[.string i.n, .int .i64 i.kd, .bool i.keep, .int .i64 i.al, .string i.data, .slice Ai i.rels.length ci] 44))
     have Ksn := Aside0.mk (blk_alloc Ks.out (.cells #[.string i.n, .int .i64 i.kd, .bool i.keep, .int .i64 i.al, .string i.data, .slice Ai i.rels.length ci] 44))
     have Hsn := Aside0.mk (Hs.out.below (below_alloc (Below.refl _ _) (.cells #[.string i.n, .int .i64 i.kd, .bool i.keep, .int .i64 i.al, .string i.data, .slice Ai i.rels.length ci] 44)))
     have Kan := Aside0.mk (blk_alloc Ka.out (.cells #[.string i.n, .int .i64 i.kd, .bool i.keep, .int .i64 i.al, .string i.data, .slice Ai i.rels.length ci] 44))
     have Han := Aside0.mk (Ha.out.below (below_alloc (Below.refl _ _) (.cells #[.string i.n, .int .i64 i.kd, .bool i.keep, .int .i64 i.al, .string i.data, .slice Ai i.rels.length ci] 44)))
     have Kbn := Aside0.mk (blk_alloc Kb.out (.cells #[.string i.n, .int .i64 i.kd, .bool i.keep, .int .i64 i.al, .string i.data, .slice Ai i.rels.length ci] 44))
     have Hbn := Aside0.mk (Hb.out.below (below_alloc (Below.refl _ _) (.cells #[.string i.n, .int .i64 i.kd, .bool i.keep, .int .i64 i.al, .string i.data, .slice Ai i.rels.length ci] 44)))
     have Kc3n := Aside0.mk (blk_alloc Kc3.out (.cells #[.string i.n, .int .i64 i.kd, .bool i.keep, .int .i64 i.al, .string i.data, .slice Ai i.rels.length ci] 44))
     have Hc3n := Aside0.mk (Hc3.out.below (below_alloc (Below.refl _ _) (.cells #[.string i.n, .int .i64 i.kd, .bool i.keep, .int .i64 i.al, .string i.data, .slice Ai i.rels.length ci] 44)))
     have Kdn := Aside0.mk (blk_alloc Kd.out (.cells #[.string i.n, .int .i64 i.kd, .bool i.keep, .int .i64 i.al, .string i.data, .slice Ai i.rels.length ci] 44))
     have Hdn := Aside0.mk (Hd.out.below (below_alloc (Below.refl _ _) (.cells #[.string i.n, .int .i64 i.kd, .bool i.keep, .int .i64 i.al, .string i.data, .slice Ai i.rels.length ci] 44)))
     have Kin := Aside0.mk (blk_new w7 (.cells #[.string i.n, .int .i64 i.kd, .bool i.keep, .int .i64 i.al, .string i.data, .slice Ai i.rels.length ci] 44))
     have Hin := Aside0.mk (Hi.out.below (below_alloc (Below.refl _ _) (.cells #[.string i.n, .int .i64 i.kd, .bool i.keep, .int .i64 i.al, .string i.data, .slice Ai i.rels.length ci] 44)))
     clear HB Ks Hs Ka Ha Kb Hb Kc3 Hc3 Kd Hd Hi
     have HB := HBn
     have Ks := Ksn
     have Hs := Hsn
     have Ka := Kan
     have Ha := Han
     have Kb := Kbn
     have Hb := Hbn
     have Kc3 := Kc3n
     have Hc3 := Hc3n
     have Kd := Kdn
     have Hd := Hdn
     have Ki := Kin
     have Hi := Hin
     clear HBn Ksn Hsn Kan Han Kbn Hbn Kc3n Hc3n Kdn Hdn Kin Hin
     (with_reducible refine (align_calls hk _ Ad cd (HG.out.below HB.out) Hd.out).mono ?_)
     rintro e w8 ⟨Ak, ck, rfl, hr, hb⟩
     have HBn := Aside0.mk (below_step HB.out hb)
     have Ksn := Aside0.mk (blk_below Ks.out hb)
     have Hsn := Aside0.mk (Hs.out.below hb)
     have Kan := Aside0.mk (blk_below Ka.out hb)
     have Han := Aside0.mk (Ha.out.below hb)
     have Kbn := Aside0.mk (blk_below Kb.out hb)
     have Hbn := Aside0.mk (Hb.out.below hb)
     have Kc3n := Aside0.mk (blk_below Kc3.out hb)
     have Hc3n := Aside0.mk (Hc3.out.below hb)
     have Kdn := Aside0.mk (blk_below Kd.out hb)
     have Hdn := Aside0.mk (Hd.out.below hb)
     have Kin := Aside0.mk (blk_below Ki.out hb)
     have Hin := Aside0.mk (Hi.out.below hb)
     have Hk := Aside0.mk hr
     clear HB hb Ks Hs Ka Ha Kb Hb Kc3 Hc3 Kd Hd Ki Hi hr
     have HB := HBn
     have Ks := Ksn
     have Hs := Hsn
     have Ka := Kan
     have Ha := Han
     have Kb := Kbn
     have Hb := Hbn
     have Kc3 := Kc3n
     have Hc3 := Hc3n
     have Kd := Kdn
     have Hd := Hdn
     have Ki := Kin
     have Hi := Hin
     clear HBn Ksn Hsn Kan Han Kbn Hbn Kc3n Hc3n Kdn Hdn Kin Hin
     go_wp2_with fail
     have HBn := Aside0.mk (HB.out.alloc HB.out.size (.cells #[.string k.n, .int .i64 k.kd, .bool k.keep, .int .i64 k.al, .string k.data, .slice Ak k.rels.length ck] 44))
     have Ksn := Aside0.mk (blk_alloc Ks.out (.cells #[.string k.n, .int .i64 k.kd, .bool k.keep, .int .i64 k.al, .string k.data, .slice Ak k.rels.length ck] 44))
     have Hsn := Aside0.mk (Hs.out.below (below_alloc (Below.refl _ _) (.cells #[.string k.n, .int .i64 k.kd, .bool k.keep, .int .i64 k.al, .string k.data, .slice Ak k.rels.length ck] 44)))
     have Kan := Aside0.mk (blk_alloc Ka.out (.cells #[.string k.n, .int .i64 k.kd, .bool k.keep, .int .i64 k.al, .string k.data, .slice Ak k.rels.length ck] 44))
     have Han := Aside0.mk (Ha.out.below (below_alloc (Below.refl _ _) (.cells #[.string k.n, .int .i64 k.kd, .bool k.keep, .int .i64 k.al, .string k.data, .slice Ak k.rels.length ck] 44)))
     have Kbn := Aside0.mk (blk_alloc Kb.out (.cells #[.string k.n, .int .i64 k.kd, .bool k.keep, .int .i64 k.al, .string k.data, .slice Ak k.rels.length ck] 44))
     have Hbn := Aside0.mk (Hb.out.below (below_alloc (Below.refl _ _) (.cells #[.string k.n, .int .i64 k.kd, .bool k.keep, .int .i64 k.al, .string k.data, .slice Ak k.rels.length ck] 44)))
     have Kc3n := Aside0.mk (blk_alloc Kc3.out (.cells #[.string k.n, .int .i64 k.kd, .bool k.keep, .int .i64 k.al, .string k.data, .slice Ak k.rels.length ck] 44))
     have Hc3n := Aside0.mk (Hc3.out.below (below_alloc (Below.refl _ _) (.cells #[.string k.n, .int .i64 k.kd, .bool k.keep, .int .i64 k.al, .string k.data, .slice Ak k.rels.length ck] 44)))
     have Kdn := Aside0.mk (blk_alloc Kd.out (.cells #[.string k.n, .int .i64 k.kd, .bool k.keep, .int .i64 k.al, .string k.data, .slice Ak k.rels.length ck] 44))
     have Hdn := Aside0.mk (Hd.out.below (below_alloc (Below.refl _ _) (.cells #[.string k.n, .int .i64 k.kd, .bool k.keep, .int .i64 k.al, .string k.data, .slice Ak k.rels.length ck] 44)))
     have Kin := Aside0.mk (blk_alloc Ki.out (.cells #[.string k.n, .int .i64 k.kd, .bool k.keep, .int .i64 k.al, .string k.data, .slice Ak k.rels.length ck] 44))
     have Hin := Aside0.mk (Hi.out.below (below_alloc (Below.refl _ _) (.cells #[.string k.n, .int .i64 k.kd, .bool k.keep, .int .i64 k.al, .string k.data, .slice Ak k.rels.length ck] 44)))
     have Kkn := Aside0.mk (blk_new w8 (.cells #[.string k.n, .int .i64 k.kd, .bool k.keep, .int .i64 k.al, .string k.data, .slice Ak k.rels.length ck] 44))
     have Hkn := Aside0.mk (Hk.out.below (below_alloc (Below.refl _ _) (.cells #[.string k.n, .int .i64 k.kd, .bool k.keep, .int .i64 k.al, .string k.data, .slice Ak k.rels.length ck] 44)))
     clear HB Ks Hs Ka Ha Kb Hb Kc3 Hc3 Kd Hd Ki Hi Hk
     have HB := HBn
     have Ks := Ksn
     have Hs := Hsn
     have Ka := Kan
     have Ha := Han
     have Kb := Kbn
     have Hb := Hbn
     have Kc3 := Kc3n
     have Hc3 := Hc3n
     have Kd := Kdn
     have Hd := Hdn
     have Ki := Kin
     have Hi := Hin
     have Kk := Kkn
     have Hk := Hkn
     clear HBn Ksn Hsn Kan Han Kbn Hbn Kc3n Hc3n Kdn Hdn Kin Hin Kkn Hkn
     (with_reducible refine (grown_calls _ (HG.out.below HB.out)).mono ?_)
     rintro e w9 ⟨rfl, hb⟩
     have HBn := Aside0.mk (below_step HB.out hb)
     have Ksn := Aside0.mk (blk_below Ks.out hb)
     have Hsn := Aside0.mk (Hs.out.below hb)
     have Kan := Aside0.mk (blk_below Ka.out hb)
     have Han := Aside0.mk (Ha.out.below hb)
     have Kbn := Aside0.mk (blk_below Kb.out hb)
     have Hbn := Aside0.mk (Hb.out.below hb)
     have Kc3n := Aside0.mk (blk_below Kc3.out hb)
     have Hc3n := Aside0.mk (Hc3.out.below hb)
     have Kdn := Aside0.mk (blk_below Kd.out hb)
     have Hdn := Aside0.mk (Hd.out.below hb)
     have Kin := Aside0.mk (blk_below Ki.out hb)
     have Hin := Aside0.mk (Hi.out.below hb)
     have Kkn := Aside0.mk (blk_below Kk.out hb)
     have Hkn := Aside0.mk (Hk.out.below hb)
     clear HB hb Ks Hs Ka Ha Kb Hb Kc3 Hc3 Kd Hd Ki Hi Kk Hk
     have HB := HBn
     have Ks := Ksn
     have Hs := Hsn
     have Ka := Kan
     have Ha := Han
     have Kb := Kbn
     have Hb := Hbn
     have Kc3 := Kc3n
     have Hc3 := Hc3n
     have Kd := Kdn
     have Hd := Hdn
     have Ki := Kin
     have Hi := Hin
     have Kk := Kkn
     have Hk := Hkn
     clear HBn Ksn Hsn Kan Han Kbn Hbn Kc3n Hc3n Kdn Hdn Kin Hin Kkn Hkn
     have kk := Ki.out
     obtain ⟨z0i, z1i, z2i, z3i, z4i, z5i⟩ := cel6 kk
     clear kk
     have kk := Kd.out
     obtain ⟨z0d, z1d, z2d, z3d, z4d, z5d⟩ := cel6 kk
     clear kk
     go_wp2_with fail
     clear z0i z1i z2i z3i z4i z5i
     clear z0d z1d z2d z3d z4d z5d
     (with_reducible refine (same_calls hsi _ Ai Ad ci cd Hi.out Hd.out).mono ?_)
     rintro e w10 ⟨rfl, hb⟩
     have HBn := Aside0.mk (below_step HB.out hb)
     have Ksn := Aside0.mk (blk_below Ks.out hb)
     have Hsn := Aside0.mk (Hs.out.below hb)
     have Kan := Aside0.mk (blk_below Ka.out hb)
     have Han := Aside0.mk (Ha.out.below hb)
     have Kbn := Aside0.mk (blk_below Kb.out hb)
     have Hbn := Aside0.mk (Hb.out.below hb)
     have Kc3n := Aside0.mk (blk_below Kc3.out hb)
     have Hc3n := Aside0.mk (Hc3.out.below hb)
     have Kdn := Aside0.mk (blk_below Kd.out hb)
     have Hdn := Aside0.mk (Hd.out.below hb)
     have Kin := Aside0.mk (blk_below Ki.out hb)
     have Hin := Aside0.mk (Hi.out.below hb)
     have Kkn := Aside0.mk (blk_below Kk.out hb)
     have Hkn := Aside0.mk (Hk.out.below hb)
     clear HB hb Ks Hs Ka Ha Kb Hb Kc3 Hc3 Kd Hd Ki Hi Kk Hk
     have HB := HBn
     have Ks := Ksn
     have Hs := Hsn
     have Ka := Kan
     have Ha := Han
     have Kb := Kbn
     have Hb := Hbn
     have Kc3 := Kc3n
     have Hc3 := Hc3n
     have Kd := Kdn
     have Hd := Hdn
     have Ki := Kin
     have Hi := Hin
     have Kk := Kkn
     have Hk := Hkn
     clear HBn Ksn Hsn Kan Han Kbn Hbn Kc3n Hc3n Kdn Hdn Kin Hin Kkn Hkn
     have kk := Kk.out
     obtain ⟨z0k, z1k, z2k, z3k, z4k, z5k⟩ := cel6 kk
     clear kk
     have kk := Kd.out
     obtain ⟨z0d, z1d, z2d, z3d, z4d, z5d⟩ := cel6 kk
     clear kk
     go_wp2_with fail
     clear z0k z1k z2k z3k z4k z5k
     clear z0d z1d z2d z3d z4d z5d
     (with_reducible refine (same_calls hsk _ Ak Ad ck cd Hk.out Hd.out).mono ?_)
     rintro e w11 ⟨rfl, hb⟩
     have HBn := Aside0.mk (below_step HB.out hb)
     have Ksn := Aside0.mk (blk_below Ks.out hb)
     have Hsn := Aside0.mk (Hs.out.below hb)
     have Kan := Aside0.mk (blk_below Ka.out hb)
     have Han := Aside0.mk (Ha.out.below hb)
     have Kbn := Aside0.mk (blk_below Kb.out hb)
     have Hbn := Aside0.mk (Hb.out.below hb)
     have Kc3n := Aside0.mk (blk_below Kc3.out hb)
     have Hc3n := Aside0.mk (Hc3.out.below hb)
     have Kdn := Aside0.mk (blk_below Kd.out hb)
     have Hdn := Aside0.mk (Hd.out.below hb)
     have Kin := Aside0.mk (blk_below Ki.out hb)
     have Hin := Aside0.mk (Hi.out.below hb)
     have Kkn := Aside0.mk (blk_below Kk.out hb)
     have Hkn := Aside0.mk (Hk.out.below hb)
     clear HB hb Ks Hs Ka Ha Kb Hb Kc3 Hc3 Kd Hd Ki Hi Kk Hk
     have HB := HBn
     have Ks := Ksn
     have Hs := Hsn
     have Ka := Kan
     have Ha := Han
     have Kb := Kbn
     have Hb := Hbn
     have Kc3 := Kc3n
     have Hc3 := Hc3n
     have Kd := Kdn
     have Hd := Hdn
     have Ki := Kin
     have Hi := Hin
     have Kk := Kkn
     have Hk := Hkn
     clear HBn Ksn Hsn Kan Han Kbn Hbn Kc3n Hc3n Kdn Hdn Kin Hin Kkn Hkn
     go_wp2
     go_ret
     exact ⟨rfl, HB.out⟩
    ·have hsh : ed ≠ 0 ∨ m < 0 ∨ n < m := by
      by_cases c1 : ed = 0
      ·by_cases c2 : 0 ≤ m
       ·by_cases c3 : m ≤ n
        ·exact absurd ⟨c1, c2, c3⟩ hfull
        ·exact .inr (.inr (by omega))
       ·exact .inr (.inl (by omega))
      ·exact .inl c1
     clear hfull hal
     have hsh2 : ((ed != 0) = true) ∨ ((ed != 0) = false ∧ m < 0) ∨ ((ed != 0) = false ∧ 0 ≤ m ∧ n < m) := by
      by_cases c1 : ed = 0
      ·subst c1
       rcases hsh with h | h | h
       ·exact absurd rfl h
       ·exact .inr (.inl ⟨rfl, h⟩)
       ·by_cases c2 : m < 0
        ·exact .inr (.inl ⟨rfl, c2⟩)
        ·exact .inr (.inr ⟨rfl, by omega, h⟩)
      ·exact .inl (bne_iff_ne.mpr c1)
     clear hsh
     rcases hsh2 with h1 | ⟨h1, h2⟩ | ⟨h1, h2, h3⟩
     all_goals
      have HBn := Aside0.mk (HB.out.alloc HB.out.size (.cells #[.string d.n, .int .i64 d.kd, .bool d.keep, .int .i64 d.al, .string d.data, .slice Ad d.rels.length cd] 44))
      go_wp2_with fail
      (with_reducible refine (grown_calls _ (HG.out.below HBn.out)).mono ?_)
      rintro e wz ⟨rfl, hb⟩
      have HZ := Aside0.mk (below_step HBn.out hb)
      clear hb
      go_wp2
      go_ret
      exact ⟨rfl, HZ.out⟩
   ·obtain ⟨hea, rfl⟩ := hA
    have hea2 : (ec == 0) = false := by simpa using hea
    go_enter Tryz.func8, Tryz.ntmps8
    go_wp2_with fail
    (with_reducible refine HBig.out.mono ?_)
    rintro e w1 ⟨rfl, hb1⟩
    have HB := Aside0.mk (below_step HB0.out hb1)
    have Ks := Aside0.mk (blk_below K0.out hb1)
    have Hs := Aside0.mk (H0.out.below hb1)
    clear hb1 K0 H0 HB0 HBig
    have kk := Ks.out
    obtain ⟨z0s, z1s, z2s, z3s, z4s, z5s⟩ := cel6 kk
    clear kk
    go_wp2_with fail
    clear z0s z1s z2s z3s z4s z5s
    (with_reducible refine (put_calls ha _ A c (HG.out.below HB.out) Hs.out).mono ?_)
    rintro e w2 ⟨Aa, ca, rfl, hr, hb⟩
    have HBn := Aside0.mk (below_step HB.out hb)
    have Ksn := Aside0.mk (blk_below Ks.out hb)
    have Hsn := Aside0.mk (Hs.out.below hb)
    have Ha := Aside0.mk hr
    clear HB hb Ks Hs hr
    have HB := HBn
    have Ks := Ksn
    have Hs := Hsn
    clear HBn Ksn Hsn
    go_wp2_with fail
    have HBn := Aside0.mk (HB.out.alloc HB.out.size (.cells #[.string a.n, .int .i64 a.kd, .bool a.keep, .int .i64 a.al, .string a.data, .slice Aa a.rels.length ca] 44))
    have Ksn := Aside0.mk (blk_alloc Ks.out (.cells #[.string a.n, .int .i64 a.kd, .bool a.keep, .int .i64 a.al, .string a.data, .slice Aa a.rels.length ca] 44))
    have Hsn := Aside0.mk (Hs.out.below (below_alloc (Below.refl _ _) (.cells #[.string a.n, .int .i64 a.kd, .bool a.keep, .int .i64 a.al, .string a.data, .slice Aa a.rels.length ca] 44)))
    have Kan := Aside0.mk (blk_new w2 (.cells #[.string a.n, .int .i64 a.kd, .bool a.keep, .int .i64 a.al, .string a.data, .slice Aa a.rels.length ca] 44))
    have Han := Aside0.mk (Ha.out.below (below_alloc (Below.refl _ _) (.cells #[.string a.n, .int .i64 a.kd, .bool a.keep, .int .i64 a.al, .string a.data, .slice Aa a.rels.length ca] 44)))
    clear HB Ks Hs Ha
    have HB := HBn
    have Ks := Ksn
    have Hs := Hsn
    have Ka := Kan
    have Ha := Han
    clear HBn Ksn Hsn Kan Han
    (with_reducible refine (put_calls hb_ _ Aa ca (HG.out.below HB.out) Ha.out).mono ?_)
    rintro e w3 ⟨Ab, cb, rfl, hr, hb⟩
    have HBn := Aside0.mk (below_step HB.out hb)
    have Ksn := Aside0.mk (blk_below Ks.out hb)
    have Hsn := Aside0.mk (Hs.out.below hb)
    have Kan := Aside0.mk (blk_below Ka.out hb)
    have Han := Aside0.mk (Ha.out.below hb)
    have Hb := Aside0.mk hr
    clear HB hb Ks Hs Ka Ha hr
    have HB := HBn
    have Ks := Ksn
    have Hs := Hsn
    have Ka := Kan
    have Ha := Han
    clear HBn Ksn Hsn Kan Han
    have kk := blk_alloc Ks.out (.cells #[.string b.n, .int .i64 b.kd, .bool b.keep, .int .i64 b.al, .string b.data, .slice Ab b.rels.length cb] 44)
    obtain ⟨z0s, z1s, z2s, z3s, z4s, z5s⟩ := cel6 kk
    clear kk
    go_wp2_with fail
    clear z0s z1s z2s z3s z4s z5s
    have HBn := Aside0.mk (HB.out.alloc HB.out.size (.cells #[.string b.n, .int .i64 b.kd, .bool b.keep, .int .i64 b.al, .string b.data, .slice Ab b.rels.length cb] 44))
    have Ksn := Aside0.mk (blk_alloc Ks.out (.cells #[.string b.n, .int .i64 b.kd, .bool b.keep, .int .i64 b.al, .string b.data, .slice Ab b.rels.length cb] 44))
    have Hsn := Aside0.mk (Hs.out.below (below_alloc (Below.refl _ _) (.cells #[.string b.n, .int .i64 b.kd, .bool b.keep, .int .i64 b.al, .string b.data, .slice Ab b.rels.length cb] 44)))
    have Kan := Aside0.mk (blk_alloc Ka.out (.cells #[.string b.n, .int .i64 b.kd, .bool b.keep, .int .i64 b.al, .string b.data, .slice Ab b.rels.length cb] 44))
    have Han := Aside0.mk (Ha.out.below (below_alloc (Below.refl _ _) (.cells #[.string b.n, .int .i64 b.kd, .bool b.keep, .int .i64 b.al, .string b.data, .slice Ab b.rels.length cb] 44)))
    have Kbn := Aside0.mk (blk_new w3 (.cells #[.string b.n, .int .i64 b.kd, .bool b.keep, .int .i64 b.al, .string b.data, .slice Ab b.rels.length cb] 44))
    have Hbn := Aside0.mk (Hb.out.below (below_alloc (Below.refl _ _) (.cells #[.string b.n, .int .i64 b.kd, .bool b.keep, .int .i64 b.al, .string b.data, .slice Ab b.rels.length cb] 44)))
    clear HB Ks Hs Ka Ha Hb
    have HB := HBn
    have Ks := Ksn
    have Hs := Hsn
    have Ka := Kan
    have Ha := Han
    have Kb := Kbn
    have Hb := Hbn
    clear HBn Ksn Hsn Kan Han Kbn Hbn
    (with_reducible refine (put_calls hc3 _ A c (HG.out.below HB.out) Hs.out).mono ?_)
    rintro e w4 ⟨Ac, cc, rfl, hr, hb⟩
    have HBn := Aside0.mk (below_step HB.out hb)
    have Ksn := Aside0.mk (blk_below Ks.out hb)
    have Hsn := Aside0.mk (Hs.out.below hb)
    have Kan := Aside0.mk (blk_below Ka.out hb)
    have Han := Aside0.mk (Ha.out.below hb)
    have Kbn := Aside0.mk (blk_below Kb.out hb)
    have Hbn := Aside0.mk (Hb.out.below hb)
    have Hc3 := Aside0.mk hr
    clear HB hb Ks Hs Ka Ha Kb Hb hr
    have HB := HBn
    have Ks := Ksn
    have Hs := Hsn
    have Ka := Kan
    have Ha := Han
    have Kb := Kbn
    have Hb := Hbn
    clear HBn Ksn Hsn Kan Han Kbn Hbn
    have kk := blk_alloc Ks.out (.cells #[.string c3.n, .int .i64 c3.kd, .bool c3.keep, .int .i64 c3.al, .string c3.data, .slice Ac c3.rels.length cc] 44)
    obtain ⟨z0s, z1s, z2s, z3s, z4s, z5s⟩ := cel6 kk
    clear kk
    go_wp2_with fail
    clear z0s z1s z2s z3s z4s z5s
    have HBn := Aside0.mk (HB.out.alloc HB.out.size (.cells #[.string c3.n, .int .i64 c3.kd, .bool c3.keep, .int .i64 c3.al, .string c3.data, .slice Ac c3.rels.length cc] 44))
    have Ksn := Aside0.mk (blk_alloc Ks.out (.cells #[.string c3.n, .int .i64 c3.kd, .bool c3.keep, .int .i64 c3.al, .string c3.data, .slice Ac c3.rels.length cc] 44))
    have Hsn := Aside0.mk (Hs.out.below (below_alloc (Below.refl _ _) (.cells #[.string c3.n, .int .i64 c3.kd, .bool c3.keep, .int .i64 c3.al, .string c3.data, .slice Ac c3.rels.length cc] 44)))
    have Kan := Aside0.mk (blk_alloc Ka.out (.cells #[.string c3.n, .int .i64 c3.kd, .bool c3.keep, .int .i64 c3.al, .string c3.data, .slice Ac c3.rels.length cc] 44))
    have Han := Aside0.mk (Ha.out.below (below_alloc (Below.refl _ _) (.cells #[.string c3.n, .int .i64 c3.kd, .bool c3.keep, .int .i64 c3.al, .string c3.data, .slice Ac c3.rels.length cc] 44)))
    have Kbn := Aside0.mk (blk_alloc Kb.out (.cells #[.string c3.n, .int .i64 c3.kd, .bool c3.keep, .int .i64 c3.al, .string c3.data, .slice Ac c3.rels.length cc] 44))
    have Hbn := Aside0.mk (Hb.out.below (below_alloc (Below.refl _ _) (.cells #[.string c3.n, .int .i64 c3.kd, .bool c3.keep, .int .i64 c3.al, .string c3.data, .slice Ac c3.rels.length cc] 44)))
    have Kc3n := Aside0.mk (blk_new w4 (.cells #[.string c3.n, .int .i64 c3.kd, .bool c3.keep, .int .i64 c3.al, .string c3.data, .slice Ac c3.rels.length cc] 44))
    have Hc3n := Aside0.mk (Hc3.out.below (below_alloc (Below.refl _ _) (.cells #[.string c3.n, .int .i64 c3.kd, .bool c3.keep, .int .i64 c3.al, .string c3.data, .slice Ac c3.rels.length cc] 44)))
    clear HB Ks Hs Ka Ha Kb Hb Hc3
    have HB := HBn
    have Ks := Ksn
    have Hs := Hsn
    have Ka := Kan
    have Ha := Han
    have Kb := Kbn
    have Hb := Hbn
    have Kc3 := Kc3n
    have Hc3 := Hc3n
    clear HBn Ksn Hsn Kan Han Kbn Hbn Kc3n Hc3n
    (with_reducible refine (align_calls hd _ A c (HG.out.below HB.out) Hs.out).mono ?_)
    rintro e w5 ⟨Ad, cd, rfl, hr, hb⟩
    have HBn := Aside0.mk (below_step HB.out hb)
    have Ksn := Aside0.mk (blk_below Ks.out hb)
    have Hsn := Aside0.mk (Hs.out.below hb)
    have Kan := Aside0.mk (blk_below Ka.out hb)
    have Han := Aside0.mk (Ha.out.below hb)
    have Kbn := Aside0.mk (blk_below Kb.out hb)
    have Hbn := Aside0.mk (Hb.out.below hb)
    have Kc3n := Aside0.mk (blk_below Kc3.out hb)
    have Hc3n := Aside0.mk (Hc3.out.below hb)
    have Hd := Aside0.mk hr
    clear HB hb Ks Hs Ka Ha Kb Hb Kc3 Hc3 hr
    have HB := HBn
    have Ks := Ksn
    have Hs := Hsn
    have Ka := Kan
    have Ha := Han
    have Kb := Kbn
    have Hb := Hbn
    have Kc3 := Kc3n
    have Hc3 := Hc3n
    clear HBn Ksn Hsn Kan Han Kbn Hbn Kc3n Hc3n
    by_cases hfull : ed = 0 ∧ 0 ≤ m ∧ m ≤ n
    ·obtain ⟨rfl, m0, m1⟩ := hfull
     have hn2 := hal.resolve_left (by simp)
     obtain ⟨i, hi, hsi⟩ : ∃ i, AlignB d n i 0 ∧ SameB i d true := ⟨d, hn2.2 n (by omega) (Int.le_refl _), same_refl d hsd.2⟩
     obtain ⟨k, hk, hsk⟩ : ∃ k, AlignB d m k 0 ∧ SameB k d true := ⟨d, hn2.2 m m0 m1, same_refl d hsd.2⟩
     clear hal hn2
     go_wp2_with fail
     have HBn := Aside0.mk (HB.out.alloc HB.out.size (.cells #[.string d.n, .int .i64 d.kd, .bool d.keep, .int .i64 d.al, .string d.data, .slice Ad d.rels.length cd] 44))
     have Ksn := Aside0.mk (blk_alloc Ks.out (.cells #[.string d.n, .int .i64 d.kd, .bool d.keep, .int .i64 d.al, .string d.data, .slice Ad d.rels.length cd] 44))
     have Hsn := Aside0.mk (Hs.out.below (below_alloc (Below.refl _ _) (.cells #[.string d.n, .int .i64 d.kd, .bool d.keep, .int .i64 d.al, .string d.data, .slice Ad d.rels.length cd] 44)))
     have Kan := Aside0.mk (blk_alloc Ka.out (.cells #[.string d.n, .int .i64 d.kd, .bool d.keep, .int .i64 d.al, .string d.data, .slice Ad d.rels.length cd] 44))
     have Han := Aside0.mk (Ha.out.below (below_alloc (Below.refl _ _) (.cells #[.string d.n, .int .i64 d.kd, .bool d.keep, .int .i64 d.al, .string d.data, .slice Ad d.rels.length cd] 44)))
     have Kbn := Aside0.mk (blk_alloc Kb.out (.cells #[.string d.n, .int .i64 d.kd, .bool d.keep, .int .i64 d.al, .string d.data, .slice Ad d.rels.length cd] 44))
     have Hbn := Aside0.mk (Hb.out.below (below_alloc (Below.refl _ _) (.cells #[.string d.n, .int .i64 d.kd, .bool d.keep, .int .i64 d.al, .string d.data, .slice Ad d.rels.length cd] 44)))
     have Kc3n := Aside0.mk (blk_alloc Kc3.out (.cells #[.string d.n, .int .i64 d.kd, .bool d.keep, .int .i64 d.al, .string d.data, .slice Ad d.rels.length cd] 44))
     have Hc3n := Aside0.mk (Hc3.out.below (below_alloc (Below.refl _ _) (.cells #[.string d.n, .int .i64 d.kd, .bool d.keep, .int .i64 d.al, .string d.data, .slice Ad d.rels.length cd] 44)))
     have Kdn := Aside0.mk (blk_new w5 (.cells #[.string d.n, .int .i64 d.kd, .bool d.keep, .int .i64 d.al, .string d.data, .slice Ad d.rels.length cd] 44))
     have Hdn := Aside0.mk (Hd.out.below (below_alloc (Below.refl _ _) (.cells #[.string d.n, .int .i64 d.kd, .bool d.keep, .int .i64 d.al, .string d.data, .slice Ad d.rels.length cd] 44)))
     clear HB Ks Hs Ka Ha Kb Hb Kc3 Hc3 Hd
     have HB := HBn
     have Ks := Ksn
     have Hs := Hsn
     have Ka := Kan
     have Ha := Han
     have Kb := Kbn
     have Hb := Hbn
     have Kc3 := Kc3n
     have Hc3 := Hc3n
     have Kd := Kdn
     have Hd := Hdn
     clear HBn Ksn Hsn Kan Han Kbn Hbn Kc3n Hc3n Kdn Hdn
     (with_reducible refine (align_calls hi _ Ad cd (HG.out.below HB.out) Hd.out).mono ?_)
     rintro e w6 ⟨Ai, ci, rfl, hr, hb⟩
     have HBn := Aside0.mk (below_step HB.out hb)
     have Ksn := Aside0.mk (blk_below Ks.out hb)
     have Hsn := Aside0.mk (Hs.out.below hb)
     have Kan := Aside0.mk (blk_below Ka.out hb)
     have Han := Aside0.mk (Ha.out.below hb)
     have Kbn := Aside0.mk (blk_below Kb.out hb)
     have Hbn := Aside0.mk (Hb.out.below hb)
     have Kc3n := Aside0.mk (blk_below Kc3.out hb)
     have Hc3n := Aside0.mk (Hc3.out.below hb)
     have Kdn := Aside0.mk (blk_below Kd.out hb)
     have Hdn := Aside0.mk (Hd.out.below hb)
     have Hi := Aside0.mk hr
     clear HB hb Ks Hs Ka Ha Kb Hb Kc3 Hc3 Kd Hd hr
     have HB := HBn
     have Ks := Ksn
     have Hs := Hsn
     have Ka := Kan
     have Ha := Han
     have Kb := Kbn
     have Hb := Hbn
     have Kc3 := Kc3n
     have Hc3 := Hc3n
     have Kd := Kdn
     have Hd := Hdn
     clear HBn Ksn Hsn Kan Han Kbn Hbn Kc3n Hc3n Kdn Hdn
     have kk := blk_alloc Kd.out (.cells #[.string i.n, .int .i64 i.kd, .bool i.keep, .int .i64 i.al, .string i.data, .slice Ai i.rels.length ci] 44)
     obtain ⟨z0d, z1d, z2d, z3d, z4d, z5d⟩ := cel6 kk
     clear kk
     go_wp2_with fail
     clear z0d z1d z2d z3d z4d z5d
     have HBn := Aside0.mk (HB.out.alloc HB.out.size (.cells #[.string i.n, .int .i64 i.kd, .bool i.keep, .int .i64 i.al, .string i.data, .slice Ai i.rels.length ci] 44))
     have Ksn := Aside0.mk (blk_alloc Ks.out (.cells #[.string i.n, .int .i64 i.kd, .bool i.keep, .int .i64 i.al, .string i.data, .slice Ai i.rels.length ci] 44))
     have Hsn := Aside0.mk (Hs.out.below (below_alloc (Below.refl _ _) (.cells #[.string i.n, .int .i64 i.kd, .bool i.keep, .int .i64 i.al, .string i.data, .slice Ai i.rels.length ci] 44)))
     have Kan := Aside0.mk (blk_alloc Ka.out (.cells #[.string i.n, .int .i64 i.kd, .bool i.keep, .int .i64 i.al, .string i.data, .slice Ai i.rels.length ci] 44))
     have Han := Aside0.mk (Ha.out.below (below_alloc (Below.refl _ _) (.cells #[.string i.n, .int .i64 i.kd, .bool i.keep, .int .i64 i.al, .string i.data, .slice Ai i.rels.length ci] 44)))
     have Kbn := Aside0.mk (blk_alloc Kb.out (.cells #[.string i.n, .int .i64 i.kd, .bool i.keep, .int .i64 i.al, .string i.data, .slice Ai i.rels.length ci] 44))
     have Hbn := Aside0.mk (Hb.out.below (below_alloc (Below.refl _ _) (.cells #[.string i.n, .int .i64 i.kd, .bool i.keep, .int .i64 i.al, .string i.data, .slice Ai i.rels.length ci] 44)))
     have Kc3n := Aside0.mk (blk_alloc Kc3.out (.cells #[.string i.n, .int .i64 i.kd, .bool i.keep, .int .i64 i.al, .string i.data, .slice Ai i.rels.length ci] 44))
     have Hc3n := Aside0.mk (Hc3.out.below (below_alloc (Below.refl _ _) (.cells #[.string i.n, .int .i64 i.kd, .bool i.keep, .int .i64 i.al, .string i.data, .slice Ai i.rels.length ci] 44)))
     have Kdn := Aside0.mk (blk_alloc Kd.out (.cells #[.string i.n, .int .i64 i.kd, .bool i.keep, .int .i64 i.al, .string i.data, .slice Ai i.rels.length ci] 44))
     have Hdn := Aside0.mk (Hd.out.below (below_alloc (Below.refl _ _) (.cells #[.string i.n, .int .i64 i.kd, .bool i.keep, .int .i64 i.al, .string i.data, .slice Ai i.rels.length ci] 44)))
     have Kin := Aside0.mk (blk_new w6 (.cells #[.string i.n, .int .i64 i.kd, .bool i.keep, .int .i64 i.al, .string i.data, .slice Ai i.rels.length ci] 44))
     have Hin := Aside0.mk (Hi.out.below (below_alloc (Below.refl _ _) (.cells #[.string i.n, .int .i64 i.kd, .bool i.keep, .int .i64 i.al, .string i.data, .slice Ai i.rels.length ci] 44)))
     clear HB Ks Hs Ka Ha Kb Hb Kc3 Hc3 Kd Hd Hi
     have HB := HBn
     have Ks := Ksn
     have Hs := Hsn
     have Ka := Kan
     have Ha := Han
     have Kb := Kbn
     have Hb := Hbn
     have Kc3 := Kc3n
     have Hc3 := Hc3n
     have Kd := Kdn
     have Hd := Hdn
     have Ki := Kin
     have Hi := Hin
     clear HBn Ksn Hsn Kan Han Kbn Hbn Kc3n Hc3n Kdn Hdn Kin Hin
     (with_reducible refine (align_calls hk _ Ad cd (HG.out.below HB.out) Hd.out).mono ?_)
     rintro e w7 ⟨Ak, ck, rfl, hr, hb⟩
     have HBn := Aside0.mk (below_step HB.out hb)
     have Ksn := Aside0.mk (blk_below Ks.out hb)
     have Hsn := Aside0.mk (Hs.out.below hb)
     have Kan := Aside0.mk (blk_below Ka.out hb)
     have Han := Aside0.mk (Ha.out.below hb)
     have Kbn := Aside0.mk (blk_below Kb.out hb)
     have Hbn := Aside0.mk (Hb.out.below hb)
     have Kc3n := Aside0.mk (blk_below Kc3.out hb)
     have Hc3n := Aside0.mk (Hc3.out.below hb)
     have Kdn := Aside0.mk (blk_below Kd.out hb)
     have Hdn := Aside0.mk (Hd.out.below hb)
     have Kin := Aside0.mk (blk_below Ki.out hb)
     have Hin := Aside0.mk (Hi.out.below hb)
     have Hk := Aside0.mk hr
     clear HB hb Ks Hs Ka Ha Kb Hb Kc3 Hc3 Kd Hd Ki Hi hr
     have HB := HBn
     have Ks := Ksn
     have Hs := Hsn
     have Ka := Kan
     have Ha := Han
     have Kb := Kbn
     have Hb := Hbn
     have Kc3 := Kc3n
     have Hc3 := Hc3n
     have Kd := Kdn
     have Hd := Hdn
     have Ki := Kin
     have Hi := Hin
     clear HBn Ksn Hsn Kan Han Kbn Hbn Kc3n Hc3n Kdn Hdn Kin Hin
     go_wp2_with fail
     have HBn := Aside0.mk (HB.out.alloc HB.out.size (.cells #[.string k.n, .int .i64 k.kd, .bool k.keep, .int .i64 k.al, .string k.data, .slice Ak k.rels.length ck] 44))
     have Ksn := Aside0.mk (blk_alloc Ks.out (.cells #[.string k.n, .int .i64 k.kd, .bool k.keep, .int .i64 k.al, .string k.data, .slice Ak k.rels.length ck] 44))
     have Hsn := Aside0.mk (Hs.out.below (below_alloc (Below.refl _ _) (.cells #[.string k.n, .int .i64 k.kd, .bool k.keep, .int .i64 k.al, .string k.data, .slice Ak k.rels.length ck] 44)))
     have Kan := Aside0.mk (blk_alloc Ka.out (.cells #[.string k.n, .int .i64 k.kd, .bool k.keep, .int .i64 k.al, .string k.data, .slice Ak k.rels.length ck] 44))
     have Han := Aside0.mk (Ha.out.below (below_alloc (Below.refl _ _) (.cells #[.string k.n, .int .i64 k.kd, .bool k.keep, .int .i64 k.al, .string k.data, .slice Ak k.rels.length ck] 44)))
     have Kbn := Aside0.mk (blk_alloc Kb.out (.cells #[.string k.n, .int .i64 k.kd, .bool k.keep, .int .i64 k.al, .string k.data, .slice Ak k.rels.length ck] 44))
     have Hbn := Aside0.mk (Hb.out.below (below_alloc (Below.refl _ _) (.cells #[.string k.n, .int .i64 k.kd, .bool k.keep, .int .i64 k.al, .string k.data, .slice Ak k.rels.length ck] 44)))
     have Kc3n := Aside0.mk (blk_alloc Kc3.out (.cells #[.string k.n, .int .i64 k.kd, .bool k.keep, .int .i64 k.al, .string k.data, .slice Ak k.rels.length ck] 44))
     have Hc3n := Aside0.mk (Hc3.out.below (below_alloc (Below.refl _ _) (.cells #[.string k.n, .int .i64 k.kd, .bool k.keep, .int .i64 k.al, .string k.data, .slice Ak k.rels.length ck] 44)))
     have Kdn := Aside0.mk (blk_alloc Kd.out (.cells #[.string k.n, .int .i64 k.kd, .bool k.keep, .int .i64 k.al, .string k.data, .slice Ak k.rels.length ck] 44))
     have Hdn := Aside0.mk (Hd.out.below (below_alloc (Below.refl _ _) (.cells #[.string k.n, .int .i64 k.kd, .bool k.keep, .int .i64 k.al, .string k.data, .slice Ak k.rels.length ck] 44)))
     have Kin := Aside0.mk (blk_alloc Ki.out (.cells #[.string k.n, .int .i64 k.kd, .bool k.keep, .int .i64 k.al, .string k.data, .slice Ak k.rels.length ck] 44))
     have Hin := Aside0.mk (Hi.out.below (below_alloc (Below.refl _ _) (.cells #[.string k.n, .int .i64 k.kd, .bool k.keep, .int .i64 k.al, .string k.data, .slice Ak k.rels.length ck] 44)))
     have Kkn := Aside0.mk (blk_new w7 (.cells #[.string k.n, .int .i64 k.kd, .bool k.keep, .int .i64 k.al, .string k.data, .slice Ak k.rels.length ck] 44))
     have Hkn := Aside0.mk (Hk.out.below (below_alloc (Below.refl _ _) (.cells #[.string k.n, .int .i64 k.kd, .bool k.keep, .int .i64 k.al, .string k.data, .slice Ak k.rels.length ck] 44)))
     clear HB Ks Hs Ka Ha Kb Hb Kc3 Hc3 Kd Hd Ki Hi Hk
     have HB := HBn
     have Ks := Ksn
     have Hs := Hsn
     have Ka := Kan
     have Ha := Han
     have Kb := Kbn
     have Hb := Hbn
     have Kc3 := Kc3n
     have Hc3 := Hc3n
     have Kd := Kdn
     have Hd := Hdn
     have Ki := Kin
     have Hi := Hin
     have Kk := Kkn
     have Hk := Hkn
     clear HBn Ksn Hsn Kan Han Kbn Hbn Kc3n Hc3n Kdn Hdn Kin Hin Kkn Hkn
     (with_reducible refine (grown_calls _ (HG.out.below HB.out)).mono ?_)
     rintro e w8 ⟨rfl, hb⟩
     have HBn := Aside0.mk (below_step HB.out hb)
     have Ksn := Aside0.mk (blk_below Ks.out hb)
     have Hsn := Aside0.mk (Hs.out.below hb)
     have Kan := Aside0.mk (blk_below Ka.out hb)
     have Han := Aside0.mk (Ha.out.below hb)
     have Kbn := Aside0.mk (blk_below Kb.out hb)
     have Hbn := Aside0.mk (Hb.out.below hb)
     have Kc3n := Aside0.mk (blk_below Kc3.out hb)
     have Hc3n := Aside0.mk (Hc3.out.below hb)
     have Kdn := Aside0.mk (blk_below Kd.out hb)
     have Hdn := Aside0.mk (Hd.out.below hb)
     have Kin := Aside0.mk (blk_below Ki.out hb)
     have Hin := Aside0.mk (Hi.out.below hb)
     have Kkn := Aside0.mk (blk_below Kk.out hb)
     have Hkn := Aside0.mk (Hk.out.below hb)
     clear HB hb Ks Hs Ka Ha Kb Hb Kc3 Hc3 Kd Hd Ki Hi Kk Hk
     have HB := HBn
     have Ks := Ksn
     have Hs := Hsn
     have Ka := Kan
     have Ha := Han
     have Kb := Kbn
     have Hb := Hbn
     have Kc3 := Kc3n
     have Hc3 := Hc3n
     have Kd := Kdn
     have Hd := Hdn
     have Ki := Kin
     have Hi := Hin
     have Kk := Kkn
     have Hk := Hkn
     clear HBn Ksn Hsn Kan Han Kbn Hbn Kc3n Hc3n Kdn Hdn Kin Hin Kkn Hkn
     have kk := Ki.out
     obtain ⟨z0i, z1i, z2i, z3i, z4i, z5i⟩ := cel6 kk
     clear kk
     have kk := Kd.out
     obtain ⟨z0d, z1d, z2d, z3d, z4d, z5d⟩ := cel6 kk
     clear kk
     go_wp2_with fail
     clear z0i z1i z2i z3i z4i z5i
     clear z0d z1d z2d z3d z4d z5d
     (with_reducible refine (same_calls hsi _ Ai Ad ci cd Hi.out Hd.out).mono ?_)
     rintro e w9 ⟨rfl, hb⟩
     have HBn := Aside0.mk (below_step HB.out hb)
     have Ksn := Aside0.mk (blk_below Ks.out hb)
     have Hsn := Aside0.mk (Hs.out.below hb)
     have Kan := Aside0.mk (blk_below Ka.out hb)
     have Han := Aside0.mk (Ha.out.below hb)
     have Kbn := Aside0.mk (blk_below Kb.out hb)
     have Hbn := Aside0.mk (Hb.out.below hb)
     have Kc3n := Aside0.mk (blk_below Kc3.out hb)
     have Hc3n := Aside0.mk (Hc3.out.below hb)
     have Kdn := Aside0.mk (blk_below Kd.out hb)
     have Hdn := Aside0.mk (Hd.out.below hb)
     have Kin := Aside0.mk (blk_below Ki.out hb)
     have Hin := Aside0.mk (Hi.out.below hb)
     have Kkn := Aside0.mk (blk_below Kk.out hb)
     have Hkn := Aside0.mk (Hk.out.below hb)
     clear HB hb Ks Hs Ka Ha Kb Hb Kc3 Hc3 Kd Hd Ki Hi Kk Hk
     have HB := HBn
     have Ks := Ksn
     have Hs := Hsn
     have Ka := Kan
     have Ha := Han
     have Kb := Kbn
     have Hb := Hbn
     have Kc3 := Kc3n
     have Hc3 := Hc3n
     have Kd := Kdn
     have Hd := Hdn
     have Ki := Kin
     have Hi := Hin
     have Kk := Kkn
     have Hk := Hkn
     clear HBn Ksn Hsn Kan Han Kbn Hbn Kc3n Hc3n Kdn Hdn Kin Hin Kkn Hkn
     have kk := Kk.out
     obtain ⟨z0k, z1k, z2k, z3k, z4k, z5k⟩ := cel6 kk
     clear kk
     have kk := Kd.out
     obtain ⟨z0d, z1d, z2d, z3d, z4d, z5d⟩ := cel6 kk
     clear kk
     go_wp2_with fail
     clear z0k z1k z2k z3k z4k z5k
     clear z0d z1d z2d z3d z4d z5d
     (with_reducible refine (same_calls hsk _ Ak Ad ck cd Hk.out Hd.out).mono ?_)
     rintro e w10 ⟨rfl, hb⟩
     have HBn := Aside0.mk (below_step HB.out hb)
     have Ksn := Aside0.mk (blk_below Ks.out hb)
     have Hsn := Aside0.mk (Hs.out.below hb)
     have Kan := Aside0.mk (blk_below Ka.out hb)
     have Han := Aside0.mk (Ha.out.below hb)
     have Kbn := Aside0.mk (blk_below Kb.out hb)
     have Hbn := Aside0.mk (Hb.out.below hb)
     have Kc3n := Aside0.mk (blk_below Kc3.out hb)
     have Hc3n := Aside0.mk (Hc3.out.below hb)
     have Kdn := Aside0.mk (blk_below Kd.out hb)
     have Hdn := Aside0.mk (Hd.out.below hb)
     have Kin := Aside0.mk (blk_below Ki.out hb)
     have Hin := Aside0.mk (Hi.out.below hb)
     have Kkn := Aside0.mk (blk_below Kk.out hb)
     have Hkn := Aside0.mk (Hk.out.below hb)
     clear HB hb Ks Hs Ka Ha Kb Hb Kc3 Hc3 Kd Hd Ki Hi Kk Hk
     have HB := HBn
     have Ks := Ksn
     have Hs := Hsn
     have Ka := Kan
     have Ha := Han
     have Kb := Kbn
     have Hb := Hbn
     have Kc3 := Kc3n
     have Hc3 := Hc3n
     have Kd := Kdn
     have Hd := Hdn
     have Ki := Kin
     have Hi := Hin
     have Kk := Kkn
     have Hk := Hkn
     clear HBn Ksn Hsn Kan Han Kbn Hbn Kc3n Hc3n Kdn Hdn Kin Hin Kkn Hkn
     go_wp2
     go_ret
     exact ⟨rfl, HB.out⟩
    ·have hsh : ed ≠ 0 ∨ m < 0 ∨ n < m := by
      by_cases c1 : ed = 0
      ·by_cases c2 : 0 ≤ m
       ·by_cases c3 : m ≤ n
        ·exact absurd ⟨c1, c2, c3⟩ hfull
        ·exact .inr (.inr (by omega))
       ·exact .inr (.inl (by omega))
      ·exact .inl c1
     clear hfull hal
     have hsh2 : ((ed != 0) = true) ∨ ((ed != 0) = false ∧ m < 0) ∨ ((ed != 0) = false ∧ 0 ≤ m ∧ n < m) := by
      by_cases c1 : ed = 0
      ·subst c1
       rcases hsh with h | h | h
       ·exact absurd rfl h
       ·exact .inr (.inl ⟨rfl, h⟩)
       ·by_cases c2 : m < 0
        ·exact .inr (.inl ⟨rfl, c2⟩)
        ·exact .inr (.inr ⟨rfl, by omega, h⟩)
      ·exact .inl (bne_iff_ne.mpr c1)
     clear hsh
     rcases hsh2 with h1 | ⟨h1, h2⟩ | ⟨h1, h2, h3⟩
     all_goals
      have HBn := Aside0.mk (HB.out.alloc HB.out.size (.cells #[.string d.n, .int .i64 d.kd, .bool d.keep, .int .i64 d.al, .string d.data, .slice Ad d.rels.length cd] 44))
      go_wp2_with fail
      (with_reducible refine (grown_calls _ (HG.out.below HBn.out)).mono ?_)
      rintro e wz ⟨rfl, hb⟩
      have HZ := Aside0.mk (below_step HBn.out hb)
      clear hb
      go_wp2
      go_ret
      exact ⟨rfl, HZ.out⟩
end Go.Proofs.YtiadfdehplkojaaGreatDoor.Pure
