/- The law 'PartRight' walked: it returns true. -/
import Derived.Test.YtiadfdehplkojaaGreatDoorRs57
import Derived.Test.YtiadfdehplkojaaGreatDoorRs58
import Derived.Deep.RegionHeld3
namespace Go.Proofs.YtiadfdehplkojaaGreatDoor.Pure
open Go Go.RowKit Go.Proofs.YtiadfdehplkojaaGreatDoorW.PrintWords Go.Proofs.YtiadfdehplkojaaGreatDoorW.PrintLast Go.Proofs.YtiadfdehplkojaaGreatDoorW.PrintMore
open P (Glob)
set_option linter.unusedVariables false
set_option linter.unusedSimpArgs false
theorem word_calls {s r : Sc} {w kind sym add : Int} {e : Int} (hp : WordB s w kind sym add r e) (W : World) (A : Option Addr) (c : Nat) (hG : Glob W) (h : ScAt W A c s) :
 Calls Tryz.prog 31 #[.agg #[.string s.n, .int .i64 s.kd, .bool s.keep, .int .i64 s.al, .string s.data, .slice A s.rels.length c], .int .u32 w, .int .i64 kind, .int .i64 sym, .int .i64 add] W fun x w' => ∃ A' c', x = .returned (.tuple #[.agg #[.string r.n, .int .i64 r.kd, .bool r.keep, .int .i64 r.al, .string r.data, .slice A' r.rels.length c'], .int .i64 e]) ∧ ScAt w' A' c' r ∧ Below W.heap.size W w' := by
 obtain ⟨K, hK⟩ := hp
 refine (P.part_Word.calls K s.n s.kd s.keep s.al s.data A c s.rels w kind sym add r.n r.kd r.keep r.al r.data r.rels e W hG h.reads h.le (hK K (Nat.le_refl _))).mono ?_
 rintro x w' ⟨v, rfl, hR, hb⟩
 obtain ⟨A', c', rfl, hl, hC⟩ := Kd.R_reads hR
 exact ⟨A', c', rfl, ⟨hC, hl⟩, hb⟩
theorem quad_calls {s r : Sc} {v sym add : Int} {e : Int} (hp : QuadB s v sym add r e) (W : World) (A : Option Addr) (c : Nat) (hG : Glob W) (h : ScAt W A c s) :
 Calls Tryz.prog 34 #[.agg #[.string s.n, .int .i64 s.kd, .bool s.keep, .int .i64 s.al, .string s.data, .slice A s.rels.length c], .int .u64 v, .int .i64 sym, .int .i64 add] W fun x w' => ∃ A' c', x = .returned (.tuple #[.agg #[.string r.n, .int .i64 r.kd, .bool r.keep, .int .i64 r.al, .string r.data, .slice A' r.rels.length c'], .int .i64 e]) ∧ ScAt w' A' c' r ∧ Below W.heap.size W w' := by
 obtain ⟨K, hK⟩ := hp
 refine (P.part_Quad.calls K s.n s.kd s.keep s.al s.data A c s.rels v sym add r.n r.kd r.keep r.al r.data r.rels e W hG h.reads h.le (hK K (Nat.le_refl _))).mono ?_
 rintro x w' ⟨v, rfl, hR, hb⟩
 obtain ⟨A', c', rfl, hl, hC⟩ := Kd.R_reads hR
 exact ⟨A', c', rfl, ⟨hC, hl⟩, hb⟩
theorem is_calls {s : Sc} {b : Bool} (hp : IsB s b) (W : World) (A : Option Addr) (c : Nat) (hG : Glob W) (h : ScAt W A c s) :
 Calls Tryz.prog 27 #[.agg #[.string s.n, .int .i64 s.kd, .bool s.keep, .int .i64 s.al, .string s.data, .slice A s.rels.length c]] W fun x w' => x = .returned (.bool b) ∧ Below W.heap.size W w' := by
 obtain ⟨K, hK⟩ := hp
 exact P.part_Is.calls K s.n s.kd s.keep s.al s.data A c s.rels b W hG h.reads h.le (hK K (Nat.le_refl _))
/-- The cells of a section in a row. -/
structure At6 (w : World) (g o : Nat) (t : Sc) (A : Option Addr) (c : Nat) : Prop where
 c0 : w.cell? ⟨g, o, none⟩ = some (.string t.n)
 c1 : w.cell? ⟨g, o + 1, none⟩ = some (.int .i64 t.kd)
 c2 : w.cell? ⟨g, o + 2, none⟩ = some (.bool t.keep)
 c3 : w.cell? ⟨g, o + 3, none⟩ = some (.int .i64 t.al)
 c4 : w.cell? ⟨g, o + 4, none⟩ = some (.string t.data)
 c5 : w.cell? ⟨g, o + 5, none⟩ = some (.slice A t.rels.length c)
def Row4 (s : Sc) (w : World) (ga ge : Nat) : Prop := ∀ i, i < 4 → ∃ (t : Sc) (A : Option Addr) (c : Nat) (e : Int), At6 w ga (i * 6) t A c ∧ w.cell? ⟨ge, i, none⟩ = some (.int .i64 e) ∧ ScAt w A c t ∧ Grows s t e
theorem Row4.below {s : Sc} {w w1 : World} {ga ge : Nat} (h : Row4 s w ga ge) (hb : Below w.heap.size w w1) : Row4 s w1 ga ge := by
 intro i hi
 obtain ⟨t, A, c, e, ⟨c0, c1, c2, c3, c4, c5⟩, he, hs, hg⟩ := h i hi
 have k : ∀ {a : Addr} {v : Value}, w.cell? a = some v → w1.cell? a = some v := fun h => (hb.cell (World.block_lt_of_cell? _ _ h)).trans h
 exact ⟨t, A, c, e, ⟨k c0, k c1, k c2, k c3, k c4, k c5⟩, k he, hs.below hb, hg⟩
theorem at1 (w : World) (o : Obj) (vs : Array Value) (t : Nat) : ((w.alloc o).alloc (.cells vs t)).heap[w.heap.size + 1]? = some (.cells vs t (0, 0)) := by
 have := blk_new (w.alloc o) (.cells vs t)
 simpa using this
theorem at2 (w : World) (o q : Obj) (vs : Array Value) (t : Nat) : (((w.alloc o).alloc q).alloc (.cells vs t)).heap[w.heap.size + 2]? = some (.cells vs t (0, 0)) := by
 have := blk_new ((w.alloc o).alloc q) (.cells vs t)
 simpa using this
theorem slice_head (A : Option Addr) (n c m : Nat) (h : m ≤ c) (W : World) : (Instr.slice 42 (.slice A n c) none (some (.int .i64 (m : Int))) none).run Tryz.prog W = .ok (.slice A m c) W := by
 have hl : Tryz.prog.elem 42 = 61 := by kernel_rfl
 have hu : Tryz.prog.underlying 42 = some (.slice (Tryz.prog.elem 42)) := by rw [hl]; exact Tryz.underlying42
 rw [run_slice_h (P := Tryz.prog) W 42 A n c hu .i64 m (by omega) (by omega), hl, Tryz.sizeOf61]
 have e : A.map (fun x : Addr => x.add 0) = A := by cases A <;> simp [Addr.add]
 simp [sliced, e, Result.andThen]
theorem rels_ev (l : List P.S61) (hr : l.length ≤ 80) : Ev (fun k => P.cleatref16_SameRels.f k l l) true := by
 have go : ∀ (j i : Nat), i + j = l.length → Ev (fun k => P.cleatref16_SameRels.l0 k l l i) true := by
  intro j
  induction j with
  | zero =>
   intro i hi
   exact Ev.step (fun k => P.cleatref16_SameRels.l0.eq_2 _ _ _ _) (Ev.congr (fun k => if_neg (by omega)) (Ev.now _))
  | succ j ih =>
   intro i hi
   have e1 : wrap64 ((i : Int) + 1) = ((i + 1 : Nat) : Int) := by rw [wrap64_small _ (by omega) (by omega)]; rfl
   refine Ev.step (fun k => P.cleatref16_SameRels.l0.eq_2 _ _ _ _) (Ev.congr (fun k => if_pos (by omega)) (Ev.congr (fun k => if_pos (by omega)) (Ev.congr (fun k => if_pos (by omega)) (Ev.congr (fun k => if_neg (by simp)) ?_))))
   rw [e1]
   exact ih (i + 1) (by omega)
 unfold P.cleatref16_SameRels.f
 exact Ev.congr (fun k => if_pos rfl) (go l.length 0 (by omega))
theorem rels_calls {s t : Sc} {W : World} {At A : Option Addr} {ct c : Nat} (ht : ScAt W At ct t) (hs : ScAt W A c s) (hp : t.rels.take s.rels.length = s.rels) (hl : s.rels.length ≤ t.rels.length) (hn : s.rels.length ≤ 80) :
 Calls Tryz.prog 35 #[.slice At s.rels.length ct, .slice A s.rels.length c] W fun x w' => x = .returned (.bool true) ∧ Below W.heap.size W w' := by
 have h1 := Kd.C_take ht.reads hl
 rw [hp] at h1
 obtain ⟨K, hK⟩ := rels_ev s.rels hn
 exact (P.cleatref16_SameRels.calls K At ct s.rels A c s.rels true W h1 (by have := ht.le; omega) hs.reads hs.le (hK K (Nat.le_refl _))).mono fun x w' h => ⟨h.1, h.2.below⟩
theorem keep12 {W w2 : World} {g k : Nat} {v0 v1 v2 v3 v4 v5 u0 u1 u2 u3 u4 u5 : Value} (h : W.cell? ⟨g, 0, none⟩ = some v0 ∧ W.cell? ⟨g, 1, none⟩ = some v1 ∧ W.cell? ⟨g, 2, none⟩ = some v2 ∧ W.cell? ⟨g, 3, none⟩ = some v3 ∧ W.cell? ⟨g, 4, none⟩ = some v4 ∧ W.cell? ⟨g, 5, none⟩ = some v5 ∧ W.cell? ⟨k, 0, none⟩ = some u0 ∧ W.cell? ⟨k, 1, none⟩ = some u1 ∧ W.cell? ⟨k, 2, none⟩ = some u2 ∧ W.cell? ⟨k, 3, none⟩ = some u3 ∧ W.cell? ⟨k, 4, none⟩ = some u4 ∧ W.cell? ⟨k, 5, none⟩ = some u5) (hb : RowKit.Below W.heap.size W w2) : w2.cell? ⟨g, 0, none⟩ = some v0 ∧ w2.cell? ⟨g, 1, none⟩ = some v1 ∧ w2.cell? ⟨g, 2, none⟩ = some v2 ∧ w2.cell? ⟨g, 3, none⟩ = some v3 ∧ w2.cell? ⟨g, 4, none⟩ = some v4 ∧ w2.cell? ⟨g, 5, none⟩ = some v5 ∧ w2.cell? ⟨k, 0, none⟩ = some u0 ∧ w2.cell? ⟨k, 1, none⟩ = some u1 ∧ w2.cell? ⟨k, 2, none⟩ = some u2 ∧ w2.cell? ⟨k, 3, none⟩ = some u3 ∧ w2.cell? ⟨k, 4, none⟩ = some u4 ∧ w2.cell? ⟨k, 5, none⟩ = some u5 := by
 have kp : ∀ {a : Addr} {v : Value}, W.cell? a = some v → w2.cell? a = some v := fun h => (hb.cell (World.block_lt_of_cell? _ _ h)).trans h
 obtain ⟨h0, h1, h2, h3, h4, h5, h6, h7, h8, h9, h10, h11⟩ := h
 exact ⟨kp h0, kp h1, kp h2, kp h3, kp h4, kp h5, kp h6, kp h7, kp h8, kp h9, kp h10, kp h11⟩
theorem row4 {s a b d q : Sc} {V : World} {ga ge ta te : Nat} {Aa Ab Ad Aq : Option Addr} {ca cb cd cq : Nat} {ea eb ed eq : Int} (hA : V.heap[ga]? = some (.cells #[.string a.n, .int .i64 a.kd, .bool a.keep, .int .i64 a.al, .string a.data, .slice Aa a.rels.length ca, .string b.n, .int .i64 b.kd, .bool b.keep, .int .i64 b.al, .string b.data, .slice Ab b.rels.length cb, .string d.n, .int .i64 d.kd, .bool d.keep, .int .i64 d.al, .string d.data, .slice Ad d.rels.length cd, .string q.n, .int .i64 q.kd, .bool q.keep, .int .i64 q.al, .string q.data, .slice Aq q.rels.length cq] ta (0, 0))) (hE : V.heap[ge]? = some (.cells #[.int .i64 ea, .int .i64 eb, .int .i64 ed, .int .i64 eq] te (0, 0)))
 (h1 : ScAt V Aa ca a) (h2 : ScAt V Ab cb b) (h3 : ScAt V Ad cd d) (h4 : ScAt V Aq cq q) (g1 : Grows s a ea) (g2 : Grows s b eb) (g3 : Grows s d ed) (g4 : Grows s q eq) : Row4 s V ga ge := by
 intro i hi
 have hc : i = 0 ∨ i = 1 ∨ i = 2 ∨ i = 3 := by omega
 rcases hc with rfl | rfl | rfl | rfl
 ·exact ⟨a, Aa, ca, ea, ⟨(kCC hA 0).trans rfl, (kCC hA 1).trans rfl, (kCC hA 2).trans rfl, (kCC hA 3).trans rfl, (kCC hA 4).trans rfl, (kCC hA 5).trans rfl⟩, (kCC hE 0).trans rfl, h1, g1⟩
 ·exact ⟨b, Ab, cb, eb, ⟨(kCC hA 6).trans rfl, (kCC hA 7).trans rfl, (kCC hA 8).trans rfl, (kCC hA 9).trans rfl, (kCC hA 10).trans rfl, (kCC hA 11).trans rfl⟩, (kCC hE 1).trans rfl, h2, g2⟩
 ·exact ⟨d, Ad, cd, ed, ⟨(kCC hA 12).trans rfl, (kCC hA 13).trans rfl, (kCC hA 14).trans rfl, (kCC hA 15).trans rfl, (kCC hA 16).trans rfl, (kCC hA 17).trans rfl⟩, (kCC hE 2).trans rfl, h3, g3⟩
 ·exact ⟨q, Aq, cq, eq, ⟨(kCC hA 18).trans rfl, (kCC hA 19).trans rfl, (kCC hA 20).trans rfl, (kCC hA 21).trans rfl, (kCC hA 22).trans rfl, (kCC hA 23).trans rfl⟩, (kCC hE 3).trans rfl, h4, g4⟩
set_option maxHeartbeats 8000000 in
set_option maxRecDepth 100000 in
theorem partRight_any (s : Sc) (x : ByteArray) (n : Int) (v : Nat) (kind sym add : Int) (q : Nat) (w : World) (A : Option Addr) (c : Nat) (hG : Glob w) (h : ScAt w A c s) (hx : x.size ≤ 140737488351232) (hv : v < 4294967296) (hq : q < 18446744073709551616) :
 Calls Tryz.prog 10 #[.agg #[.string s.n, .int .i64 s.kd, .bool s.keep, .int .i64 s.al, .string s.data, .slice A s.rels.length c], .string x, .int .i64 n, .int .u32 (v : Int), .int .i64 kind, .int .i64 sym, .int .i64 add, .int .u64 (q : Int)] w fun e w' => e = .returned (.bool true) ∧ Below w.heap.size w w' := by
 have h0 : ScAt (w.alloc (.cells #[.string s.n, .int .i64 s.kd, .bool s.keep, .int .i64 s.al, .string s.data, .slice A s.rels.length c] 44)) A c s := h.below (bAA (Below.refl _ _) _)
 obtain ⟨bb, hbig, hsm⟩ := big_calls s (w.alloc (.cells #[.string s.n, .int .i64 s.kd, .bool s.keep, .int .i64 s.al, .string s.data, .slice A s.rels.length c] 44)) A c h0
 have HBig := Azz.mk hbig
 have HB0 := Azz.mk (bAA (Below.refl w.heap.size w) (.cells #[.string s.n, .int .i64 s.kd, .bool s.keep, .int .i64 s.al, .string s.data, .slice A s.rels.length c] 44))
 have K0 := Azz.mk (blk_new w (.cells #[.string s.n, .int .i64 s.kd, .bool s.keep, .int .i64 s.al, .string s.data, .slice A s.rels.length c] 44))
 have H0 := Azz.mk h0
 have HG := Azz.mk hG
 clear hbig h0 h hG
 cases bb with
 | true =>
  go_enter Tryz.func10, Tryz.ntmps10
  go_wp2_with (go_at_call 28; (with_reducible refine HBig.out.mono ?_); rintro e w1 ⟨rfl, hb⟩; have HB := Azz.mk (bTT HB0.out hb); clear hb)
  go_ret
  exact ⟨rfl, HB.out⟩
 | false =>
  have hs := hsm rfl
  clear hsm
  by_cases hxy : (x.size : Int) > 5000
  ·go_enter Tryz.func10, Tryz.ntmps10
   go_wp2_with (go_at_call 28; (with_reducible refine HBig.out.mono ?_); rintro e w1 ⟨rfl, hb⟩; have HB := Azz.mk (bTT HB0.out hb); clear hb)
   go_ret
   exact ⟨rfl, HB.out⟩
  ·obtain ⟨a, ea, ha, hga, hea⟩ := put_grows s hs x (by omega)
   obtain ⟨b, eb, hb_, hgb, heb⟩ := align_grows s hs n
   obtain ⟨c3, ec, hc3, hgc, hec⟩ := word_grows s hs v hv kind sym add
   obtain ⟨d, ed, hd, hgd, hed⟩ := quad_grows s hs q hq sym add
   go_enter Tryz.func10, Tryz.ntmps10
   go_wp2_with fail
   (with_reducible refine HBig.out.mono ?_)
   rintro e w1 ⟨rfl, hb1⟩
   have HB := Azz.mk (bTT HB0.out hb1)
   have Ks := Azz.mk (kBB K0.out hb1)
   have Hs := Azz.mk (H0.out.below hb1)
   clear hb1 K0 H0 HB0 HBig
   obtain ⟨z0, z1, z2, z3, z4, z5⟩ := cel6 Ks.out
   go_wp2_with fail
   clear z0 z1 z2 z3 z4 z5
   (with_reducible refine (put_calls ha _ A c (HG.out.below HB.out) Hs.out).mono ?_)
   rintro e w2 ⟨Aa, ca, rfl, hr, hb⟩
   replace HB := Azz.mk (bTT HB.out hb)
   replace Ks := Azz.mk (kBB Ks.out hb)
   replace Hs := Azz.mk (Hs.out.below hb)
   have Ha := Azz.mk hr
   clear hb hr
   have zs := fun o => cel6 (kAA Ks.out o)
   go_wp2_with fail
   clear zs
   (with_reducible refine (align_calls hb_ _ A c (HG.out.below (HB.out.alloc HB.out.size _)) (Hs.out.below (bAA (Below.refl _ _) _))).mono ?_)
   rintro e w3 ⟨Ab, cb, rfl, hr, hb⟩
   replace HB := Azz.mk (bTT (HB.out.alloc HB.out.size _) hb)
   replace Ks := Azz.mk (kBB (kAA Ks.out _) hb)
   replace Hs := Azz.mk ((Hs.out.below (bAA (Below.refl _ _) _)).below hb)
   have Ka := Azz.mk (kBB (blk_new w2 _) hb)
   replace Ha := Azz.mk ((Ha.out.below (bAA (Below.refl _ _) _)).below hb)
   have Hb := Azz.mk hr
   clear hb hr
   have zs := fun o => cel6 (kAA Ks.out o)
   go_wp2_with fail
   clear zs
   (with_reducible refine (word_calls hc3 _ A c (HG.out.below (HB.out.alloc HB.out.size _)) (Hs.out.below (bAA (Below.refl _ _) _))).mono ?_)
   rintro e w4 ⟨Ac, cc, rfl, hr, hb⟩
   replace HB := Azz.mk (bTT (HB.out.alloc HB.out.size _) hb)
   replace Ks := Azz.mk (kBB (kAA Ks.out _) hb)
   replace Hs := Azz.mk ((Hs.out.below (bAA (Below.refl _ _) _)).below hb)
   replace Ka := Azz.mk (kBB (kAA Ka.out _) hb)
   replace Ha := Azz.mk ((Ha.out.below (bAA (Below.refl _ _) _)).below hb)
   have Kb := Azz.mk (kBB (blk_new w3 _) hb)
   replace Hb := Azz.mk ((Hb.out.below (bAA (Below.refl _ _) _)).below hb)
   have Hc3 := Azz.mk hr
   clear hb hr
   have zs := fun o => cel6 (kAA Ks.out o)
   go_wp2_with fail
   clear zs
   (with_reducible refine (quad_calls hd _ A c (HG.out.below (HB.out.alloc HB.out.size _)) (Hs.out.below (bAA (Below.refl _ _) _))).mono ?_)
   rintro e w5 ⟨Ad, cd, rfl, hr, hb⟩
   replace HB := Azz.mk (bTT (HB.out.alloc HB.out.size _) hb)
   replace Ks := Azz.mk (kBB (kAA Ks.out _) hb)
   replace Hs := Azz.mk ((Hs.out.below (bAA (Below.refl _ _) _)).below hb)
   replace Ka := Azz.mk (kBB (kAA Ka.out _) hb)
   replace Ha := Azz.mk ((Ha.out.below (bAA (Below.refl _ _) _)).below hb)
   replace Kb := Azz.mk (kBB (kAA Kb.out _) hb)
   replace Hb := Azz.mk ((Hb.out.below (bAA (Below.refl _ _) _)).below hb)
   have Kc3 := Azz.mk (kBB (blk_new w4 _) hb)
   replace Hc3 := Azz.mk ((Hc3.out.below (bAA (Below.refl _ _) _)).below hb)
   have Hd := Azz.mk hr
   clear hb hr
   have za := fun o => cel6 (kAA Ka.out o)
   have zb := fun o => cel6 (kAA Kb.out o)
   have zc3 := fun o => cel6 (kAA Kc3.out o)
   go_wp2
   clear za zb zc3
   obtain ⟨V, hV⟩ : ∃ V : World, (((w5.alloc (.cells #[.string d.n, .int .i64 d.kd, .bool d.keep, .int .i64 d.al, .string d.data, .slice Ad d.rels.length cd] 44)).alloc (.cells #[.string a.n, .int .i64 a.kd, .bool a.keep, .int .i64 a.al, .string a.data, .slice Aa a.rels.length ca, .string b.n, .int .i64 b.kd, .bool b.keep, .int .i64 b.al, .string b.data, .slice Ab b.rels.length cb, .string c3.n, .int .i64 c3.kd, .bool c3.keep, .int .i64 c3.al, .string c3.data, .slice Ac c3.rels.length cc, .string d.n, .int .i64 d.kd, .bool d.keep, .int .i64 d.al, .string d.data, .slice Ad d.rels.length cd] 44)).alloc (.cells #[.int .i64 ea, .int .i64 eb, .int .i64 ec, .int .i64 ed] 28)) = V := ⟨_, rfl⟩
   have hbl : Below w5.heap.size w5 V := by rw [← hV]; exact (((Below.refl _ w5).alloc (Nat.le_refl _) _).alloc (by simp) _).alloc (by simp; omega) _
   have KA : V.heap[w5.heap.size + 1]? = some (.cells #[.string a.n, .int .i64 a.kd, .bool a.keep, .int .i64 a.al, .string a.data, .slice Aa a.rels.length ca, .string b.n, .int .i64 b.kd, .bool b.keep, .int .i64 b.al, .string b.data, .slice Ab b.rels.length cb, .string c3.n, .int .i64 c3.kd, .bool c3.keep, .int .i64 c3.al, .string c3.data, .slice Ac c3.rels.length cc, .string d.n, .int .i64 d.kd, .bool d.keep, .int .i64 d.al, .string d.data, .slice Ad d.rels.length cd] 44 (0, 0)) := by rw [← hV]; exact kAA (at1 _ _ _ _) _
   have KE : V.heap[w5.heap.size + 2]? = some (.cells #[.int .i64 ea, .int .i64 eb, .int .i64 ec, .int .i64 ed] 28 (0, 0)) := by rw [← hV]; exact at2 _ _ _ _ _
   rw [hV]
   clear hV
   have HR4 := Azz.mk (show Row4 s V (w5.heap.size + 1) (w5.heap.size + 1 + 1) from row4 KA KE (Ha.out.below hbl) (Hb.out.below hbl) (Hc3.out.below hbl) (Hd.out.below hbl) hga hgb hgc hgd)
   replace Ks := Azz.mk (kBB Ks.out hbl)
   replace Hs := Azz.mk (Hs.out.below hbl)
   replace HB := Azz.mk (bTT HB.out hbl)
   have HLT := Azz.mk (show w5.heap.size + 2 < V.heap.size from blk_lt KE)
   clear KA KE hbl Ka Ha Kb Hb Kc3 Hc3 Hd
   obtain ⟨g, hg⟩ : ∃ g, g = w5.heap.size := ⟨_, rfl⟩
   rw [← hg] at HLT HR4 ⊢
   clear hg
   go_loopw [27] (fun v wr => ∃ i : Nat, i ≤ 4 ∧ v = .int .i64 i ∧ Azz (RowKit.Below V.heap.size V wr)) (fun v _ => 4 - (intOf v).toNat)
   case atStart => exact ⟨0, by omega, rfl, ⟨Below.refl _ _⟩⟩
   case round =>
    obtain ⟨i, hi, rfl, HW⟩ := hrel
    by_cases hlt : i < 4
    ·obtain ⟨t, At, ct, e, ⟨c0, c1, c2, c3, c4, c5⟩, ce, ht, hg⟩ := (HR4.out.below HW.out) i hlt
     rcases hg with ⟨he, rfl⟩ | ⟨rfl, hrt, more, mr, aa, hal, rfl⟩
     ·have h1 : (e != 0) = true := bne_iff_ne.mpr he
      have h2 : (e == 0) = false := beq_eq_false_iff_ne.mpr he
      clear ht he
      replace c0 : wr.cell? ⟨g + 1, i * 6, none⟩ = some (.string ⟨#[]⟩) := c0
      replace c1 : wr.cell? ⟨g + 1, i * 6 + 1, none⟩ = some (.int .i64 0) := c1
      replace c2 : wr.cell? ⟨g + 1, i * 6 + 2, none⟩ = some (.bool false) := c2
      replace c3 : wr.cell? ⟨g + 1, i * 6 + 3, none⟩ = some (.int .i64 0) := c3
      replace c4 : wr.cell? ⟨g + 1, i * 6 + 4, none⟩ = some (.string ⟨#[]⟩) := c4
      replace c5 : wr.cell? ⟨g + 1, i * 6 + 5, none⟩ = some (.slice At 0 ct) := c5
      have ce1 := ((bAA (Below.refl wr.heap.size wr) (.cells #[.string ⟨#[]⟩, .int .i64 0, .bool false, .int .i64 0, .string ⟨#[]⟩, .slice At 0 ct] 44)).cell (World.block_lt_of_cell? _ _ ce)).trans ce
      clear ce
      go_wp2
      go_roundw
      case rel => exact ⟨i + 1, by omega, by go_num, ⟨HW.out.alloc HW.out.size (.cells #[.string ⟨#[]⟩, .int .i64 0, .bool false, .int .i64 0, .string ⟨#[]⟩, .slice At 0 ct] 44)⟩⟩
      case measure => simp [intOf]; omega
     ·have HI := Azz.mk ((is_iff _).2 hrt)
      have f1 : s.data.size ≤ (s.data ++ more).size := by rw [ByteArray.size_append]; omega
      have f2 : (s.data ++ more).extract 0 s.data.size = s.data := by rw [extract_more _ _ _ _ (Nat.le_refl _)]; simp
      have f3 : s.rels.length ≤ (s.rels ++ mr).length := by simp
      have HF := Azz.mk (show (s.rels ++ mr).take s.rels.length = s.rels by simp)
      have HT := Azz.mk ht
      clear ht hrt
      obtain ⟨D, hD⟩ : ∃ D, s.data ++ more = D := ⟨_, rfl⟩
      obtain ⟨L, hL⟩ : ∃ L, s.rels ++ mr = L := ⟨_, rfl⟩
      simp only [hD, hL] at HI f1 f2 f3 HF HT c0 c1 c2 c3 c4 c5
      clear hD hL
      have d1 : decide ((D.size : Int) < (s.data.size : Int)) = false := decide_eq_false (by omega)
      have d1n : decide (D.size < s.data.size) = false := decide_eq_false (by omega)
      have d4n : decide (L.length < s.rels.length) = false := decide_eq_false (by omega)
      have d2 : ((D.extract 0 s.data.size).toList != s.data.toList) = false := by rw [f2]; simp
      have d3 : ((D.extract 0 s.data.size).toList == s.data.toList) = true := by rw [f2]; simp
      have d4 : decide ((L.length : Int) < (s.rels.length : Int)) = false := decide_eq_false (by omega)
      have d5 : decide (aa < s.al) = false := decide_eq_false (by omega)
      have d6 : (s.n.toList != s.n.toList) = false := by simp
      have d7 : (s.kd != s.kd) = false := by simp
      have d8 : (s.keep != s.keep) = false := by simp
      clear f2
      have f4 : ¬ (D.size : Int) < s.data.size := by omega
      have f5 : ¬ (L.length : Int) < s.rels.length := by omega
      have f6 : ¬ aa < s.al := by omega
      have HB0 := Azz.mk (bAA (Below.refl wr.heap.size wr) (.cells #[.string s.n, .int .i64 s.kd, .bool s.keep, .int .i64 aa, .string D, .slice At L.length ct] 44))
      have ce1 := (HB0.out.cell (World.block_lt_of_cell? _ _ ce)).trans ce
      clear ce
      have K1 := blk_new wr (.cells #[.string s.n, .int .i64 s.kd, .bool s.keep, .int .i64 aa, .string D, .slice At L.length ct] 44)
      have K2 := kBB (kBB Ks.out HW.out) HB0.out
      go_wp2_with fail
      clear c0 c1 c2 c3 c4 c5 ce1
      obtain ⟨Wt, hWt⟩ : ∃ Wt, wr.alloc (.cells #[.string s.n, .int .i64 s.kd, .bool s.keep, .int .i64 aa, .string D, .slice At L.length ct] 44) = Wt := ⟨_, rfl⟩
      have HBt : Azz (RowKit.Below V.heap.size V Wt) := ⟨by rw [← hWt]; exact bTT HW.out HB0.out⟩
      have HTt : Azz (ScAt Wt At ct ⟨s.n, s.kd, s.keep, aa, D, L⟩) := ⟨by rw [← hWt]; exact HT.out.below HB0.out⟩
      obtain ⟨gt, hgt⟩ : ∃ gt, wr.heap.size = gt := ⟨_, rfl⟩
      rw [hWt] at K1 K2 ⊢
      rw [hgt] at K1 ⊢
      clear hWt hgt HB0
      have HI1 := Azz.mk (show ∀ W : World, RowKit.Below Wt.heap.size Wt W → Calls Tryz.prog 27 #[.agg #[.string s.n, .int .i64 s.kd, .bool s.keep, .int .i64 aa, .string D, .slice At L.length ct]] W (fun x w' => x = .returned (.bool true) ∧ RowKit.Below W.heap.size W w') from fun W h => is_calls HI.out W At ct (HG.out.below (bTT HB.out (bTT HBt.out h))) (HTt.out.below h))
      have HS1 := Azz.mk (fun (W : World) (h : RowKit.Below Wt.heap.size Wt W) => rels_calls (ht := HTt.out.below h) (hs := Hs.out.below (bTT HBt.out h)) HF.out f3 hs.2)
      have hsl := slice_head At L.length ct s.rels.length (by have := HTt.out.le; simp only at this; omega)
      obtain ⟨z0t, z1t, z2t, z3t, z4t, z5t⟩ := cel6 K1
      obtain ⟨z0s, z1s, z2s, z3s, z4s, z5s⟩ := cel6 K2
      clear K1 K2
      go_region_held3 (fun w' => w'.cell? ⟨gt, 0, none⟩ = some (.string s.n) ∧ w'.cell? ⟨gt, 1, none⟩ = some (.int .i64 s.kd) ∧ w'.cell? ⟨gt, 2, none⟩ = some (.bool s.keep) ∧ w'.cell? ⟨gt, 3, none⟩ = some (.int .i64 aa) ∧ w'.cell? ⟨gt, 4, none⟩ = some (.string D) ∧ w'.cell? ⟨gt, 5, none⟩ = some (.slice At L.length ct) ∧ w'.cell? ⟨w.heap.size, 0, none⟩ = some (.string s.n) ∧ w'.cell? ⟨w.heap.size, 1, none⟩ = some (.int .i64 s.kd) ∧ w'.cell? ⟨w.heap.size, 2, none⟩ = some (.bool s.keep) ∧ w'.cell? ⟨w.heap.size, 3, none⟩ = some (.int .i64 s.al) ∧ w'.cell? ⟨w.heap.size, 4, none⟩ = some (.string s.data) ∧ w'.cell? ⟨w.heap.size, 5, none⟩ = some (.slice A s.rels.length c)) (first | go_keep | exact keep12 (by assumption) hb) (first | (go_at_call 27; (with_reducible refine (HI1.out _ ?gb).mono ?_); (case gb => repeat (first | exact Below.refl _ _ | apply bDD | apply bNN | (refine bTT ?_ (by assumption)))); rintro e w2 ⟨rfl, hb⟩) | (go_at_call 35; (with_reducible refine (HS1.out _ ?gb).mono ?_); (case gb => repeat (first | exact Below.refl _ _ | apply bDD | apply bNN | (refine bTT ?_ (by assumption)))); rintro e w2 ⟨rfl, hb⟩))
      all_goals go_wp2
      all_goals go_roundw
      case rel => exact ⟨i + 1, by omega, by go_num, ⟨by repeat (first | (with_reducible exact HBt.out) | (with_reducible apply bNN) | (with_reducible apply bDD) | (refine bTT ?_ (by assumption)))⟩⟩
      case measure => simp [intOf]; omega
    ·have HZ0 := Azz.mk (bTT HB.out HW.out)
     have kk := kBB Ks.out HW.out
     obtain ⟨z0s, z1s, z2s, z3s, z4s, z5s⟩ := cel6 kk
     clear kk
     rcases ends_cases s with ⟨hi1, hr1⟩ | ⟨hi1, hr1⟩
     ·have HI := Azz.mk hi1; clear hi1 hr1
      go_wp2_with fail
      clear z0s z1s z2s z3s z4s z5s
      (with_reducible refine (grown_calls _ (HG.out.below HZ0.out)).mono ?_)
      rintro e w6 ⟨rfl, hb⟩
      have HZ := Azz.mk (bTT HZ0.out hb)
      have Hs6 := Azz.mk ((Hs.out.below HW.out).below hb)
      have kk := kBB (kBB Ks.out HW.out) hb
      obtain ⟨z0s, z1s, z2s, z3s, z4s, z5s⟩ := cel6 kk
      clear kk hb
      go_wp2_with fail
      (with_reducible refine (is_calls HI.out _ A c (HG.out.below HZ.out) Hs6.out).mono ?_)
      rintro e w7 ⟨rfl, hb⟩
      have HY := Azz.mk (bTT HZ.out hb)
      clear hb
      go_wp2
      go_ret
      exact ⟨rfl, HY.out⟩
     ·have HI := Azz.mk hi1; obtain rfl := hea hr1; obtain rfl := heb hr1; obtain rfl := hec hr1; obtain rfl := hed hr1; clear hi1 hr1
      go_wp2_with fail
      clear z0s z1s z2s z3s z4s z5s
      (with_reducible refine (grown_calls _ (HG.out.below HZ0.out)).mono ?_)
      rintro e w6 ⟨rfl, hb⟩
      have HZ := Azz.mk (bTT HZ0.out hb)
      have Hs6 := Azz.mk ((Hs.out.below HW.out).below hb)
      have kk := kBB (kBB Ks.out HW.out) hb
      obtain ⟨z0s, z1s, z2s, z3s, z4s, z5s⟩ := cel6 kk
      clear kk hb
      go_wp2_with fail
      (with_reducible refine (is_calls HI.out _ A c (HG.out.below HZ.out) Hs6.out).mono ?_)
      rintro e w7 ⟨rfl, hb⟩
      have HY := Azz.mk (bTT HZ.out hb)
      clear hb
      go_wp2
      go_ret
      exact ⟨rfl, HY.out⟩
end Go.Proofs.YtiadfdehplkojaaGreatDoor.Pure
