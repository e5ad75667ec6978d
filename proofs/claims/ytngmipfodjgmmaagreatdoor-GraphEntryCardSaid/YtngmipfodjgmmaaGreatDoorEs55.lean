/- 'sym.places' walked: the two maps, joined. -/
import Derived.Test.YtngmipfodjgmmaaGreatDoorEs54
namespace Go.Proofs.YtngmipfodjgmmaaGreatDoor.Pure
open Go Go.RowKit Go.Lib Go.Shelf Go.Maps Go.Proofs.YtngmipfodjgmmaaGreatDoorW.PrintWords Go.Proofs.YtngmipfodjgmmaaGreatDoorW.PrintLast Go.Proofs.YtngmipfodjgmmaaGreatDoorW.PrintMore
open P (Glob)
set_option linter.unusedVariables false
set_option linter.unusedSimpArgs false
theorem placeS_or (os : List Ob) (n : ByteArray) : placeS os n = (fm strongQ (allS os) n).or (fm weakQ (allS os) n) := by
 unfold placeS placeT fm
 cases firstS strongQ (allS os) n <;> rfl
theorem fm_small {os : List Ob} (ht : Tame os) {q : Sy → Bool} (s : ByteArray) (p : Pl) (h : fm q (preS os os.length 0) s = some p) : s.size ≤ 100 := by
 unfold fm at h
 obtain ⟨t, h1, _⟩ := Option.map_eq_some_iff.1 h
 obtain ⟨h2, _, h3⟩ := firstS_some h1
 rw [← allS_pre] at h2
 obtain ⟨i, j, hi, hj, rfl⟩ := mem_all.1 h2
 rw [← h3]
 exact ((ht.2 i hi).2 j hj).1
/-- Joining, under way: h is f, and of g what has come. -/
def Joined (f g h : ByteArray → Option Pl) (left : Lit → Bool) : Prop := ∀ s, s.size ≤ 100 → (f s).isSome = true ∧ h s = f s ∨ f s = none ∧ (left (klS s) = true ∧ h s = none ∨ left (klS s) = false ∧ h s = g s)
structure JI (B : Nat) (w0 : World) (f g : ByteArray → Option Pl) (sb sm wm r n : Nat) (W : World) (left : Lit → Bool) (cnt : Nat) (h : ByteArray → Option Pl) (m : Nat) : Prop where
 sbox : Boxed W sb 88 (.map (some sm))
 smap : PMap W sm m h
 run : PRan W wm r n g left cnt
 join : Joined f g h left
 below : Below B w0 W
 base : B ≤ sb ∧ B ≤ sm ∧ B ≤ wm ∧ B ≤ r
 ne : sm ≠ wm ∧ sm ≠ r
 room : m + cnt ≤ 200000
theorem PRan.lt {w : World} {b r n : Nat} {f : ByteArray → Option Pl} {left : Lit → Bool} {cnt : Nat} (h : PRan w b r n f left cnt) : r < w.heap.size := h.choose_spec.1.lt
theorem PRan.ne {w : World} {b r n : Nat} {f : ByteArray → Option Pl} {left : Lit → Bool} {cnt : Nat} (h : PRan w b r n f left cnt) : r ≠ b := h.choose_spec.1.ne
theorem box_ne_iter {w : World} {sb t wm r n : Nat} {v : Value} {f : ByteArray → Option Pl} {left : Lit → Bool} {cnt : Nat} (h : Boxed w sb t v) (hr : PRan w wm r n f left cnt) : sb ≠ r := by
 rintro rfl
 obtain ⟨D, ⟨es, clock, since, seen, c0, _, _, _, _, h1, _⟩, _⟩ := hr
 rw [show w.heap[sb]? = _ from h] at h1
 cases h1
theorem JI.size {B w0 f g sb sm wm r n W left cnt h m} (j : JI B w0 f g sb sm wm r n W left cnt h m) : B ≤ W.heap.size := by
 have := j.sbox.lt
 have := j.base
 omega
/-- An entry has come; its name is there already. -/
theorem JI.old {B w0 f g sb sm wm r n W W' left left' cnt cnt' h m} (j : JI B w0 f g sb sm wm r n W left cnt h m) {s : ByteArray} {p q : Pl} (hs : s.size ≤ 100) (hl : left (klS s) = true) (hl' : left' (klS s) = false ∧ ∀ t, t ≠ s → left' (klS t) = left (klS t)) (hr : PRan W' wm r n g left' cnt') (hc : cnt' < cnt) (hg : W.grownBy W' (some r)) (hh : h s = some q) : JI B w0 f g sb sm wm r n W' left' cnt' h m := by
 have e1 := box_ne_iter j.sbox j.run
 refine ⟨boxed_grown j.sbox hg (by simpa using e1), j.smap.kept hg (by simpa using j.ne.2), hr, fun t ht => ?_, j.below.grown hg j.size (fun x hx => by obtain rfl := Option.some.inj hx; exact j.base.2.2.2), j.base, j.ne, by have := j.room; omega⟩
 by_cases e : t = s
 ·subst e
  rcases j.join t ht with a | ⟨a, ⟨b, c⟩ | ⟨b, c⟩⟩
  ·exact .inl a
  ·rw [hh] at c; cases c
  ·rw [hl] at b; cases b
 ·rw [hl'.2 t e]
  exact j.join t ht
theorem JI.step {B w0 f g sb sm wm r n W W' left left' cnt cnt' h m} (j : JI B w0 f g sb sm wm r n W left cnt h m) (hr : PRan W' wm r n g left' cnt') (hc : cnt' < cnt) (hg : W.grownBy W' (some r)) : Boxed W' sb 88 (.map (some sm)) ∧ PMap W' sm m h ∧ Below B w0 W' := by
 have e1 := box_ne_iter j.sbox j.run
 exact ⟨boxed_grown j.sbox hg (by simpa using e1), j.smap.kept hg (by simpa using j.ne.2), j.below.grown hg j.size (fun x hx => by obtain rfl := Option.some.inj hx; exact j.base.2.2.2)⟩
theorem JI.alloc {B w0 f g sb sm wm r n W left cnt h m} (j : JI B w0 f g sb sm wm r n W left cnt h m) (x : Obj) : JI B w0 f g sb sm wm r n (W.alloc x) left cnt h m :=
 ⟨j.sbox.alloc x, j.smap.alloc x, j.run.kept (World.grownBy_alloc W x none) (by simp) (by simp), j.join, j.below.alloc j.size x, j.base, j.ne, j.room⟩
/-- A name that was not there yet has been laid in (behind two blocks of the round's own). -/
theorem JI.new {B w0 f g sb sm wm r n W W' W2 left left' cnt cnt' h m} {x y : Obj} (j : JI B w0 f g sb sm wm r n W left cnt h m) {s : ByteArray} {p : Pl} (hs : s.size ≤ 100) (hp : g s = some p) (hl : left (klS s) = true) (hl' : left' (klS s) = false ∧ ∀ t, t ≠ s → left' (klS t) = left (klS t)) (hr : PRan W' wm r n g left' cnt') (hc : cnt' < cnt) (hg : W.grownBy W' (some r)) (hh : h s = none)
 (hm2 : PMap W2 sm (m + 1) (upP h s p)) (hg2 : ((W'.alloc x).alloc y).grownBy W2 (some sm)) : JI B w0 f g sb sm wm r n W2 left' cnt' (upP h s p) (m + 1) := by
 obtain ⟨b1, b2, b3⟩ := j.step hr hc hg
 have e1 := box_ne_map b1 b2
 have e2 := j.ne
 have hz : B ≤ W'.heap.size := by have := b1.lt; have := j.base; omega
 refine ⟨boxed_grown ((b1.alloc x).alloc y) hg2 (by simpa using e1), hm2, ((hr.kept (World.grownBy_alloc W' x none) (by simp) (by simp)).kept (World.grownBy_alloc _ y none) (by simp) (by simp)).kept hg2 (by simpa using e2.1.symm) (by simpa using e2.2.symm), fun t ht => ?_, ((b3.alloc hz x).alloc (by simp; omega) y).grown hg2 (by simp; omega) (fun q hq => by obtain rfl := Option.some.inj hq; exact j.base.2.1), j.base, j.ne, by have := j.room; omega⟩
 unfold upP
 by_cases e : t = s
 ·subst e
  rw [if_pos rfl]
  rcases j.join t ht with ⟨a, b⟩ | ⟨a, _⟩
  ·rw [hh] at b
   rw [← b] at a
   cases a
  ·exact .inr ⟨a, .inr ⟨hl'.1, hp.symm⟩⟩
 ·rw [if_neg e, hl'.2 t e]
  exact j.join t ht
theorem JI.done {B w0 f g sb sm wm r n W left cnt h m} (j : JI B w0 f g sb sm wm r n W left cnt h m) (hl : ∀ l, left l = false) (hf : ∀ s p, f s = some p → s.size ≤ 100) (hg : ∀ s p, g s = some p → s.size ≤ 100) : PMap W sm m (fun s => (f s).or (g s)) := by
 refine j.smap.congr fun s => ?_
 by_cases hs : s.size ≤ 100
 ·rcases j.join s hs with ⟨a, b⟩ | ⟨a, ⟨b, _⟩ | ⟨_, b⟩⟩
  ·rw [b]
   cases e : f s with
   | none => rw [e] at a; cases a
   | some p => rfl
  ·rw [hl] at b; cases b
  ·rw [a, b]
   rfl
 ·have e1 : f s = none := by
   cases e : f s with
   | none => rfl
   | some p => exact absurd (hf s p e) hs
  have e2 : g s = none := by
   cases e : g s with
   | none => rfl
   | some p => exact absurd (hg s p e) hs
  have e3 : h s = none := by
   cases e : h s with
   | none => rfl
   | some p =>
    obtain ⟨D, _, hd⟩ := j.smap
    exact absurd (hd.2 s p e).1 hs
  rw [e1, e2, e3]
  rfl
def PlacesPost (os : List Ob) (w : World) (e : Ending) (w' : World) : Prop := ∃ sm n, e = .returned (.map (some sm)) ∧ PMap w' sm n (placeS os) ∧ Below w.heap.size w w' ∧ w.heap.size ≤ sm ∧ n ≤ 200000
set_option maxRecDepth 100000 in
set_option maxHeartbeats 4000000 in
theorem places_any (w : World) (A : Option Addr) (c : Nat) (os : List Ob) (hos : OA w A os) (hc : os.length ≤ c) (ht : Tame os) :
 Calls Tryz.prog 49 #[.slice A os.length c] w (PlacesPost os w) := by
 have hmm := @run_makeMap Tryz.prog
 have HO := Azz.mk hos
 have HT := Azz.mk ht
 clear hos ht
 go_enter Tryz.func49, Tryz.ntmps49
 go_wp2_with fail
 have hW : PI w.heap.size w os (w.heap.size + 1 + 1) (w.heap.size + 1 + 1 + 1) w.heap.size (w.heap.size + 1) 0 0 ((((w.alloc (.map #[] 0)).alloc (.map #[] 0)).alloc (.cells #[.map (some w.heap.size)] 88)).alloc (.cells #[.map (some (w.heap.size + 1))] 88)) := by
  have b0 := Below.refl w.heap.size w
  refine ⟨?_, ?_, ?_, ?_, (((b0.alloc (Nat.le_refl _) _).alloc (by simp) _).alloc (by simp; omega) _).alloc (by simp; omega) _, by omega, by omega⟩
  ·have := Boxed.new ((w.alloc (.map #[] 0)).alloc (.map #[] 0)) 88 (.map (some w.heap.size))
   rw [World.size_alloc, World.size_alloc] at this
   exact this.alloc _
  ·have := Boxed.new (((w.alloc (.map #[] 0)).alloc (.map #[] 0)).alloc (.cells #[.map (some w.heap.size)] 88)) 88 (.map (some (w.heap.size + 1)))
   rw [World.size_alloc, World.size_alloc, World.size_alloc] at this
   exact this
  ·exact ((((PMap.made w).alloc _).alloc _).alloc _).congr fun s => rfl
  ·have := PMap.made (w.alloc (.map #[] 0))
   rw [World.size_alloc] at this
   exact ((this.alloc _).alloc _).congr fun s => rfl
 have hE := each_any _ w A c os 63 #[.pointer (some ⟨w.heap.size + 1 + 1, 0, none⟩), .pointer (some ⟨w.heap.size + 1 + 1 + 1, 0, none⟩)] (fun o k W => PI w.heap.size w os (w.heap.size + 1 + 1) (w.heap.size + 1 + 1 + 1) w.heap.size (w.heap.size + 1) o k W) (fun _ _ _ => False)
  (enters_of Tryz.func63 (by kernel_rfl) rfl) HO.out hc (by have := HT.out.1; omega) (fun i hi => by have := (HT.out.2 i hi).1; omega) (fun o k W h => h.below) hW (fun o W _ h => h.next) (fun o k W x h => h.alloc h.size x)
  (fun o k W ho hk h => (places1_any _ _ os _ _ _ _ o k W h h.size (HT.out.pre_le ho (Nat.le_of_lt hk)) ((HT.out.2 o ho).2 k hk).1 ((HT.out.2 o ho).2 k hk).2).mono fun e w' h => .inl h)
 have HE := Azz.mk hE
 clear hE hW hmm
 (with_reducible refine HE.out.mono ?_)
 rintro e V ⟨⟨r, rfl⟩, hV⟩
 replace hV := hV.resolve_right (fun ⟨_, _, _, _, h⟩ => h)
 clear HE
 have HV := Azz.mk hV
 have hb := hV.wbox.cell
 have hlen : (preS os os.length 0).length ≤ 100000 := by
  have h1 := preS_len (fun i hi => (HT.out.2 i hi).1) os.length (Nat.le_refl _)
  have h4 : os.length * 140 ≤ 12 * 140 := Nat.mul_le_mul_right _ HT.out.1
  rw [← allS_pre]
  unfold allS
  omega
 have hbs := hV.sbox.cell
 have hnw : (preS os os.length 0).length ≤ 100000 := hlen
 clear hV
 go_wp2_with (at_range; refine wpl_prange _ rfl _ rfl (w.heap.size + 1) _ _ rfl HV.out.wmap ?_; intro V1 left0 cnt0 hr0 hl0 hc0 hg0 hs0)
 go_frame
 have hJ0 : JI w.heap.size w (fm strongQ (preS os os.length 0)) (fm weakQ (preS os os.length 0)) (w.heap.size + 1 + 1) w.heap.size (w.heap.size + 1) V.heap.size (preS os os.length 0).length V1 left0 cnt0 (fm strongQ (preS os os.length 0)) (preS os os.length 0).length := by
  have hVs := HV.out.size
  refine ⟨boxed_grown HV.out.sbox hg0 (by simp), HV.out.smap.kept hg0 (by simp), hr0, fun s hs => ?_, HV.out.below.grown hg0 hVs (fun q hq => by cases hq), ⟨by omega, by omega, by omega, hVs⟩, ⟨by omega, by have := HV.out.smap.lt; omega⟩, by omega⟩
  cases e : fm strongQ (preS os os.length 0) s with
  | some p => exact .inl ⟨rfl, rfl⟩
  | none =>
   refine .inr ⟨rfl, ?_⟩
   cases e2 : left0 (klS s) with
   | true => exact .inl ⟨rfl, rfl⟩
   | false =>
    refine .inr ⟨rfl, ?_⟩
    cases e3 : fm weakQ (preS os os.length 0) s with
    | none => rfl
    | some p =>
     have := (hl0 s hs).2 (by rw [e3]; rfl)
     rw [e2] at this
     cases this
 have HJ0 := Azz.mk hJ0
 clear hJ0 hr0 hl0 hc0 hg0 hs0 hb hbs HV hlen hnw
 go_loopw [16] (fun v wr => ∃ left cnt h m, Azz (JI w.heap.size w (fm strongQ (preS os os.length 0)) (fm weakQ (preS os os.length 0)) (w.heap.size + 1 + 1) w.heap.size (w.heap.size + 1) V.heap.size (preS os os.length 0).length wr left cnt h m)) (fun _ wr => wr.rangeLeft (w.heap.size + 1) V.heap.size)
 case atStart => exact ⟨_, _, _, _, HJ0⟩
 case round =>
  clear HJ0
  obtain ⟨left, cnt, h, m, HJ⟩ := hrel
  have hbx := HJ.out.sbox.cell
  go_wp2_with (at_next; refine wpl_pnext _ rfl _ rfl (w.heap.size + 1) V.heap.size _ _ left cnt rfl HJ.out.run ?_ ?_)
  ·intro hd
   go_wp2
   go_ret
   refine ⟨w.heap.size, m, rfl, ?_, HJ.out.below, Nat.le_refl _, by have := HJ.out.room; omega⟩
   refine (HJ.out.done hd (fun s p hp => ?_) (fun s p hp => ?_)).congr fun s => ?_
   ·exact fm_small HT.out s p hp
   ·exact fm_small HT.out s p hp
   ·rw [placeS_or, allS_pre]
  ·intro s x1 x2 x3 w1 left1 cnt1 hf hs hl hla hlb hr1 hc1 hg1 hs1 hen
   have HK := Azz.mk (And.intro hf (And.intro hl (And.intro (And.intro hla hlb) (And.intro hr1 (And.intro hc1 hg1)))))
   have HS1 := Azz.mk (HJ.out.step hr1 hc1 hg1)
   have hbx1 := fun ob => (HS1.out.1.alloc ob).cell
   have hbx2 := HS1.out.1.cell
   have hbx3 := fun oa ob => ((HS1.out.1.alloc oa).alloc ob).cell
   clear hf hl hla hlb hr1 hc1 hg1 hbx
   cases hh : h s with
   | some q =>
    obtain ⟨q1, q2, q3⟩ := q
    have hf1 : (h s).getD ⟨0, 0, 0⟩ = ⟨q1, q2, q3⟩ := by rw [hh]; rfl
    have hf2 : (h s).isSome = true := by rw [hh]; rfl
    have HH := Azz.mk hh
    have HM := Azz.mk (And.intro hf1 hf2)
    clear hh hf1 hf2
    go_wp2_with (at_lookup; refine wpl_plook _ rfl _ _ rfl w.heap.size _ _ s q1 q2 q3 true rfl (HS1.out.2.1.alloc _) rfl hs HM.out.1 HM.out.2 ?_)
    go_roundw
    case rel =>
     obtain ⟨hf, hl, hl1, hr1, hc1, hg1⟩ := HK.out
     exact ⟨_, _, _, _, ⟨((HJ.out.old (p := ⟨x1, x2, x3⟩) hs hl hl1 hr1 hc1 hg1 HH.out).alloc _).alloc _⟩⟩
    case measure =>
     obtain ⟨hf, hl, hl1, hr1, hc1, hg1⟩ := HK.out
     have e1 := ((HJ.out.old (p := ⟨x1, x2, x3⟩) hs hl hl1 hr1 hc1 hg1 HH.out).alloc (.cells #[.int .i64 x1, .int .i64 x2, .int .i64 x3] 49)).alloc (.cells #[.int .i64 q1, .int .i64 q2, .int .i64 q3] 49)
     rw [e1.run.left_eq, HJ.out.run.left_eq]
     exact hc1
   | none =>
    have hf1 : (h s).getD ⟨0, 0, 0⟩ = ⟨0, 0, 0⟩ := by rw [hh]; rfl
    have hf2 : (h s).isSome = false := by rw [hh]; rfl
    have HH := Azz.mk hh
    have HM := Azz.mk (And.intro hf1 hf2)
    have hmm : m < maxLen := by have := HJ.out.room; unfold maxLen; omega
    clear hh hf1 hf2
    go_wp2_with (first
     | (at_lookup; refine wpl_plook _ rfl _ _ rfl w.heap.size _ _ s 0 0 0 false rfl (HS1.out.2.1.alloc _) rfl hs HM.out.1 HM.out.2 ?_)
     | (at_mapUpdate; refine wpl_pstore _ rfl _ _ _ rfl w.heap.size m _ s x1 x2 x3 rfl ((HS1.out.2.1.alloc _).alloc _) hmm rfl rfl hs ?_; intro w2 hm2 ht2; have HT := Azz.mk (And.intro hm2 ht2.grown); clear hm2 ht2))
    go_frame
    have HN : Azz (∃ cnt', cnt' < cnt ∧ JI w.heap.size w (fm strongQ (preS os os.length 0)) (fm weakQ (preS os os.length 0)) (w.heap.size + 1 + 1) w.heap.size (w.heap.size + 1) V.heap.size (preS os os.length 0).length w2 left1 cnt' (upP h s ⟨x1, x2, x3⟩) (m + 1)) := ⟨by
     obtain ⟨hf, hl, hl1, hr1, hc1, hg1⟩ := HK.out
     obtain ⟨hm2, hg2⟩ := HT.out
     exact ⟨cnt1, hc1, HJ.out.new hs hf hl hl1 hr1 hc1 hg1 HH.out hm2 hg2⟩⟩
    go_roundw
    case rel =>
     obtain ⟨c', _, hJ⟩ := HN.out
     exact ⟨_, _, _, _, ⟨hJ⟩⟩
    case measure =>
     obtain ⟨c', hc, hJ⟩ := HN.out
     rw [hJ.run.left_eq, HJ.out.run.left_eq]
     exact hc
end Go.Proofs.YtngmipfodjgmmaaGreatDoor.Pure
