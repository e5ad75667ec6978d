/- Walks and plain laws of this claim, a part. -/
import Derived.Test.YtngmipfodjgmmaaGreatDoorSw82
set_option maxRecDepth 100000
set_option maxHeartbeats 4000000
set_option linter.unusedVariables false
set_option linter.unusedSimpArgs false
namespace Go.Proofs.YtngmipfodjgmmaaGreatDoor.Pure
open Go Go.RowKit Go.Lib Go.Shelf Go.Maps YtngmipfodjgmmaaGreatDoorW.PrintWords YtngmipfodjgmmaaGreatDoorW.PrintLast YtngmipfodjgmmaaGreatDoorW.PrintMore YtngmipfodjgmmaaGreatDoorW.PrintWords
open P (Glob)
theorem info_pl : (Tryz.prog.info? 49).map (fun i => (i.zero, i.size, i.bytes)) = some (some (.agg #[.int .i64 0, .int .i64 0, .int .i64 0]), 3, 24) := by kernel_rfl
/-- How many places of object i are told. -/
def toldN (os : List Ob) (o k i : Nat) : Nat := if i < o then nsy os i else if i = o then k else 0
theorem toldN_next (os : List Ob) (o i : Nat) : toldN os (o + 1) 0 i = toldN os o (nsy os o) i := by
 unfold toldN
 by_cases a : i < o
 ·rw [if_pos a, if_pos (by omega)]
 ·by_cases b : i = o
  ·subst b
   rw [if_pos (by omega), if_neg a, if_pos rfl]
  ·rw [if_neg a, if_neg b, if_neg (by omega)]
   by_cases c : i = o + 1
   ·rw [if_pos c]
   ·rw [if_neg c]
abbrev RowR (W : World) (B : Nat) (v : Value) (l : List Pl) : Prop := Kd.R P.k49 49 W B (fun _ => True) v l
/-- The rows of places, under way. -/
structure Rows2 (B : Nat) (os : List Ob) (al : Nat) (vs : List Value) (o k : Nat) (W : World) : Prop where
 len : vs.length = os.length
 blk : W.heap[al]? = some (.cells vs.toArray 90 (0, 0))
 row : ∀ i, i < os.length → RowR W B (vs.getD i undef) (plRow os i (toldN os o k i))
 apart : ∀ i j, i < os.length → j < os.length → i ≠ j → ∀ g, (vs.getD i undef).ownBlock = some g → (vs.getD j undef).ownBlock ≠ some g
structure R2 (B : Nat) (w0 : World) (os : List Ob) (pb fb ab pm pn al : Nat) (vs : List Value) (o k : Nat) (W : World) : Prop where
 pbox : Boxed W pb 88 (.map (some pm))
 pmap : PMap W pm pn (placeS os)
 fblk : FB W fb 0 0 0
 abox : Boxed W ab 43 (.slice (some ⟨al, 0, none⟩) os.length os.length)
 rows : Rows2 B os al vs o k W
 nolost : NoLost os o k
 below : Below B w0 W
 base : B ≤ pb ∧ B ≤ fb ∧ B ≤ ab ∧ B ≤ al
theorem R2.size {B w0 os pb fb ab pm pn al vs o k W} (h : R2 B w0 os pb fb ab pm pn al vs o k W) : B ≤ W.heap.size := by
 have := h.pbox.lt
 have := h.base
 omega
theorem Rows2.below {B os al vs o k W W'} (h : Rows2 B os al vs o k W) (hb : Below W.heap.size W W') : Rows2 B os al vs o k W' :=
 ⟨h.len, kBB h.blk hb, fun i hi => Kd.R_below (h.row i hi) hb, h.apart⟩
theorem R2.alloc {B w0 os pb fb ab pm pn al vs o k W} (h : R2 B w0 os pb fb ab pm pn al vs o k W) (x : Obj) : R2 B w0 os pb fb ab pm pn al vs o k (W.alloc x) :=
 ⟨h.pbox.alloc x, h.pmap.alloc x, kAA h.fblk x, h.abox.alloc x, h.rows.below ((Below.refl _ _).alloc (Nat.le_refl _) _), h.nolost, h.below.alloc h.size x, h.base⟩
theorem R2.drew {B w0 os pb fb ab pm pn al vs o k W} (h : R2 B w0 os pb fb ab pm pn al vs o k W) : R2 B w0 os pb fb ab pm pn al vs o k W.drew :=
 ⟨h.pbox, h.pmap.drew, h.fblk, h.abox, h.rows.below (bDD (Below.refl _ _)), h.nolost, bDD h.below, h.base⟩
theorem R2.drewN {B w0 os pb fb ab pm pn al vs o k W} (h : R2 B w0 os pb fb ab pm pn al vs o k W) (n : Nat) : R2 B w0 os pb fb ab pm pn al vs o k (W.drewN n) :=
 ⟨h.pbox, h.pmap.kept (row := none) ⟨rfl, rfl, rfl, Nat.le_refl _, fun _ _ _ => rfl⟩ (by simp), h.fblk, h.abox, h.rows.below (bNN (Below.refl _ _) n), h.nolost, bNN h.below n, h.base⟩
theorem R2.next {B w0 os pb fb ab pm pn al vs o W} (h : R2 B w0 os pb fb ab pm pn al vs o (nsy os o) W) : R2 B w0 os pb fb ab pm pn al vs (o + 1) 0 W := by
 obtain ⟨a, b, c, d, e, f, g, i⟩ := h
 exact ⟨a, b, c, d, ⟨e.len, e.blk, fun i hi => by rw [toldN_next]; exact e.row i hi, e.apart⟩, lex_next f, g, i⟩
/-- A cell of a block of another type is far from all rows of places. -/
theorem row_far {W : World} {B : Nat} {v : Value} {l : List Pl} (h : RowR W B v l) {b : Nat} {x : Obj} (hb : W.heap[b]? = some x) (hx : ∀ cells, x ≠ .cells cells 49 (0, 0)) : some b ≠ v.ownBlock := by
 intro e
 obtain ⟨cells, hc⟩ := Kd.R_typed h b e.symm
 rw [hb] at hc
 exact hx cells (Option.some.inj hc)
theorem boxed_set {w : World} {b t : Nat} {u : Value} (h : Boxed w b t u) {p : Addr} (hp : b ≠ p.block) (v : Value) : Boxed (w.setCell p v) b t u := (Below.heap_setCell _ _ _ b hp).trans h
theorem getD_set {α : Type} (l : List α) (i j : Nat) (x z : α) : (l.set i x).getD j z = if i = j ∧ i < l.length then x else l.getD j z := by
 rw [List.getD_eq_getElem?_getD, List.getElem?_set, List.getD_eq_getElem?_getD]
 by_cases a : i = j
 ·subst a
  by_cases b : i < l.length
  ·simp [b]
  ·simp [b, List.getElem?_eq_none (show l.length ≤ i by omega)]
 ·simp [a]
/-- A place is put behind the row of object o, and the row is laid back. -/
theorem R2.step {B w0 os pb fb ab pm pn al vs o k W w1 v1} (h : R2 B w0 os pb fb ab pm pn al vs o k W) (ho : o < os.length) (hl : ¬ Lost os (syN os o k)) (hR : RowR w1 B v1 (plRow os o k ++ [plS os o k])) (hb : Below B w0 w1)
 (hg : W.grownBy w1 (vs.getD o undef).ownBlock) (hat : v1.ownBlock = (vs.getD o undef).ownBlock ∨ ∃ b, v1.ownBlock = some b ∧ W.heap.size ≤ b) : R2 B w0 os pb fb ab pm pn al (vs.set o v1) o (k + 1) (w1.setCell ⟨al, o, none⟩ v1) := by
 have hro := h.rows.row o ho
 have hz := h.size
 have hlt := hb.size
 obtain ⟨a, b, c, d, e, f, g, i⟩ := h
 obtain ⟨D, ⟨es, clock, hm1, hm2⟩, hm3⟩ := id b
 have f1 := row_far hro a (fun _ => by simp)
 have f2 := row_far hro hm1 (fun _ => by simp)
 have f3 := row_far hro c (fun _ => by simp)
 have f4 := row_far hro d (fun _ => by simp)
 have f5 := row_far hro e.blk (fun _ => by simp)
 have n1 : pb ≠ al := heap_nq a e.blk (by simp)
 have n2 : pm ≠ al := heap_nq hm1 e.blk (by simp)
 have n3 : fb ≠ al := heap_nq c e.blk (by simp)
 have n4 : ab ≠ al := heap_nq d e.blk (by simp)
 have hal : w1.heap[al]? = some (.cells vs.toArray 90 (0, 0)) := (hg.block al (Array.getElem?_eq_some_iff.1 e.blk).1 f5).trans e.blk
 have hol : o < vs.length := by rw [e.len]; exact ho
 refine ⟨boxed_set (boxed_grown a hg f1) n1 _, (b.kept hg f2).setCell n2 _, (Below.heap_setCell _ _ _ fb n3).trans ((hg.block fb (Array.getElem?_eq_some_iff.1 c).1 f3).trans c), boxed_set (boxed_grown d hg f4) n4 _, ⟨by rw [List.length_set]; exact e.len, ?_, fun j hj => ?_, fun j q hj hq hjq x hx => ?_⟩, lex_succ f hl, hb.setCell (p := ⟨al, o, none⟩) i.2.2.2 _, i⟩
 ·obtain ⟨hlt, hk2⟩ := Array.getElem?_eq_some_iff.1 hal
  show (w1.heap.modify al _)[al]? = _
  rw [Array.getElem?_eq_getElem (by rw [Array.size_modify]; exact hlt), Array.getElem_modify_self, hk2]
  simp
 ·rw [getD_set]
  by_cases c : o = j
  ·subst c
   rw [if_pos ⟨rfl, hol⟩]
   have e2 : toldN os o (k + 1) o = k + 1 := by unfold toldN; rw [if_neg (by omega), if_pos rfl]
   rw [e2, plRow_succ]
   exact Kd.R_set hR hal (by decide) o v1
  ·rw [if_neg (fun h => c h.1)]
   have e2 : toldN os o (k + 1) j = toldN os o k j := by
    unfold toldN
    by_cases q : j < o
    ·rw [if_pos q, if_pos q]
    ·rw [if_neg q, if_neg q, if_neg (fun h => c h.symm), if_neg (fun h => c h.symm)]
   rw [e2]
   have h1 := e.row j hj
   have h2 : Kd.R P.k49 49 W B (fun q => (vs.getD j undef).ownBlock = some q) (vs.getD j undef) (plRow os j (toldN os o k j)) := Kd.R_flat (fun h => h) h1 (fun q hq _ => hq)
   have h3 := Kd.R_grown h2 hg (fun q hq => fun x => e.apart j o hj ho (fun y => c y.symm) q hq x.symm)
   exact Kd.R_set (Kd.R_mono h3 (fun _ _ => trivial)) hal (by decide) o v1
 ·have old : ∀ q, q < os.length → q ≠ o → ∀ x, (vs.getD q undef).ownBlock = some x → v1.ownBlock ≠ some x := by
   intro q hq hqo x hx hv
   rcases hat with hat | ⟨b', hb', hle⟩
   ·rw [hat] at hv
    exact e.apart q o hq ho hqo x hx hv
   ·rw [hb'] at hv
    obtain rfl := Option.some.inj hv
    have := Kd.R_lt (e.row q hq) _ hx
    omega
  rw [getD_set] at hx ⊢
  by_cases c1 : o = j
  ·rw [if_pos ⟨c1, hol⟩] at hx
   rw [if_neg (fun h => hjq (c1.symm.trans h.1))]
   intro hy
   exact old q hq (fun h => hjq (c1.symm.trans h.symm)) x hy hx
  ·rw [if_neg (fun h => c1 h.1)] at hx
   by_cases c2 : o = q
   ·rw [if_pos ⟨c2, hol⟩]
    exact old j hj (fun h => c1 h.symm) x hx
   ·rw [if_neg (fun h => c2 h.1)]
    exact e.apart j q hj hq hjq x hx
def Stop2 (B : Nat) (w0 : World) (os : List Ob) (fb : Nat) (o k : Nat) (W : World) : Prop := FB W fb 6 o k ∧ Lost os (syN os o k) ∧ NoLost os o k ∧ Below B w0 W
def Post2 (B : Nat) (w0 : World) (os : List Ob) (pb fb ab pm pn al o k : Nat) (e : Ending) (w' : World) : Prop := (e = .returned (.bool true) ∧ ∃ vs, R2 B w0 os pb fb ab pm pn al vs o (k + 1) w') ∨ (e = .returned (.bool false) ∧ Stop2 B w0 os fb o k w')
theorem cell_grown {W w1 : World} {row : Option Nat} {b : Nat} {i : Nat} {x : Obj} {v : Value} (hg : W.grownBy w1 row) (hb : W.heap[b]? = some x) (hn : some b ≠ row) (hc : W.cell? ⟨b, i, none⟩ = some v) : w1.cell? ⟨b, i, none⟩ = some v := by
 have e := hg.block b (Array.getElem?_eq_some_iff.1 hb).1 hn
 rw [← hc]
 simp [World.cell?, e]
theorem resolve2_any (B : Nat) (w0 : World) (os : List Ob) (pb fb ab pm pn al : Nat) (vs : List Value) (o k : Nat) (W : World) (h : R2 B w0 os pb fb ab pm pn al vs o k W) (ho : o < os.length) (hk : k < nsy os o) (hol : os.length ≤ 100000) (hkl : k ≤ 100000)
 (hs : (syN os o k).f0.size ≤ 100) :
 Calls Tryz.prog 50 #[.int .i64 o, .int .i64 k, syV (syN os o k), .pointer (some ⟨pb, 0, none⟩), .pointer (some ⟨fb, 0, none⟩), .pointer (some ⟨ab, 0, none⟩)] W (Post2 B w0 os pb fb ab pm pn al o k) := by
 have HP := Azz.mk h
 have h1 := fun x y => ((h.pbox.alloc x).alloc y).cell
 have hF := Azz.mk h.fblk
 have ho0 : (0 : Int) ≤ (o : Int) := by omega
 have ho1 : (o : Int) < os.length := by omega
 clear h
 obtain ⟨v, hv⟩ : ∃ v, vs.getD o undef = v := ⟨_, rfl⟩
 have HV := Azz.mk hv
 clear hv
 obtain ⟨s, hse⟩ : ∃ s, syN os o k = s := ⟨_, rfl⟩
 have HSe := Azz.mk hse
 rw [hse] at hs ⊢
 clear hse
 obtain ⟨nm, bd, sc, off⟩ := s
 have hs : nm.size ≤ 100 := hs
 unfold syV
 dsimp only
 have HNm : Azz ((syN os o k).f0 = nm) := ⟨by rw [HSe.out]⟩
 have HBd : Azz ((syN os o k).f1 = bd) := ⟨by rw [HSe.out]⟩
 obtain ⟨pv, hpv⟩ : ∃ pv, pv = W.heap.size + 1 := ⟨_, rfl⟩
 by_cases hb : bd = 1
 ·subst hb
  have HPl : Azz (plS os o k = ⟨(o : Int), sc, off⟩) := ⟨by unfold plS; rw [HSe.out]; rfl⟩
  go_enter Tryz.func50, Tryz.ntmps50
  go_wp2_with fail
  have hA := (HP.out.alloc (.cells #[.string nm, .int .i64 1, .int .i64 sc, .int .i64 off] 85)).alloc (.cells #[.int .i64 o, .int .i64 sc, .int .i64 off] 49)
  have hPv := blk_new (W.alloc (.cells #[.string nm, .int .i64 1, .int .i64 sc, .int .i64 off] 85)) (.cells #[.int .i64 o, .int .i64 sc, .int .i64 off] 49)
  rw [World.size_alloc] at hPv
  generalize (W.alloc (.cells #[.string nm, .int .i64 1, .int .i64 sc, .int .i64 off] 85)).alloc (.cells #[.int .i64 o, .int .i64 sc, .int .i64 off] 49) = Wp at hA hPv ⊢
  have HNo : Azz (some (W.heap.size + 1) ≠ v.ownBlock) := ⟨fun e => by have h0 := HP.out.rows.row o ho; rw [HV.out] at h0; have := Kd.R_lt h0 _ e.symm; omega⟩
  have HA := Azz.mk hA.drew
  have HPv : Azz (Wp.drew.heap[W.heap.size + 1]? = some (.cells #[.int .i64 (o : Int), .int .i64 sc, .int .i64 off] 49 (0, 0))) := ⟨hPv⟩
  have HVo : Azz (vs.toArray[o]? = some v) := ⟨by rw [← HV.out, List.getElem?_toArray, List.getD_eq_getElem?_getD, List.getElem?_eq_getElem (by rw [HA.out.rows.len]; exact ho)]; rfl⟩
  have HRo : Azz (RowR Wp.drew B v (plRow os o k)) := ⟨by have := HA.out.rows.row o ho; rw [HV.out] at this; unfold toldN at this; rw [if_neg (by omega), if_pos rfl] at this; exact this⟩
  clear hA hPv
  refine start_ (n := 11) (S := fun w' => w'.cell? ⟨ab, 0, none⟩ = some (.slice (some ⟨al, 0, none⟩) os.length os.length) ∧ w'.cell? ⟨al, o, none⟩ = some v ∧ w'.cell? ⟨W.heap.size + 1, 0, none⟩ = some (.int .i64 (o : Int)) ∧ w'.cell? ⟨W.heap.size + 1, 1, none⟩ = some (.int .i64 sc) ∧ w'.cell? ⟨W.heap.size + 1, 2, none⟩ = some (.int .i64 off)) (ds := [10]) #[false, false, false, false, false, false, false, false, false, false, false] (by kernel_rfl) rfl rfl ⟨HA.out.abox.cell, (kCC HA.out.rows.blk o).trans HVo.out, (cq3 HPv.out).1, (cq3 HPv.out).2.1, (cq3 HPv.out).2.2⟩ (fun hHeld => ?_)
  refine take_ (i := 0) (N := some 33) (v := ?_) (a' := ?_) #[true, false, false, false, false, false, false, false, false, false, false] rfl rfl (by kernel_rfl) (fun _ _ _ h => h) (Or.inl ⟨by rfl, ?_⟩) hHeld ?_ ?_
  rotate_left
  ·rintro w' ⟨s0_, s1_, s2_, s3_, s4_⟩
   go_simp
   with_reducible rfl
  rotate_left
  ·simp only [Act.put, List.setIfInBounds_toArray, List.set_cons_zero, List.set_cons_succ, i64_w, i32_w]
   rfl
  refine pure_ (i := 1) (N := some 34) (v := ?_) (a' := ?_) #[true, true, false, false, false, false, false, false, false, false, false] rfl rfl (by kernel_rfl) (fun _ _ _ h => h) (Or.inl ⟨by rfl, ?_⟩) ?_ ?_
  rotate_left
  ·intro w'
   go_simp
   with_reducible rfl
  rotate_left
  ·simp only [Act.put, List.setIfInBounds_toArray, List.set_cons_zero, List.set_cons_succ, i64_w, i32_w]
   rfl
  refine take_ (i := 2) (N := some 35) (v := ?_) (a' := ?_) #[true, true, true, false, false, false, false, false, false, false, false] rfl rfl (by kernel_rfl) (fun _ _ _ h => h) (Or.inl ⟨by rfl, ?_⟩) hHeld ?_ ?_
  rotate_left
  ·rintro w' ⟨s0_, s1_, s2_, s3_, s4_⟩
   go_simp
   with_reducible rfl
  rotate_left
  ·simp only [Act.put, List.setIfInBounds_toArray, List.set_cons_zero, List.set_cons_succ, i64_w, i32_w]
   rfl
  refine pure_ (i := 3) (N := some 36) (v := ?_) (a' := ?_) #[true, true, true, true, false, false, false, false, false, false, false] rfl rfl (by kernel_rfl) (fun _ _ _ h => h) (Or.inl ⟨by rfl, ?_⟩) ?_ ?_
  rotate_left
  ·intro w'
   go_simp
   with_reducible rfl
  rotate_left
  ·simp only [Act.put, List.setIfInBounds_toArray, List.set_cons_zero, List.set_cons_succ, i64_w, i32_w]
   rfl
  refine pure_ (i := 4) (N := some 37) (v := ?_) (a' := ?_) #[true, true, true, true, true, false, false, false, false, false, false] rfl rfl (by kernel_rfl) (fun _ _ _ h => h) (Or.inl ⟨by rfl, ?_⟩) ?_ ?_
  rotate_left
  ·intro w'
   go_simp
   with_reducible rfl
  rotate_left
  ·simp only [Act.put, List.setIfInBounds_toArray, List.set_cons_zero, List.set_cons_succ, i64_w, i32_w]
   rfl
  refine take_ (i := 5) (N := some 38) (v := ?_) (a' := ?_) #[true, true, true, true, true, true, false, false, false, false, false] rfl rfl (by kernel_rfl) (fun _ _ _ h => h) (Or.inl ⟨by rfl, ?_⟩) hHeld ?_ ?_
  rotate_left
  ·rintro w' ⟨s0_, s1_, s2_, s3_, s4_⟩
   go_simp
   with_reducible rfl
  rotate_left
  ·simp only [Act.put, List.setIfInBounds_toArray, List.set_cons_zero, List.set_cons_succ, i64_w, i32_w]
   rfl
  refine take_ (i := 6) (N := some 39) (v := ?_) (a' := ?_) #[true, true, true, true, true, true, true, false, false, false, false] rfl rfl (by kernel_rfl) (fun _ _ _ h => h) (Or.inl ⟨by rfl, ?_⟩) hHeld ?_ ?_
  rotate_left
  ·rintro w' ⟨s0_, s1_, s2_, s3_, s4_⟩
   go_simp
   with_reducible rfl
  rotate_left
  ·simp only [Act.put, List.setIfInBounds_toArray, List.set_cons_zero, List.set_cons_succ, i64_w, i32_w]
   rfl
  refine one_ (i := 7) (N := some 40) #[true, true, true, true, true, true, true, true, false, false, false] rfl rfl (by kernel_rfl) (by decide) (fun K hK => ?_)
  refine value_ (w1 := ?_) (v := ?_) (by rfl) rfl ?_ ?_
  rotate_left 2
  ·go_simp
   constructor
   ·rfl
   ·rfl
  refine hK.out _ _ ⟨(HA.out.abox.alloc _).cell, (kCC (kAA HA.out.rows.blk _) o).trans HVo.out, (cq3 (kAA HPv.out _)).1, (cq3 (kAA HPv.out _)).2.1, (cq3 (kAA HPv.out _)).2.2⟩ (fun hHeld => ?_)
  clear hK K
  refine norm_ (a' := ?_) ?_ ?_
  rotate_left
  ·show Act.put _ (some 40) _ = _
   simp only [Act.put, List.setIfInBounds_toArray, List.set_cons_zero, List.set_cons_succ, i64_w, i32_w]
   rfl
  refine one_ (i := 8) (N := some 41) #[true, true, true, true, true, true, true, true, true, false, false] rfl rfl (by kernel_rfl) (by decide) (fun K hK => ?_)
  refine Kd.R_append_step P.k49 (w0 := w0) B (by rfl) (.tmp 38) (.tmp 40) 90 49 (.agg #[.int .i64 0, .int .i64 0, .int .i64 0]) 24 rfl Tryz.underlying90 info_pl rfl (by decide) (by omega) v (plRow os o k) (⟨(o : Int), sc, off⟩ : Pl) [.int .i64 (o : Int), .int .i64 sc, .int .i64 off] (fun _ => True) (fun _ => False) rfl rfl (P.k49_mkM _ _ _ (⟨(o : Int), sc, off⟩ : Pl)) (fun _ hk => hk.elim) (fun _ _ => trivial) HRo.out HA.out.below HA.out.size (by rw [plRow_length]; omega) ?_
  intro v1 w1 hr1 hb1 hg1 hat1
  obtain ⟨Av, cv, ev⟩ := Kd.R_slice hr1
  obtain ⟨nn, hnn⟩ : ∃ nn, (plRow os o k ++ [(⟨(o : Int), sc, off⟩ : Pl)]).length = nn := ⟨_, rfl⟩
  rw [hnn] at ev
  subst ev
  clear hnn
  have HG1 := Azz.mk (And.intro hr1 (And.intro hb1 (And.intro hg1 hat1)))
  clear hr1 hb1 hg1 hat1
  refine hK.out _ _ ⟨cell_grown HG1.out.2.2.1 HA.out.abox (row_far HRo.out HA.out.abox (fun _ => by simp)) HA.out.abox.cell, cell_grown HG1.out.2.2.1 HA.out.rows.blk (row_far HRo.out HA.out.rows.blk (fun _ => by simp)) ((kCC HA.out.rows.blk o).trans HVo.out), cell_grown HG1.out.2.2.1 HPv.out HNo.out (cq3 HPv.out).1, cell_grown HG1.out.2.2.1 HPv.out HNo.out (cq3 HPv.out).2.1, cell_grown HG1.out.2.2.1 HPv.out HNo.out (cq3 HPv.out).2.2⟩ (fun hHeld => ?_)
  clear hK K
  refine norm_ (a' := ?_) ?_ ?_
  rotate_left
  ·show Act.put _ (some 41) _ = _
   simp only [Act.put, List.setIfInBounds_toArray, List.set_cons_zero, List.set_cons_succ, i64_w, i32_w]
   rfl
  refine pure_ (i := 9) (N := some 42) (v := ?_) (a' := ?_) #[true, true, true, true, true, true, true, true, true, true, false] rfl rfl (by kernel_rfl) (fun _ _ _ h => h) (Or.inl ⟨by rfl, ?_⟩) ?_ ?_
  rotate_left
  ·intro w'
   go_simp
   with_reducible rfl
  rotate_left
  ·simp only [Act.put, List.setIfInBounds_toArray, List.set_cons_zero, List.set_cons_succ, i64_w, i32_w]
   rfl
  refine last_ (i := 10) (N := none) #[true, true, true, true, true, true, true, true, true, true, true] rfl rfl (by kernel_rfl) (by decide) (fun K hK => ?_)
  have hcs : w1.cell? ⟨al, o, none⟩ = some v := hHeld.2.1
  have hfs : w1.frozen? ⟨al, o, none⟩ = false := kFF ((HG1.out.2.2.1.block al (Array.getElem?_eq_some_iff.1 HA.out.rows.blk).1 (row_far HRo.out HA.out.rows.blk (fun _ => by simp))).trans HA.out.rows.blk) o
  refine skip_ (w1 := ?_) (by rfl) rfl ?_ ?_
  rotate_left
  ·go_simp
   rfl
  refine hK.out _ _ ?_
  clear hK K
  refine done_ (by kernel_rfl) ?_
  go_wp2
  go_ret
  exact .inl ⟨rfl, _, HA.out.step ho (fun h => h.1 HBd.out) (by rw [HPl.out]; exact HG1.out.1) HG1.out.2.1 (by rw [HV.out]; exact HG1.out.2.2.1) (by rw [HV.out]; exact HG1.out.2.2.2)⟩
 ·have hne : (bd != 1) = true := bne_iff_ne.mpr hb
  have hne2 : (bd == 1) = false := beq_eq_false_iff_ne.mpr hb
  cases hf : placeS os nm with
  | none =>
   have HF := Azz.mk hf
   have hf1 : (placeS os nm).getD ⟨0, 0, 0⟩ = ⟨0, 0, 0⟩ := by rw [hf]; rfl
   have hf2 : (placeS os nm).isSome = false := by rw [hf]; rfl
   have HM := Azz.mk (And.intro hf1 hf2)
   clear hf hf1 hf2
   have hc3 := fun x y => cq3 (kAA (kAA hF.out x) y)
   have hf3 := fun x y => frzq (kAA (kAA hF.out x) y)
   go_enter Tryz.func50, Tryz.ntmps50
   go_wp2_with (at_lookup; refine wpl_plook _ rfl _ _ rfl pm _ _ nm 0 0 0 false rfl ((HP.out.pmap.alloc _).alloc _) rfl hs HM.out.1 HM.out.2 ?_)
   go_ret
   refine .inr ⟨rfl, set3_same _ _ _ _ _ _ _ _ _ (kAA (kAA hF.out _) _), ⟨by rw [HBd.out]; exact hb, by rw [HNm.out]; exact Option.map_eq_none_iff.1 HF.out⟩, HP.out.nolost, ?_⟩
   have hA := (HP.out.alloc (.cells #[.string nm, .int .i64 bd, .int .i64 sc, .int .i64 off] 85)).alloc (.cells #[.int .i64 0, .int .i64 0, .int .i64 0] 49)
   exact ((hA.below.setCell (p := ⟨fb, 0, none⟩) HP.out.base.2.1 _).setCell (p := ⟨fb, 1, none⟩) HP.out.base.2.1 _).setCell (p := ⟨fb, 2, none⟩) HP.out.base.2.1 _
  | some q =>
   obtain ⟨q1, q2, q3⟩ := q
   have HPl : Azz (plS os o k = ⟨q1, q2, q3⟩) := ⟨by unfold plS; rw [HSe.out, if_neg hb, hf]; rfl⟩
   have HF := Azz.mk hf
   have hf1 : (placeS os nm).getD ⟨0, 0, 0⟩ = ⟨q1, q2, q3⟩ := by rw [hf]; rfl
   have hf2 : (placeS os nm).isSome = true := by rw [hf]; rfl
   have HM := Azz.mk (And.intro hf1 hf2)
   clear hf hf1 hf2
   go_enter Tryz.func50, Tryz.ntmps50
   go_wp2_with (at_lookup; refine wpl_plook _ rfl _ _ rfl pm _ _ nm q1 q2 q3 true rfl ((HP.out.pmap.alloc _).alloc _) rfl hs HM.out.1 HM.out.2 ?_)
   have hA := (HP.out.alloc (.cells #[.string nm, .int .i64 bd, .int .i64 sc, .int .i64 off] 85)).alloc (.cells #[.int .i64 q1, .int .i64 q2, .int .i64 q3] 49)
   have hPv := blk_new (W.alloc (.cells #[.string nm, .int .i64 bd, .int .i64 sc, .int .i64 off] 85)) (.cells #[.int .i64 q1, .int .i64 q2, .int .i64 q3] 49)
   rw [World.size_alloc] at hPv
   generalize (W.alloc (.cells #[.string nm, .int .i64 bd, .int .i64 sc, .int .i64 off] 85)).alloc (.cells #[.int .i64 q1, .int .i64 q2, .int .i64 q3] 49) = Wp at hA hPv ⊢
   have HNo : Azz (some (W.heap.size + 1) ≠ v.ownBlock) := ⟨fun e => by have h0 := HP.out.rows.row o ho; rw [HV.out] at h0; have := Kd.R_lt h0 _ e.symm; omega⟩
   have HA := Azz.mk hA.drew
   have HPv : Azz (Wp.drew.heap[W.heap.size + 1]? = some (.cells #[.int .i64 q1, .int .i64 q2, .int .i64 q3] 49 (0, 0))) := ⟨hPv⟩
   have HVo : Azz (vs.toArray[o]? = some v) := ⟨by rw [← HV.out, List.getElem?_toArray, List.getD_eq_getElem?_getD, List.getElem?_eq_getElem (by rw [HA.out.rows.len]; exact ho)]; rfl⟩
   have HRo : Azz (RowR Wp.drew B v (plRow os o k)) := ⟨by have := HA.out.rows.row o ho; rw [HV.out] at this; unfold toldN at this; rw [if_neg (by omega), if_pos rfl] at this; exact this⟩
   clear hA hPv
   refine start_ (n := 11) (S := fun w' => w'.cell? ⟨ab, 0, none⟩ = some (.slice (some ⟨al, 0, none⟩) os.length os.length) ∧ w'.cell? ⟨al, o, none⟩ = some v ∧ w'.cell? ⟨W.heap.size + 1, 0, none⟩ = some (.int .i64 q1) ∧ w'.cell? ⟨W.heap.size + 1, 1, none⟩ = some (.int .i64 q2) ∧ w'.cell? ⟨W.heap.size + 1, 2, none⟩ = some (.int .i64 q3)) (ds := [10]) #[false, false, false, false, false, false, false, false, false, false, false] (by kernel_rfl) rfl rfl ⟨HA.out.abox.cell, (kCC HA.out.rows.blk o).trans HVo.out, (cq3 HPv.out).1, (cq3 HPv.out).2.1, (cq3 HPv.out).2.2⟩ (fun hHeld => ?_)
   refine take_ (i := 0) (N := some 33) (v := ?_) (a' := ?_) #[true, false, false, false, false, false, false, false, false, false, false] rfl rfl (by kernel_rfl) (fun _ _ _ h => h) (Or.inl ⟨by rfl, ?_⟩) hHeld ?_ ?_
   rotate_left
   ·rintro w' ⟨s0_, s1_, s2_, s3_, s4_⟩
    go_simp
    with_reducible rfl
   rotate_left
   ·simp only [Act.put, List.setIfInBounds_toArray, List.set_cons_zero, List.set_cons_succ, i64_w, i32_w]
    rfl
   refine pure_ (i := 1) (N := some 34) (v := ?_) (a' := ?_) #[true, true, false, false, false, false, false, false, false, false, false] rfl rfl (by kernel_rfl) (fun _ _ _ h => h) (Or.inl ⟨by rfl, ?_⟩) ?_ ?_
   rotate_left
   ·intro w'
    go_simp
    with_reducible rfl
   rotate_left
   ·simp only [Act.put, List.setIfInBounds_toArray, List.set_cons_zero, List.set_cons_succ, i64_w, i32_w]
    rfl
   refine take_ (i := 2) (N := some 35) (v := ?_) (a' := ?_) #[true, true, true, false, false, false, false, false, false, false, false] rfl rfl (by kernel_rfl) (fun _ _ _ h => h) (Or.inl ⟨by rfl, ?_⟩) hHeld ?_ ?_
   rotate_left
   ·rintro w' ⟨s0_, s1_, s2_, s3_, s4_⟩
    go_simp
    with_reducible rfl
   rotate_left
   ·simp only [Act.put, List.setIfInBounds_toArray, List.set_cons_zero, List.set_cons_succ, i64_w, i32_w]
    rfl
   refine pure_ (i := 3) (N := some 36) (v := ?_) (a' := ?_) #[true, true, true, true, false, false, false, false, false, false, false] rfl rfl (by kernel_rfl) (fun _ _ _ h => h) (Or.inl ⟨by rfl, ?_⟩) ?_ ?_
   rotate_left
   ·intro w'
    go_simp
    with_reducible rfl
   rotate_left
   ·simp only [Act.put, List.setIfInBounds_toArray, List.set_cons_zero, List.set_cons_succ, i64_w, i32_w]
    rfl
   refine pure_ (i := 4) (N := some 37) (v := ?_) (a' := ?_) #[true, true, true, true, true, false, false, false, false, false, false] rfl rfl (by kernel_rfl) (fun _ _ _ h => h) (Or.inl ⟨by rfl, ?_⟩) ?_ ?_
   rotate_left
   ·intro w'
    go_simp
    with_reducible rfl
   rotate_left
   ·simp only [Act.put, List.setIfInBounds_toArray, List.set_cons_zero, List.set_cons_succ, i64_w, i32_w]
    rfl
   refine take_ (i := 5) (N := some 38) (v := ?_) (a' := ?_) #[true, true, true, true, true, true, false, false, false, false, false] rfl rfl (by kernel_rfl) (fun _ _ _ h => h) (Or.inl ⟨by rfl, ?_⟩) hHeld ?_ ?_
   rotate_left
   ·rintro w' ⟨s0_, s1_, s2_, s3_, s4_⟩
    go_simp
    with_reducible rfl
   rotate_left
   ·simp only [Act.put, List.setIfInBounds_toArray, List.set_cons_zero, List.set_cons_succ, i64_w, i32_w]
    rfl
   refine take_ (i := 6) (N := some 39) (v := ?_) (a' := ?_) #[true, true, true, true, true, true, true, false, false, false, false] rfl rfl (by kernel_rfl) (fun _ _ _ h => h) (Or.inl ⟨by rfl, ?_⟩) hHeld ?_ ?_
   rotate_left
   ·rintro w' ⟨s0_, s1_, s2_, s3_, s4_⟩
    go_simp
    with_reducible rfl
   rotate_left
   ·simp only [Act.put, List.setIfInBounds_toArray, List.set_cons_zero, List.set_cons_succ, i64_w, i32_w]
    rfl
   refine one_ (i := 7) (N := some 40) #[true, true, true, true, true, true, true, true, false, false, false] rfl rfl (by kernel_rfl) (by decide) (fun K hK => ?_)
   refine value_ (w1 := ?_) (v := ?_) (by rfl) rfl ?_ ?_
   rotate_left 2
   ·go_simp
    constructor
    ·rfl
    ·rfl
   refine hK.out _ _ ⟨(HA.out.abox.alloc _).cell, (kCC (kAA HA.out.rows.blk _) o).trans HVo.out, (cq3 (kAA HPv.out _)).1, (cq3 (kAA HPv.out _)).2.1, (cq3 (kAA HPv.out _)).2.2⟩ (fun hHeld => ?_)
   clear hK K
   refine norm_ (a' := ?_) ?_ ?_
   rotate_left
   ·show Act.put _ (some 40) _ = _
    simp only [Act.put, List.setIfInBounds_toArray, List.set_cons_zero, List.set_cons_succ, i64_w, i32_w]
    rfl
   refine one_ (i := 8) (N := some 41) #[true, true, true, true, true, true, true, true, true, false, false] rfl rfl (by kernel_rfl) (by decide) (fun K hK => ?_)
   refine Kd.R_append_step P.k49 (w0 := w0) B (by rfl) (.tmp 38) (.tmp 40) 90 49 (.agg #[.int .i64 0, .int .i64 0, .int .i64 0]) 24 rfl Tryz.underlying90 info_pl rfl (by decide) (by omega) v (plRow os o k) (⟨q1, q2, q3⟩ : Pl) [.int .i64 q1, .int .i64 q2, .int .i64 q3] (fun _ => True) (fun _ => False) rfl rfl (P.k49_mkM _ _ _ (⟨q1, q2, q3⟩ : Pl)) (fun _ hk => hk.elim) (fun _ _ => trivial) HRo.out HA.out.below HA.out.size (by rw [plRow_length]; omega) ?_
   intro v1 w1 hr1 hb1 hg1 hat1
   obtain ⟨Av, cv, ev⟩ := Kd.R_slice hr1
   obtain ⟨nn, hnn⟩ : ∃ nn, (plRow os o k ++ [(⟨q1, q2, q3⟩ : Pl)]).length = nn := ⟨_, rfl⟩
   rw [hnn] at ev
   subst ev
   clear hnn
   have HG1 := Azz.mk (And.intro hr1 (And.intro hb1 (And.intro hg1 hat1)))
   clear hr1 hb1 hg1 hat1
   refine hK.out _ _ ⟨cell_grown HG1.out.2.2.1 HA.out.abox (row_far HRo.out HA.out.abox (fun _ => by simp)) HA.out.abox.cell, cell_grown HG1.out.2.2.1 HA.out.rows.blk (row_far HRo.out HA.out.rows.blk (fun _ => by simp)) ((kCC HA.out.rows.blk o).trans HVo.out), cell_grown HG1.out.2.2.1 HPv.out HNo.out (cq3 HPv.out).1, cell_grown HG1.out.2.2.1 HPv.out HNo.out (cq3 HPv.out).2.1, cell_grown HG1.out.2.2.1 HPv.out HNo.out (cq3 HPv.out).2.2⟩ (fun hHeld => ?_)
   clear hK K
   refine norm_ (a' := ?_) ?_ ?_
   rotate_left
   ·show Act.put _ (some 41) _ = _
    simp only [Act.put, List.setIfInBounds_toArray, List.set_cons_zero, List.set_cons_succ, i64_w, i32_w]
    rfl
   refine pure_ (i := 9) (N := some 42) (v := ?_) (a' := ?_) #[true, true, true, true, true, true, true, true, true, true, false] rfl rfl (by kernel_rfl) (fun _ _ _ h => h) (Or.inl ⟨by rfl, ?_⟩) ?_ ?_
   rotate_left
   ·intro w'
    go_simp
    with_reducible rfl
   rotate_left
   ·simp only [Act.put, List.setIfInBounds_toArray, List.set_cons_zero, List.set_cons_succ, i64_w, i32_w]
    rfl
   refine last_ (i := 10) (N := none) #[true, true, true, true, true, true, true, true, true, true, true] rfl rfl (by kernel_rfl) (by decide) (fun K hK => ?_)
   have hcs : w1.cell? ⟨al, o, none⟩ = some v := hHeld.2.1
   have hfs : w1.frozen? ⟨al, o, none⟩ = false := kFF ((HG1.out.2.2.1.block al (Array.getElem?_eq_some_iff.1 HA.out.rows.blk).1 (row_far HRo.out HA.out.rows.blk (fun _ => by simp))).trans HA.out.rows.blk) o
   refine skip_ (w1 := ?_) (by rfl) rfl ?_ ?_
   rotate_left
   ·go_simp
    rfl
   refine hK.out _ _ ?_
   clear hK K
   refine done_ (by kernel_rfl) ?_
   go_wp2
   go_ret
   exact .inl ⟨rfl, _, HA.out.step ho (fun h => by have := h.2; rw [HNm.out] at this; have h2 := HF.out; unfold placeS at h2; rw [this] at h2; cases h2) (by rw [HPl.out]; exact HG1.out.1) HG1.out.2.1 (by rw [HV.out]; exact HG1.out.2.2.1) (by rw [HV.out]; exact HG1.out.2.2.2)⟩
end Go.Proofs.YtngmipfodjgmmaaGreatDoor.Pure
