/- 'sym.Resolve' walked. -/
import Derived.Test.YtngmipfodjgmmaaGreatDoorSw83
set_option maxRecDepth 100000
set_option maxHeartbeats 4000000
set_option linter.unusedVariables false
set_option linter.unusedSimpArgs false
namespace Go.Proofs.YtngmipfodjgmmaaGreatDoor.Pure
open Go Go.RowKit Go.Lib Go.Shelf Go.Maps YtngmipfodjgmmaaGreatDoorW.PrintWords YtngmipfodjgmmaaGreatDoorW.PrintLast YtngmipfodjgmmaaGreatDoorW.PrintMore
open P (Glob)
theorem info_row : (Tryz.prog.info? 90).map (fun i => (i.zero, i.size, i.bytes)) = some (some (.slice none 0 0), 1, 24) := by kernel_rfl
theorem make_rows (n : Nat) (hn : n ≤ 100000) (W : World) : (Instr.makeSlice 43 (.int .i64 (n : Int)) (.int .i64 (n : Int))).run Tryz.prog W = .ok (.slice (some ⟨W.heap.size, 0, none⟩) n n) (W.alloc (.cells (madeCells #[.slice none 0 0] n) 90)) :=
 run_make_row' (P := Tryz.prog) 43 90 (.slice none 0 0) 24 Tryz.underlying43 info_row rfl .i64 .i64 n (by omega) (by omega) W
theorem made_rows (n : Nat) : madeCells #[.slice none 0 0] n = (List.replicate n (Value.slice none 0 0)).toArray := by
 refine Array.ext (by simp [madeCells]) fun i h1 h2 => ?_
 simp [madeCells, Nat.mod_one]
theorem rows2_start (B : Nat) (os : List Ob) (W : World) (al : Nat) (h : W.heap[al]? = some (.cells (madeCells #[.slice none 0 0] os.length) 90 (0, 0))) : Rows2 B os al (List.replicate os.length (.slice none 0 0)) 0 0 W := by
 have g : ∀ i, i < os.length → (List.replicate os.length (Value.slice none 0 0)).getD i undef = .slice none 0 0 := fun i hi => by simp [List.getD_eq_getElem?_getD, List.getElem?_replicate, hi]
 refine ⟨by simp, by rw [h, made_rows], fun i hi => ?_, fun i j hi hj _ x hx => ?_⟩
 ·rw [g i hi]
  have : toldN os 0 0 i = 0 := by unfold toldN; rw [if_neg (by omega)]; split <;> rfl
  rw [this]
  exact Kd.R_nil _ _ _ _ _
 ·rw [g i hi] at hx
  simp [Value.ownBlock] at hx
/-- What is at fault. -/
def Flt (os : List Ob) (c o k : Int) : Prop := (¬ AllOkO os ∧ ChkCode os c ∧ o = 0 ∧ k = 0) ∨ (AllOkO os ∧ ∃ i j : Nat, AtTw os i j ∧ c = 7 ∧ o = i ∧ k = j) ∨ (AllOkO os ∧ NoTw os os.length 0 ∧ ∃ i j : Nat, AtLost os i j ∧ c = 6 ∧ o = i ∧ k = j)
def ResPost (os : List Ob) (w : World) (e : Ending) (w' : World) : Prop := Below w.heap.size w w' ∧ ((∃ c o k, Flt os c o k ∧ e = .returned (.tuple #[.slice none 0 0, .agg #[.int .i64 c, .int .i64 o, .int .i64 k]])) ∨
 (AllOkO os ∧ NoTw os os.length 0 ∧ NoLost os os.length 0 ∧ ∃ al vs, e = .returned (.tuple #[.slice (some ⟨al, 0, none⟩) os.length os.length, .agg #[.int .i64 0, .int .i64 0, .int .i64 0]]) ∧ Rows2 w.heap.size os al vs os.length 0 w' ∧ w.heap.size ≤ al))
theorem res_bad {os : List Ob} {c o k : Int} (h : Flt os c o k) {w w' : World} (hb : Below w.heap.size w w') : ResPost os w (.returned (.tuple #[.slice none 0 0, .agg #[.int .i64 c, .int .i64 o, .int .i64 k]])) w' := ⟨hb, .inl ⟨c, o, k, h, rfl⟩⟩
theorem below_set3 {B : Nat} {w0 w : World} {g : Nat} (h : Below B w0 w) (hg : B ≤ g) (x y z : Value) : Below B w0 (((w.setCell ⟨g, 0, none⟩ x).setCell ⟨g, 1, none⟩ y).setCell ⟨g, 2, none⟩ z) := ((h.setCell (p := ⟨g, 0, none⟩) hg _).setCell (p := ⟨g, 1, none⟩) hg _).setCell (p := ⟨g, 2, none⟩) hg _
theorem rows_lower {B B' : Nat} {os : List Ob} {al : Nat} {vs : List Value} {o k : Nat} {W : World} (h : Rows2 B os al vs o k W) (hb : B' ≤ B) : Rows2 B' os al vs o k W := ⟨h.len, h.blk, fun i hi => Kd.R_lower (h.row i hi) hb, h.apart⟩
theorem rows_set {B : Nat} {os : List Ob} {al : Nat} {vs : List Value} {o k : Nat} {W : World} (h : Rows2 B os al vs o k W) {g : Nat} {cells : Array Value} {t : TypeId} (hb : W.heap[g]? = some (.cells cells t (0, 0))) (h1 : t ≠ 49) (h2 : t ≠ 90) (i : Nat) (u : Value) : Rows2 B os al vs o k (W.setCell ⟨g, i, none⟩ u) :=
 ⟨h.len, (Below.heap_setCell _ _ _ al (heap_nq h.blk hb (by intro e; injection e with _ e; exact h2 e.symm))).trans h.blk, fun i hi => Kd.R_set (h.row i hi) hb (fun q hq => by
  have : q = 49 := by simpa [P.k49, Kd.iso, Kd.pair, Kd.int, Kd.scalar] using hq
  rw [this]
  exact fun e => h1 e.symm) _ _, h.apart⟩
theorem rows_set3 {B : Nat} {os : List Ob} {al : Nat} {vs : List Value} {o k : Nat} {W : World} (h : Rows2 B os al vs o k W) {g : Nat} {a b c : Value} (hb : W.heap[g]? = some (.cells #[a, b, c] 45 (0, 0))) (x y z : Value) : Rows2 B os al vs o k (((W.setCell ⟨g, 0, none⟩ x).setCell ⟨g, 1, none⟩ y).setCell ⟨g, 2, none⟩ z) := by
 have one : ∀ (w : World) (cs : Array Value) (i : Nat) (v : Value), w.heap[g]? = some (.cells cs 45 (0, 0)) → (w.setCell ⟨g, i, none⟩ v).heap[g]? = some (.cells (cs.setIfInBounds i v) 45 (0, 0)) := by
  intro w cs i v h
  obtain ⟨hlt, hk2⟩ := Array.getElem?_eq_some_iff.1 h
  show (w.heap.modify g _)[g]? = _
  rw [Array.getElem?_eq_getElem (by rw [Array.size_modify]; exact hlt), Array.getElem_modify_self, hk2]
  simp
 exact rows_set (rows_set (rows_set h hb (by decide) (by decide) 0 x) (one _ _ 0 x hb) (by decide) (by decide) 1 y) (one _ _ 1 y (one _ _ 0 x hb)) (by decide) (by decide) 2 z
theorem resolve_any (w : World) (A : Option Addr) (c : Nat) (os : List Ob) (hG : Glob w) (hos : OA w A os) (hc : os.length ≤ c) (hf : FewL os) :
 Calls Tryz.prog 20 #[.slice A os.length c] w (ResPost os w) := by
 have HG := Azz.mk hG
 have HO := Azz.mk hos
 have HF := Azz.mk hf
 have hol := hf.1
 have HB0 := Azz.mk ((Below.refl w.heap.size w).alloc (Nat.le_refl _) (.cells #[.int .i64 0, .int .i64 0, .int .i64 0] 45))
 have hmm := @run_makeMap Tryz.prog
 have hmk := make_rows os.length (by omega)
 clear hG hos hf
 go_enter Tryz.func20, Tryz.ntmps20
 go_wp2_with fail
 (with_reducible refine (check_any _ A c os (HG.out.below HB0.out) (Kd.C_below HO.out HB0.out) hc HF.out).mono ?_)
 rintro e w2 ⟨m, rfl, hm, hw⟩
 have HB2 := Azz.mk (bTT HB0.out hw)
 have HR2 := Azz.mk (kBB (blk_new w _) hw)
 have hsz2 : w.heap.size < w2.heap.size := by have := hw.size; rw [World.size_alloc] at this; omega
 clear hw
 have HM := Azz.mk hm
 by_cases hm0 : m = 0
 ·subst hm0
  have HOk := Azz.mk (HM.out.ok.1 rfl)
  have HTm := Azz.mk (tame_of HOk.out HF.out)
  clear HM hm
  go_wp2_with fail
  have hW : R1 w2.heap.size w2 os (w2.heap.size + 1 + 1) w2.heap.size (w2.heap.size + 1) 0 0 (((w2.alloc (.cells #[.int .i64 0, .int .i64 0, .int .i64 0] 45)).alloc (.map #[] 0)).alloc (.cells #[.map (some (w2.heap.size + 1))] 82)) := by
   have b0 := Below.refl w2.heap.size w2
   refine ⟨?_, kAA (kAA (blk_new w2 _) _) _, ?_, lex_zero, ((b0.alloc (Nat.le_refl _) _).alloc (by simp) _).alloc (by simp; omega) _, by omega⟩
   ·have := Boxed.new ((w2.alloc (.cells #[.int .i64 0, .int .i64 0, .int .i64 0] 45)).alloc (.map #[] 0)) 82 (.map (some (w2.heap.size + 1)))
    rw [World.size_alloc, World.size_alloc] at this
    exact this
   ·have := NMap.made (w2.alloc (.cells #[.int .i64 0, .int .i64 0, .int .i64 0] 45))
    rw [World.size_alloc] at this
    exact (this.alloc _).congr fun s => ⟨fun h => h.elim, fun ⟨u, h⟩ => by cases h⟩
  have hE := each_any _ w2 A c os 48 #[.pointer (some ⟨w2.heap.size + 1 + 1, 0, none⟩), .pointer (some ⟨w2.heap.size, 0, none⟩)] (fun o k W => R1 w2.heap.size w2 os (w2.heap.size + 1 + 1) w2.heap.size (w2.heap.size + 1) o k W) (fun o k W => Stop1 w2.heap.size w2 os w2.heap.size o k W)
   (enters_of Tryz.func48 (by kernel_rfl) rfl) (Kd.C_below HO.out HB2.out) hc (by omega) (fun i hi => by have := (HTm.out.2 i hi).1; omega) (fun o k W h => h.below) hW (fun o W _ h => h.next) (fun o k W x h => h.alloc x)
   (fun o k W ho hk h => resolve1_any _ _ os _ _ _ o k W h (HTm.out.pre_le ho (Nat.le_of_lt hk)) ((HTm.out.2 o ho).2 k hk).1 (by omega))
  have HE := Azz.mk hE
  clear hE hW
  (with_reducible refine HE.out.mono ?_)
  rintro e V ⟨⟨r, rfl⟩, hV⟩
  clear HE
  rcases hV with hV | ⟨o1, k1, ho1, hk1, hV⟩
  ·have HV := Azz.mk hV
   have HBv := Azz.mk (bTT HB2.out hV.below)
   have HRv := Azz.mk (kBB HR2.out hV.below)
   have HNt := Azz.mk hV.notw
   have HF0 := Azz.mk hV.fblk
   obtain ⟨z0, z1, z2⟩ := cq3 hV.fblk
   have hfz : w2.heap.size < V.heap.size := (Array.getElem?_eq_some_iff.1 hV.fblk).1
   clear hV
   go_wp2_with fail
   (with_reducible refine (places_any _ A c os (Kd.C_below HO.out HBv.out) hc HTm.out).mono ?_)
   rintro e V2 ⟨pm, pn, rfl, hpm, hb2, hle, _⟩
   have HB4 := Azz.mk (bTT HV.out.below hb2)
   have HBv4 := Azz.mk (bTT HBv.out hb2)
   have HR4 := Azz.mk (kBB HRv.out hb2)
   have HF4 := Azz.mk (kBB HF0.out hb2)
   have HP4 := Azz.mk hpm
   have hz4 := hb2.size
   clear hpm hb2 z0 z1 z2 HV HF0 HRv HBv
   go_wp2_with fail
   have hW : R2 w2.heap.size w2 os V2.heap.size w2.heap.size (V2.heap.size + 1 + 1) pm pn (V2.heap.size + 1) (List.replicate os.length (.slice none 0 0)) 0 0 (((V2.alloc (.cells #[.map (some pm)] 88)).alloc (.cells (madeCells #[.slice none 0 0] os.length) 90)).alloc (.cells #[.slice (some ⟨V2.heap.size + 1, 0, none⟩) os.length os.length] 43)) := by
    refine ⟨((Boxed.new V2 88 (.map (some pm))).alloc _).alloc _, ((HP4.out.alloc _).alloc _).alloc _, kAA (kAA (kAA HF4.out _) _) _, ?_, rows2_start _ os _ _ ?_, lex_zero, ((HB4.out.alloc (by omega) _).alloc (by simp; omega) _).alloc (by simp; omega) _, by omega⟩
    ·have := Boxed.new ((V2.alloc (.cells #[.map (some pm)] 88)).alloc (.cells (madeCells #[.slice none 0 0] os.length) 90)) 43 (.slice (some ⟨V2.heap.size + 1, 0, none⟩) os.length os.length)
     rw [World.size_alloc, World.size_alloc] at this
     exact this
    ·have := blk_new (V2.alloc (.cells #[.map (some pm)] 88)) (.cells (madeCells #[.slice none 0 0] os.length) 90)
     rw [World.size_alloc] at this
     exact kAA this _
   have hE := each_any _ w2 A c os 50 #[.pointer (some ⟨V2.heap.size, 0, none⟩), .pointer (some ⟨w2.heap.size, 0, none⟩), .pointer (some ⟨V2.heap.size + 1 + 1, 0, none⟩)] (fun o k W => ∃ vs, R2 w2.heap.size w2 os V2.heap.size w2.heap.size (V2.heap.size + 1 + 1) pm pn (V2.heap.size + 1) vs o k W) (fun o k W => Stop2 w2.heap.size w2 os w2.heap.size o k W)
    (enters_of Tryz.func50 (by kernel_rfl) rfl) (Kd.C_below HO.out HB2.out) hc (by omega) (fun i hi => by have := (HTm.out.2 i hi).1; omega) (fun o k W ⟨_, h⟩ => h.below) ⟨_, hW⟩ (fun o W _ ⟨vs, h⟩ => ⟨vs, h.next⟩) (fun o k W x ⟨vs, h⟩ => ⟨vs, h.alloc x⟩)
    (fun o k W ho hk ⟨vs, h⟩ => resolve2_any _ _ os _ _ _ _ _ _ vs o k W h ho hk (by omega) (by have := (HTm.out.2 o ho).1; omega) ((HTm.out.2 o ho).2 k hk).1)
   have HE := Azz.mk hE
   clear hE hW HF4 HP4
   (with_reducible refine HE.out.mono ?_)
   rintro e V3 ⟨⟨r3, rfl⟩, hV⟩
   clear HE
   rcases hV with ⟨vs, hV⟩ | ⟨o1, k1, ho1, hk1, hV⟩
   ·have HV := Azz.mk hV
    have HBv := Azz.mk (bTT HB2.out hV.below)
    have HRv := Azz.mk (kBB HR2.out hV.below)
    obtain ⟨z0, z1, z2⟩ := cq3 hV.fblk
    have za := hV.abox.cell
    obtain ⟨y0, y1, y2⟩ := cq3 HRv.out
    have yf := frzq HRv.out
    have hzz : w.heap.size ≤ V2.heap.size + 1 := by have := HBv4.out.size; omega
    clear hV
    go_wp2
    have hq := set3_same V3 w.heap.size 45 (.int .i64 0) (.int .i64 0) (.int .i64 0) (.int .i64 0) (.int .i64 0) (.int .i64 0) HRv.out
    obtain ⟨q0, q1, q2⟩ := cq3 hq
    refine bodyPost_ret (v := .tuple #[.slice (some ⟨V2.heap.size + 1, 0, none⟩) os.length os.length, .agg #[.int .i64 0, .int .i64 0, .int .i64 0]]) (by simp [results, Tryz.results20, go_sem, q0, q1, q2]) rfl ⟨below_set3 HBv.out (Nat.le_refl _) _ _ _, .inr ⟨HOk.out, HNt.out, HV.out.nolost, _, vs, rfl, ?_, hzz⟩⟩
    exact rows_set3 (rows_lower HV.out.rows (by omega)) HRv.out _ _ _
   ·have HS := Azz.mk hV
    have HBv := Azz.mk (bTT HB2.out hV.2.2.2)
    have HRv := Azz.mk (kBB HR2.out hV.2.2.2)
    clear hV
    obtain ⟨z0, z1, z2⟩ := cq3 HS.out.1
    go_wp2
    refine start_ (n := 3) (S := fun w' => w'.cell? ⟨w2.heap.size, 0, none⟩ = some (.int .i64 6) ∧ w'.cell? ⟨w2.heap.size, 1, none⟩ = some (.int .i64 (o1 : Int)) ∧ w'.cell? ⟨w2.heap.size, 2, none⟩ = some (.int .i64 (k1 : Int))) (ds := [2]) #[false, false, false] (by kernel_rfl) rfl rfl ⟨z0, z1, z2⟩ (fun hHeld => ?_)
    have HRd := Azz.mk (show V3.drew.heap[w.heap.size]? = some (.cells #[.int .i64 0, .int .i64 0, .int .i64 0] 45 (0, 0)) from HRv.out)
    have HBd := Azz.mk (bDD HBv.out)
    generalize V3.drew = Vd at HRd HBd hHeld ⊢
    refine take_ (i := 0) (N := some 34) (v := ?_) (a' := ?_) #[true, false, false] rfl rfl (by kernel_rfl) (fun _ _ _ h => h) (Or.inl ⟨by rfl, ?_⟩) hHeld ?_ ?_
    rotate_left
    ·rintro w' ⟨s0_, s1_, s2_⟩
     go_simp
     with_reducible rfl
    rotate_left
    ·simp only [Act.put, List.setIfInBounds_toArray, List.set_cons_zero, List.set_cons_succ, i64_w, i32_w]
     rfl
    refine pure_ (i := 1) (N := some 2) (v := ?_) (a' := ?_) #[true, true, false] rfl rfl (by kernel_rfl) (fun _ _ _ h => h) (Or.inl ⟨by rfl, ?_⟩) ?_ ?_
    rotate_left
    ·intro w'
     go_simp
     with_reducible rfl
    rotate_left
    ·simp only [Act.put, List.setIfInBounds_toArray, List.set_cons_zero, List.set_cons_succ, i64_w, i32_w]
     rfl
    refine last_ (i := 2) (N := none) #[true, true, true] rfl rfl (by kernel_rfl) (by decide) (fun K hK => ?_)
    have hcs := cq3 HRd.out
    have hfs := frzq HRd.out
    obtain ⟨hc0_, hc1_, hc2_⟩ := hcs
    refine skip_ (w1 := ?_) (by rfl) rfl ?_ ?_
    rotate_left
    ·go_simp
     rfl
    refine hK.out _ _ ?_
    clear hK K
    refine done_ (by kernel_rfl) ?_
    go_wp2
    have hq := set3_same Vd w.heap.size 45 (.int .i64 0) (.int .i64 0) (.int .i64 0) (.int .i64 6) (.int .i64 (o1 : Int)) (.int .i64 (k1 : Int)) HRd.out
    obtain ⟨q0, q1, q2⟩ := cq3 hq
    refine bodyPost_ret (v := .tuple #[.slice none 0 0, .agg #[.int .i64 6, .int .i64 (o1 : Int), .int .i64 (k1 : Int)]]) (by simp [results, Tryz.results20, go_sem, q0, q1, q2]) rfl (res_bad (.inr (.inr ⟨HOk.out, HNt.out, o1, k1, ⟨ho1, hk1, HS.out.2.1, HS.out.2.2.1⟩, rfl, rfl, rfl⟩)) ?_)
    exact below_set3 HBd.out (Nat.le_refl _) _ _ _
  ·have HS := Azz.mk hV
   have HBv := Azz.mk (bTT HB2.out hV.2.2.2)
   have HRv := Azz.mk (kBB HR2.out hV.2.2.2)
   clear hV
   obtain ⟨z0, z1, z2⟩ := cq3 HS.out.1
   go_wp2
   refine start_ (n := 3) (S := fun w' => w'.cell? ⟨w2.heap.size, 0, none⟩ = some (.int .i64 7) ∧ w'.cell? ⟨w2.heap.size, 1, none⟩ = some (.int .i64 (o1 : Int)) ∧ w'.cell? ⟨w2.heap.size, 2, none⟩ = some (.int .i64 (k1 : Int))) (ds := [2]) #[false, false, false] (by kernel_rfl) rfl rfl ⟨z0, z1, z2⟩ (fun hHeld => ?_)
   have HRd := Azz.mk (show V.drew.heap[w.heap.size]? = some (.cells #[.int .i64 0, .int .i64 0, .int .i64 0] 45 (0, 0)) from HRv.out)
   have HBd := Azz.mk (bDD HBv.out)
   generalize V.drew = Vd at HRd HBd hHeld ⊢
   refine take_ (i := 0) (N := some 22) (v := ?_) (a' := ?_) #[true, false, false] rfl rfl (by kernel_rfl) (fun _ _ _ h => h) (Or.inl ⟨by rfl, ?_⟩) hHeld ?_ ?_
   rotate_left
   ·rintro w' ⟨s0_, s1_, s2_⟩
    go_simp
    with_reducible rfl
   rotate_left
   ·simp only [Act.put, List.setIfInBounds_toArray, List.set_cons_zero, List.set_cons_succ, i64_w, i32_w]
    rfl
   refine pure_ (i := 1) (N := some 2) (v := ?_) (a' := ?_) #[true, true, false] rfl rfl (by kernel_rfl) (fun _ _ _ h => h) (Or.inl ⟨by rfl, ?_⟩) ?_ ?_
   rotate_left
   ·intro w'
    go_simp
    with_reducible rfl
   rotate_left
   ·simp only [Act.put, List.setIfInBounds_toArray, List.set_cons_zero, List.set_cons_succ, i64_w, i32_w]
    rfl
   refine last_ (i := 2) (N := none) #[true, true, true] rfl rfl (by kernel_rfl) (by decide) (fun K hK => ?_)
   have hcs := cq3 HRd.out
   have hfs := frzq HRd.out
   obtain ⟨hc0_, hc1_, hc2_⟩ := hcs
   refine skip_ (w1 := ?_) (by rfl) rfl ?_ ?_
   rotate_left
   ·go_simp
    rfl
   refine hK.out _ _ ?_
   clear hK K
   refine done_ (by kernel_rfl) ?_
   go_wp2
   have hq := set3_same Vd w.heap.size 45 (.int .i64 0) (.int .i64 0) (.int .i64 0) (.int .i64 7) (.int .i64 (o1 : Int)) (.int .i64 (k1 : Int)) HRd.out
   obtain ⟨q0, q1, q2⟩ := cq3 hq
   refine bodyPost_ret (v := .tuple #[.slice none 0 0, .agg #[.int .i64 7, .int .i64 (o1 : Int), .int .i64 (k1 : Int)]]) (by simp [results, Tryz.results20, go_sem, q0, q1, q2]) rfl (res_bad (.inr (.inl ⟨HOk.out, o1, k1, ⟨ho1, hk1, HS.out.2.1, HS.out.2.2.1⟩, rfl, rfl, rfl⟩)) ?_)
   exact below_set3 HBd.out (Nat.le_refl _) _ _ _
 ·have hne : (m != 0) = true := bne_iff_ne.mpr hm0
  obtain ⟨y0, y1, y2⟩ := cq3 HR2.out
  have yf := frzq HR2.out
  go_wp2
  refine bodyPost_ret (v := .tuple #[.slice none 0 0, .agg #[.int .i64 m, .int .i64 0, .int .i64 0]]) (by simp [results, Tryz.results20, go_sem, y0, y1, y2]) rfl (res_bad (.inl ⟨fun h => hm0 (HM.out.ok.2 h), HM.out, rfl, rfl⟩) ?_)
  exact below_set3 HB2.out (Nat.le_refl _) _ _ _
end Go.Proofs.YtngmipfodjgmmaaGreatDoor.Pure
