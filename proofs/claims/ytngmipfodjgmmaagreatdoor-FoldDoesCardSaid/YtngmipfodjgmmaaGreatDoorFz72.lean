/- Going through a graph: 'spread' walked. -/
import Derived.Test.YtngmipfodjgmmaaGreatDoorFz71
import Derived.Sort.LoopGhostIn
set_option maxRecDepth 100000
set_option maxHeartbeats 4000000
set_option linter.unusedVariables false
set_option linter.unusedSimpArgs false
namespace Go.Proofs.YtngmipfodjgmmaaGreatDoor.P
open Go Go.RowKit Go.Lib Go.Shelf Wa Wb Wc Go.Proofs.YtngmipfodjgmmaaGreatDoor.Reach
attribute [local go_sem] Oper.semAt_some
def nd (us : List S39) (i : Nat) : List Nat := (ndI us i).map Int.toNat
def NdOk (us : List S39) : Prop := us.length ≤ 300 ∧ ∀ i, i < us.length → (rd_T39 us i).f5.length ≤ 100000 ∧ ∀ z ∈ ndI us i, 0 ≤ z ∧ z < us.length
def Rt (roots : List Int) (i : Nat) : Prop := (i : Int) ∈ roots
abbrev MkBox (w : World) (bs bw bm : Nat) : Prop := Boxed w bm 112 (.func (.func 67) #[] #[.pointer (some ⟨bs, 0, none⟩), .pointer (some ⟨bw, 0, none⟩)])
structure Inv (B : Nat) (w0 w : World) (us : List S39) (roots : List Int) (bs bw sb bm : Nat) (seen : List Bool) (wait : List Nat) (at_ : Option (Nat × List Nat)) : Prop where
 st : St B w bs bw sb seen wait
 sp : Sp (nd us) (Rt roots) us.length seen wait at_
 left : Reach.left seen wait ≤ 2 * us.length
 box : MkBox w bs bw bm
 below : Below B w0 w
theorem Inv.wait_le {B w0 w us roots bs bw sb bm seen wait at_} (h : Inv B w0 w us roots bs bw sb bm seen wait at_) : wait.length ≤ 2 * us.length := by
 have := h.left
 unfold Reach.left at this
 omega
theorem root_at (w : World) (A : Option Addr) (roots : List Int) (hr : Kd.C (Kd.int .i64) w A roots.length roots) (i : Nat) (hi : i < roots.length) : ∃ ad, A = some ad ∧ w.cell? (ad.add i) = some (.int .i64 (roots.getD i 0)) := by
 obtain ⟨ad, c, e, hc, hK, hat⟩ := Kd.C_get hr 0 i (by omega) (by omega)
 have hK : c = [.int .i64 (roots.getD i 0)] := by simpa [Kd.int, Kd.scalar] using hK
 subst hK
 have := hat 0 _ rfl
 exact ⟨ad, e, by simpa [Kd.int, Kd.scalar] using this⟩
theorem spread_start (w : World) (us : List S39) (roots : List Int) : Inv w.heap.size w ((((w.alloc (.cells (madeCells #[.bool false] us.length) 4)).alloc (.cells #[.slice (some ⟨w.heap.size, 0, none⟩) us.length us.length] 23)).alloc (.cells #[.slice none 0 0] 111)).alloc (.cells #[.func (.func 67) #[] #[.pointer (some ⟨w.heap.size + 1, 0, none⟩), .pointer (some ⟨w.heap.size + 1 + 1, 0, none⟩)]] 112))
 us roots (w.heap.size + 1) (w.heap.size + 1 + 1) w.heap.size (w.heap.size + 1 + 1 + 1) (List.replicate us.length false) [] none := by
 refine ⟨⟨?_, ?_, ⟨.slice none 0 0, ?_, World.ownsRow_nil _ _ _ _⟩, ⟨by omega, by omega, Nat.le_refl _⟩⟩, Sp.start _ _ _, by rw [left_start]; omega, ?_, ?_⟩
 ·rw [List.length_replicate]
  have h := Boxed.new (w.alloc (.cells (madeCells #[.bool false] us.length) 4)) 23 (.slice (some ⟨w.heap.size, 0, none⟩) us.length us.length)
  rw [World.size_alloc] at h
  exact (h.alloc _).alloc _
 ·rw [← made_bools]
  exact kAA (kAA (kAA (blk_new w (.cells (madeCells #[.bool false] us.length) 4)) _) _) _
 ·have h := Boxed.new ((w.alloc (.cells (madeCells #[.bool false] us.length) 4)).alloc (.cells #[.slice (some ⟨w.heap.size, 0, none⟩) us.length us.length] 23)) 111 (.slice none 0 0)
  rw [World.size_alloc, World.size_alloc] at h
  exact h.alloc _
 ·have h := Boxed.new (((w.alloc (.cells (madeCells #[.bool false] us.length) 4)).alloc (.cells #[.slice (some ⟨w.heap.size, 0, none⟩) us.length us.length] 23)).alloc (.cells #[.slice none 0 0] 111)) 112 (.func (.func 67) #[] #[.pointer (some ⟨w.heap.size + 1, 0, none⟩), .pointer (some ⟨w.heap.size + 1 + 1, 0, none⟩)])
  rw [World.size_alloc, World.size_alloc, World.size_alloc] at h
  exact h
 exact ((((Below.refl _ w).alloc (Nat.le_refl _) _).alloc (by simp) _).alloc (by simp; omega) _).alloc (by simp; omega) _
theorem Inv.root {B w0 w w' us roots bs bw sb bm seen wait seen' wait' k} (h : Inv B w0 w us roots bs bw sb bm seen wait none) (hk : k < us.length) (hr : Rt roots k) (hS : St B w' bs bw sb seen' wait') (hm : Mk seen wait k seen' wait') (ko : KeepsOthers w w') (hb : Below B w w') (hf : Far w w') :
 Inv B w0 w' us roots bs bw sb bm seen' wait' none ∧ sn seen' k ∧ ∀ i, sn seen i → sn seen' i := by
 obtain ⟨a, b, c, d⟩ := hm.left (by rw [h.sp.len]; exact hk)
 exact ⟨⟨hS, h.sp.root hm hk hr, Nat.le_trans a h.left, hf bm _ _ h.box (by decide) (by decide) (by decide), h.below.trans hb⟩, c, d⟩
theorem cells_kept' {W W' : World} {row : Option Nat} {B' b : Nat} {cs : Array Value} {t : TypeId} (hg : W.grownBy W' row) (hr : ∀ r, row = some r → B' ≤ r ∧ ∃ o : Obj, W.heap[r]? = some o ∧ o.isCells = false) (h : W.heap[b]? = some (.cells cs t (0, 0))) : W'.heap[b]? = some (.cells cs t (0, 0)) := by
 refine (hg.block b (Array.getElem?_eq_some_iff.1 h).1 fun e => ?_).trans h
 obtain ⟨_, o, ho, hc⟩ := hr b e.symm
 rw [h] at ho
 cases ho
 cases hc
theorem Inv.own {B w0 us roots bs bw sb bm seen wait at_ B'} (hB : B ≤ B') (hw0 : B ≤ w0.heap.size) {W W' : World} {row : Option Nat} (h : Inv B w0 W us roots bs bw sb bm seen wait at_) (hg : W.grownBy W' row) (hr : ∀ r, row = some r → B' ≤ r ∧ ∃ o : Obj, W.heap[r]? = some o ∧ o.isCells = false) : Inv B w0 W' us roots bs bw sb bm seen wait at_ := by
 obtain ⟨v, hv, ho⟩ := h.st.wbox
 refine ⟨⟨cells_kept' hg hr h.st.sbox, cells_kept' hg hr h.st.sblk, ⟨v, cells_kept' hg hr hv, ho.kept hg ?_⟩, h.st.base⟩, h.sp, h.left, cells_kept' hg hr h.box, h.below.grown hg (Nat.le_trans hw0 h.below.size) fun k e => Nat.le_trans hB (hr k e).1⟩
 rcases ho.2 with ⟨rfl, _⟩ | ⟨g, cap, cur, rfl, _, hgb, _⟩
 ·exact .inl rfl
 refine .inr fun e => ?_
 obtain ⟨_, o, h1, h2⟩ := hr g (by simpa [Value.ownBlock] using e.symm)
 rw [hgb] at h1
 cases h1
 cases h2
def mk_ (D : Nat) : Deferred := { target := .collected D, args := #[] }
def Marks (B : Nat) (w : World) (ds : List Nat) : Prop := ds.Nodup ∧ ∀ D ∈ ds, B ≤ D ∧ w.heap[D]? = some (.deferred (some []))
theorem Marks.keep {B w w' ds} (h : Marks B w ds) (k : KeepsOthers w w') : Marks B w' ds := ⟨h.1, fun D hD => ⟨(h.2 D hD).1, k.same D _ (h.2 D hD).2 rfl⟩⟩
theorem leaves_marks {P : Program} {m : Nat} {fn : Func} {tmps : Array Value} {R : Ending → World → Prop} (B : Nat) : ∀ (ds : List Nat) (w : World), ds.Nodup → (∀ D ∈ ds, B ≤ D ∧ w.heap[D]? = some (.deferred (some []))) → B ≤ w.heap.size →
 (∀ w', Below B w w' → (∀ (b : Nat) (cs : Array Value) (t : TypeId), w.heap[b]? = some (Obj.cells cs t (0, 0)) → w'.heap[b]? = some (Obj.cells cs t (0, 0))) → LeavesIn Fence.wide m P fn tmps R [] .returning w') → LeavesInM Fence.wide m P fn tmps R (ds.map mk_) .returning w
 | [], w, _, _, hB, h => h w (Below.refl _ _) (fun _ _ _ h => h)
 | D :: ds, w, hn, hd, hB, h => by
  obtain ⟨hD, hk⟩ := hd D List.mem_cons_self
  have hnd := (List.nodup_cons.1 hn)
  have hb : Below B w (w.putObj D (.deferred none)) := (Below.refl B w).grown (grownBy_putObj' w D _) hB (fun k e => by cases e; exact hD)
  refine ⟨by simp, .inl ⟨D, _, rfl, run_takeDeferred hk, leaves_marks B ds _ hnd.2 (fun E hE => ⟨(hd E (List.mem_cons_of_mem _ hE)).1, ?_⟩) (Nat.le_trans hB hb.size) fun w' h1 h2 => h w' (hb.trans h1) fun b cs t hc => h2 b cs t ?_⟩⟩
  ·rw [World.putObj_heap_other (fun e => hnd.1 (by rw [← e]; exact hE))]
   exact (hd E (List.mem_cons_of_mem _ hE)).2
  rw [World.putObj_heap_other (fun e => by rw [e, hk] at hc; cases hc)]
  exact hc
def ac (A A2 : Option Addr) (us : List S39) (roots : List Int) (c c2 bs bw bm sb : Nat) (u9 u21 u22 u23 u24 u25 u26 u27 u28 u29 u30 : Value) (k : Nat) (ok : Bool) (x31 x32 x33 x34 x35 x36 x37 x38 : Value) (ds : List Nat) : Act :=
 { tmps := #[.iface 94 (.slice A us.length c), .slice A2 roots.length c2, undef, undef, .slice none 0 0, .pointer (some ⟨bs, 0, none⟩), .pointer (some ⟨bw, 0, none⟩), .pointer (some ⟨bm, 0, none⟩), undef, u9, .int .i64 k, .bool ok, undef, .iface 94 (.slice A us.length c), .int .i64 us.length, .slice (some ⟨sb, 0, none⟩) us.length us.length,
  .func (.func 67) #[] #[.pointer (some ⟨bs, 0, none⟩), .pointer (some ⟨bw, 0, none⟩)], .slice A2 roots.length c2, .int .i64 roots.length, .int .i64 roots.length, .bool false, u21, u22, u23, u24, u25, u26, u27, u28, u29, u30, x31, x32, x33, x34, x35, x36, x37, x38, undef, undef, undef, undef, undef], defers := ds.map mk_ }
def Head (B : Nat) (w : World) (A A2 : Option Addr) (us : List S39) (roots : List Int) (c c2 bs bw bm sb : Nat) (u9 u21 u22 u23 u24 u25 u26 u27 u28 u29 u30 : Value) (g : Nat) (a : Act) (wr : World) : Prop :=
 ∃ (k : Nat) (ok : Bool) (x31 x32 x33 x34 x35 x36 x37 x38 : Value) (ds : List Nat) (seen : List Bool) (wait : List Nat),
  a = ac A A2 us roots c c2 bs bw bm sb u9 u21 u22 u23 u24 u25 u26 u27 u28 u29 u30 k ok x31 x32 x33 x34 x35 x36 x37 x38 ds ∧ Marks B wr ds ∧ (∀ j, j < roots.length → sn seen (roots.getD j 0).toNat) ∧
  ((ok = false ∧ wait = [] ∧ Inv B w wr us roots bs bw sb bm seen wait none) ∨ (ok = true ∧ Inv B w wr us roots bs bw sb bm seen wait (some (k, [])) ∧ RS (nd us) (Rt roots) k ∧ k < us.length ∧ Reach.left seen wait < g))
theorem Inv.take {B w0 w w' us roots bs bw sb bm seen wait k} (h : Inv B w0 w us roots bs bw sb bm seen (wait ++ [k]) none) (hS : St B w' bs bw sb seen wait) (hb : Below B w w') (hf : Far w w') :
 Inv B w0 w' us roots bs bw sb bm seen wait (some (k, [])) ∧ RS (nd us) (Rt roots) k ∧ k < us.length ∧ Reach.left seen wait < Reach.left seen (wait ++ [k]) := by
 obtain ⟨a, b, c⟩ := h.sp.take
 have hl : Reach.left seen wait < Reach.left seen (wait ++ [k]) := by unfold Reach.left; rw [List.length_append, List.length_singleton]; omega
 exact ⟨⟨hS, a, by have := h.left; omega, hf bm _ _ h.box (by decide) (by decide) (by decide), h.below.trans hb⟩, b, c, hl⟩
theorem Inv.alloc {B w0 w us roots bs bw sb bm seen wait at_} (h : Inv B w0 w us roots bs bw sb bm seen wait at_) (hw0 : B ≤ w0.heap.size) (o : Obj) : Inv B w0 (w.alloc o) us roots bs bw sb bm seen wait at_ :=
 h.own (B' := B) (Nat.le_refl _) hw0 (World.grownBy_alloc w o none) (fun r e => by cases e)
theorem attach_ndI {us : List S39} (hn : NdOk us) {k : Nat} (hk : k < us.length) : (nd us k).attach.map (fun x => ((x.1 : Nat) : Int)) = ndI us k := by
 have e : (nd us k).attach.map (fun x => ((x.1 : Nat) : Int)) = ((nd us k).attach.map (·.1)).map (fun x : Nat => (x : Int)) := by rw [List.map_map]; rfl
 rw [e, List.attach_map_subtype_val]
 unfold nd
 rw [List.map_map]
 refine (List.map_congr_left fun z hz => ?_).trans (List.map_id _)
 exact Int.toNat_of_nonneg ((hn.2 k hk).2 z hz).1
theorem nd_lt {us : List S39} (hn : NdOk us) {k : Nat} (hk : k < us.length) {x : Nat} (hx : x ∈ nd us k) : x < us.length := by
 obtain ⟨z, hz, rfl⟩ := List.mem_map.1 hx
 have := (hn.2 k hk).2 z hz
 omega
def Mid (B : Nat) (w : World) (us : List S39) (roots : List Int) (bs bw bm sb k g N0 : Nat) (ds : List Nat) (pre : List { x : Nat // x ∈ nd us k }) (W : World) : Prop :=
 ∃ (seen : List Bool) (wait : List Nat), Inv B w W us roots bs bw sb bm seen wait (some (k, pre.map (·.1))) ∧ Reach.left seen wait ≤ g ∧ (∀ j, j < roots.length → sn seen (roots.getD j 0).toNat) ∧ ∀ D ∈ ds, B ≤ D ∧ D < N0 ∧ W.heap[D]? = some (.deferred (some []))
theorem Mid.own {B w us roots bs bw bm sb k g N0 ds} (hB : B ≤ N0) (hw : B ≤ w.heap.size) : OwnFrom N0 (Mid B w us roots bs bw bm sb k g N0 ds) := by
 rintro pre W W' row ⟨seen, wait, h1, h2, h3, h4⟩ hg hr
 refine ⟨seen, wait, h1.own hB hw hg hr, h2, h3, fun D hD => ?_⟩
 obtain ⟨a, b, c⟩ := h4 D hD
 exact ⟨a, b, (hg.block D (Array.getElem?_eq_some_iff.1 c).1 (fun e => by have := (hr D e.symm).1; omega)).trans c⟩
theorem Mid.step {B w us roots bs bw bm sb k g N0 ds pre} {x : { x : Nat // x ∈ nd us k }} {W W' : World} {seen seen' : List Bool} {wait wait' : List Nat} (hx : x.1 < us.length) (hr : RS (nd us) (Rt roots) k) (h1 : Inv B w W us roots bs bw sb bm seen wait (some (k, pre.map (·.1)))) (h2 : Reach.left seen wait ≤ g) (h3 : ∀ j, j < roots.length → sn seen (roots.getD j 0).toNat) (h4 : ∀ D ∈ ds, B ≤ D ∧ D < N0 ∧ W.heap[D]? = some (.deferred (some [])))
 (hS : St B W' bs bw sb seen' wait') (hm : Mk seen wait x.1 seen' wait') (ko : KeepsOthers W W') (hb : Below B W W') (hf : Far W W') : Mid B w us roots bs bw bm sb k g N0 ds (pre ++ [x]) W' := by
 obtain ⟨a, b, c, d⟩ := hm.left (by rw [h1.sp.len]; exact hx)
 refine ⟨seen', wait', ⟨hS, ?_, Nat.le_trans a h1.left, hf bm _ _ h1.box (by decide) (by decide) (by decide), h1.below.trans hb⟩, Nat.le_trans a h2, fun j hj => d _ (h3 j hj), fun D hD => ⟨(h4 D hD).1, (h4 D hD).2.1, ko.same D _ (h4 D hD).2.2 rfl⟩⟩
 rw [List.map_append]
 exact h1.sp.mark hm hx (.step hr x.2)
def SpreadPost (us : List S39) (roots : List Int) (w : World) (e : Ending) (w' : World) : Prop :=
 ∃ (sb : Nat) (seen : List Bool), e = .returned (.slice (some ⟨sb, 0, none⟩) seen.length seen.length) ∧ seen.length = us.length ∧ (∀ i, sn seen i ↔ RS (nd us) (Rt roots) i) ∧ w'.heap[sb]? = some (.cells (seen.map Value.bool).toArray 4 (0, 0)) ∧ Below w.heap.size w w' ∧ w.heap.size ≤ sb
theorem roots_all {roots : List Int} {seen : List Bool} (h : ∀ j, j < roots.length → sn seen (roots.getD j 0).toNat) (i : Nat) (hi : Rt roots i) : sn seen i := by
 obtain ⟨j, hj, e⟩ := List.getElem_of_mem hi
 have := h j hj
 rw [List.getD_eq_getElem?_getD, List.getElem?_eq_getElem hj, Option.getD_some, e, Int.toNat_natCast] at this
 exact this
theorem spread_done {w wr : World} {us roots bs bw sb bm seen} (h : Inv w.heap.size w wr us roots bs bw sb bm seen [] none) (hr : ∀ j, j < roots.length → sn seen (roots.getD j 0).toNat) (w' : World) (hb : Below w.heap.size wr w') (hc : ∀ (b : Nat) (cs : Array Value) (t : TypeId), wr.heap[b]? = some (Obj.cells cs t (0, 0)) → w'.heap[b]? = some (Obj.cells cs t (0, 0))) :
 SpreadPost us roots w (.returned (.slice (some ⟨sb, 0, none⟩) seen.length seen.length)) w' :=
 ⟨sb, seen, rfl, h.sp.len, h.sp.done (roots_all hr), hc _ _ _ h.st.sblk, h.below.trans hb, h.st.base.2.2⟩
theorem spread_in (w : World) (A A2 : Option Addr) (us : List S39) (roots : List Int) (c c2 : Nat) (hu : UA w A us) (hn : NdOk us) (hr : Kd.C (Kd.int .i64) w A2 roots.length roots) (hrl : roots.length ≤ 100000) (hR : ∀ z ∈ roots, 0 ≤ z ∧ z < us.length) :
 CallsIn Fence.wide 9 Tryz.prog 56 #[.iface 94 (.slice A us.length c), .slice A2 roots.length c2] w (SpreadPost us roots w) := by
 have hm1 : ∀ (k : Nat) (w : World), (method (k + 1) 94 (.slice A us.length c) "cleat/graph.size").run Tryz.prog w = .ok (198, .slice A us.length c) w := fun k w => by kernel_rfl
 have hm2 : ∀ (k : Nat) (w : World), (method (k + 1) 94 (.slice A us.length c) "cleat/graph.needs").run Tryz.prog w = .ok (197, .slice A us.length c) w := fun k w => by kernel_rfl
 have hul := hn.1
 have hmk := fun (W : World) => make_bools us.length (by omega) W
 have HU := Azz.mk hu
 have HN := Azz.mk hn
 have HR := Azz.mk hr
 have HRR := Azz.mk hR
 clear hu hn hr hR
 refine callsIn_of_wp_marks Tryz.func56 rfl trivial ?_ rfl
 simp only [Tryz.ntmps56, List.size_toArray, List.length_cons, List.length_nil, Nat.reduceAdd, Nat.reduceSub, Array.replicate_succ, Array.replicate_zero, List.push_toArray, List.append_toArray, List.nil_append, List.cons_append]
 gi_wp2_with (refine ⟨trivial, ?_⟩; gi_at_call 198; (with_reducible refine (callsIn_wide.2 (size_any w A us.length c (by omega))).mono ?_); rintro e w' ⟨rfl, rfl⟩)
 have HI := Azz.mk (spread_start w us roots)
 obtain ⟨V, hV⟩ : ∃ V, V = ((((w.alloc (.cells (madeCells #[.bool false] us.length) 4)).alloc (.cells #[.slice (some ⟨w.heap.size, 0, none⟩) us.length us.length] 23)).alloc (.cells #[.slice none 0 0] 111)).alloc (.cells #[.func (.func 67) #[] #[.pointer (some ⟨w.heap.size + 1, 0, none⟩), .pointer (some ⟨w.heap.size + 1 + 1, 0, none⟩)]] 112)) := ⟨_, rfl⟩
 obtain ⟨bs, hbs⟩ : ∃ bs, bs = w.heap.size + 1 := ⟨_, rfl⟩
 obtain ⟨bw, hbw⟩ : ∃ bw, bw = w.heap.size + 1 + 1 := ⟨_, rfl⟩
 obtain ⟨bm, hbm⟩ : ∃ bm, bm = w.heap.size + 1 + 1 + 1 := ⟨_, rfl⟩
 obtain ⟨sb, hsb⟩ : ∃ sb, sb = w.heap.size := ⟨_, rfl⟩
 obtain ⟨B, hB⟩ : ∃ B, B = w.heap.size := ⟨_, rfl⟩
 rw [← hV, ← hbm, ← hbw, ← hbs] at HI
 rw [← hV, ← hbm, ← hbw, ← hbs]
 have HI2 : Azz (Inv B w V us roots bs bw sb bm (List.replicate us.length false) [] none) := ⟨by rw [hB, hsb]; exact HI.out⟩
 rw [← hsb]
 have HBB := Azz.mk hB
 have HSB := Azz.mk hsb
 clear HI hV hbm hbw hbs hsb hB hmk
 gi_loopw [19] (fun v wr => ∃ i : Nat, i ≤ roots.length ∧ v = .int .i64 i ∧ ∃ seen wait, Azz (Inv B w wr us roots bs bw sb bm seen wait none) ∧ Azz (∀ j, j < i → sn seen (roots.getD j 0).toNat)) (fun v _ => roots.length - (RowKit.intOf v).toNat)
 case atStart => exact ⟨0, Nat.zero_le _, rfl, _, _, HI2, ⟨fun j hj => absurd hj (Nat.not_lt_zero _)⟩⟩
 case round =>
  clear HI2
  obtain ⟨i, hi, rfl, seen, wait, HI, HS⟩ := hrel
  by_cases hlt : i < roots.length
  ·obtain ⟨ad, e, hx⟩ := root_at wr A2 roots (Kd.C_below HR.out (by rw [← HBB.out]; exact HI.out.below)) i hlt
   cases e
   obtain ⟨k, hk, hkn, hkr⟩ : ∃ k : Nat, roots.getD i 0 = (k : Int) ∧ k < us.length ∧ Rt roots k := by
    have hm : roots.getD i 0 ∈ roots := by rw [List.getD_eq_getElem?_getD, List.getElem?_eq_getElem hlt]; exact List.getElem_mem hlt
    obtain ⟨h0, h1⟩ := HRR.out _ hm
    exact ⟨(roots.getD i 0).toNat, by omega, by omega, by unfold Rt; rw [Int.toNat_of_nonneg h0]; exact hm⟩
   have HK := Azz.mk (And.intro hk hkr)
   rw [hk] at hx
   clear hk hkr
   have hbx := HI.out.box.cell
   have hwl := HI.out.wait_le
   have HM := Azz.mk (mark_any B wr bs bw sb seen wait k HI.out.st (by rw [HI.out.sp.len]; exact hkn) (by rw [HI.out.sp.len]; omega) (by omega) (Nat.le_trans (by rw [HBB.out]; exact Nat.le_refl _) HI.out.below.size))
   clear hwl
   gi_wp2_with (refine ⟨trivial, ?_⟩; gi_at_call 67; (with_reducible refine (callsIn_wide.2 HM.out).mono ?_); rintro e w' ⟨⟨r, rfl⟩, seen', wait', h1, h2, h3, h4, h5⟩; have HJ := Azz.mk (HI.out.root hkn HK.out.2 h1 h2 h3 h4 h5); clear h1 h2 h3 h4 h5)
   go_roundw
   case rel =>
    refine ⟨i + 1, by omega, by go_num, seen', wait', ⟨HJ.out.1⟩, ⟨fun j hj => ?_⟩⟩
    by_cases e : j = i
    ·rw [e, HK.out.1]; exact HJ.out.2.1
    exact HJ.out.2.2 _ (HS.out j (by omega))
   case measure => simp [RowKit.intOf]; omega
  obtain rfl : i = roots.length := by omega
  have hroots := HS
  have HT := Azz.mk (take_any B wr bs bw sb seen wait HI.out.st (by have := HI.out.wait_le; omega))
  clear HS hi hlt
  gi_wp2_with (refine ⟨trivial, ?_⟩; gi_at_call 69; (with_reducible refine (callsIn_wide.2 HT.out).mono ?_); rintro e w1 ⟨k, ok, rfl, h1, h2, h3, h4⟩; have HK := Azz.mk (And.intro h1 (And.intro h2 (And.intro h3 h4))); clear h1 h2 h3 h4)
  have HH := Azz.mk (show ∀ (x31 x32 x33 x34 x35 x36 x37 x38 : Value), ∃ g, Head B w A A2 us roots c c2 bs bw bm sb u9 u21 u22 u23 u24 u25 u26 (.tuple #[.int .i64 k, .bool ok]) (.tuple #[.int .i64 k, .bool ok]) (.int .i64 k) (.bool ok) g (ac A A2 us roots c c2 bs bw bm sb u9 u21 u22 u23 u24 u25 u26 (.tuple #[.int .i64 k, .bool ok]) (.tuple #[.int .i64 k, .bool ok]) (.int .i64 k) (.bool ok) k ok x31 x32 x33 x34 x35 x36 x37 x38 []) w1 from by
   intro x31 x32 x33 x34 x35 x36 x37 x38
   obtain ⟨h1, h2, h3, h4⟩ := HK.out
   rcases h1 with ⟨rfl, rfl, rfl⟩ | ⟨rfl, wait', rfl, hS⟩
   ·exact ⟨0, k, false, _, _, _, _, _, _, _, _, [], seen, [], rfl, ⟨List.nodup_nil, fun D h => by cases h⟩, hroots.out, .inl ⟨rfl, rfl, HI.out⟩⟩
   obtain ⟨a1, a2, a3, a4⟩ := HI.out.take hS h3 h4
   exact ⟨_, k, true, _, _, _, _, _, _, _, _, [], seen, wait', rfl, ⟨List.nodup_nil, fun D h => by cases h⟩, hroots.out, .inr ⟨rfl, a1, a2, a3, a4⟩⟩)
  obtain ⟨g0, hg0⟩ := HH.out undef undef undef undef undef undef undef undef
  refine wpIn_loop_ghost (Head B w A A2 us roots c c2 bs bw bm sb u9 u21 u22 u23 u24 u25 u26 (.tuple #[.int .i64 k, .bool ok]) (.tuple #[.int .i64 k, .bool ok]) (.int .i64 k) (.bool ok)) g0 hg0 ?_
  clear hg0 HH HK HT HI hroots
  rintro g a wr2 ⟨k2, ok2, x31, x32, x33, x34, x35, x36, x37, x38, ds, seen2, wait2, rfl, hM, hroots, hcase⟩
  unfold ac
  have HMk := Azz.mk hM
  have HRo := Azz.mk hroots
  clear hM hroots
  rcases hcase with ⟨rfl, rfl, hI⟩ | ⟨rfl, hI, hrs, hkn, hlt⟩
  ·have hbx := hI.st.sbox.cell
   have HI := Azz.mk hI
   clear hI
   gi_wp2
   refine leaves_marks w.heap.size ds wr2 HMk.out.1 (by rw [← HBB.out]; exact HMk.out.2) (by rw [← HBB.out]; exact Nat.le_trans (by rw [HBB.out]; exact Nat.le_refl _) HI.out.below.size) fun w' h1 h2 => ⟨_, results_tmp rfl _ _ _, ?_⟩
   have hI := HI.out
   rw [HBB.out] at hI
   exact spread_done hI HRo.out w' h1 h2
  ·have HI := Azz.mk hI
   have HX := Azz.mk (And.intro hrs hlt)
   clear hI hrs hlt
   gi_wp2_with (refine ⟨trivial, ?_⟩; gi_at_call 197; (with_reducible refine (callsIn_wide.2 (needs_any wr2 A us.length c k2)).mono ?_); rintro e w' ⟨rfl, rfl⟩)
   have hB := HBB.out
   subst hB
   have HW0 := Azz.mk (HI.out.alloc (Nat.le_refl _) (.cells #[.slice A us.length c] 94) |>.alloc (Nat.le_refl _) (.cells #[.int .i64 k2] 3))
   have HM0 := Azz.mk ((HMk.out.keep (KeepsOthers.alloc wr2 (.cells #[.slice A us.length c] 94))).keep (KeepsOthers.alloc _ (.cells #[.int .i64 k2] 3)))
   have hs2 := ((Boxed.new wr2 94 (.slice A us.length c)).alloc (.cells #[.int .i64 k2] 3)).cell
   have hb := (Boxed.new (wr2.alloc (.cells #[.slice A us.length c] 94)) 3 (.int .i64 k2)).cell
   rw [World.size_alloc] at hb
   obtain ⟨W0, hW0⟩ : ∃ W0, W0 = (wr2.alloc (.cells #[.slice A us.length c] 94)).alloc (.cells #[.int .i64 k2] 3) := ⟨_, rfl⟩
   rw [← hW0] at hb hs2 HW0 HM0 ⊢
   have HC1 := Azz.mk hs2
   have HC2 := Azz.mk hb
   clear hW0 hb hs2 HMk HI
   have hz := HW0.out.below.size
   have hul2 := (HN.out.2 k2 hkn).1
   refine wpIn_rangeFunc_ownF (F := Fence.wide) (n := 9) rfl (by decide) (gf := 199) (lb := #[.pointer (some ⟨wr2.heap.size, 0, none⟩), .pointer (some ⟨wr2.heap.size + 1, 0, none⟩)]) rfl trivial (enters_of Tryz.func199 (by kernel_rfl) rfl)
    (needs_stops Fence.wide (9 - 1) trivial rfl (by decide) wr2.heap.size (wr2.heap.size + 1) k2 c A us (fun x : { x : Nat // x ∈ nd us k2 } => x.1) (nd us k2).attach w (attach_ndI HN.out hkn) W0 HW0.out.below HC1.out HC2.out HU.out hkn (by omega) hul2) belowK_t (belowK_b hz) (Below.refl _ _) (fun _ => rfl)
    (Mid w.heap.size w us roots bs bw bm sb k2 (Reach.left seen2 wait2) W0.heap.size ds) (fun _ _ _ => False) (Mid.own hz (Nat.le_refl _)) (fun _ _ _ _ _ hs _ _ => hs) ⟨seen2, wait2, HW0.out, Nat.le_refl _, HRo.out, fun D hD => ⟨(HM0.out.2 D hD).1, (Array.getElem?_eq_some_iff.1 (HM0.out.2 D hD).2).1, (HM0.out.2 D hD).2⟩⟩
    (fun x => { tmps := #[.iface 94 (.slice A us.length c), .slice A2 roots.length c2, undef, undef, .slice none 0 0, .pointer (some ⟨bs, 0, none⟩), .pointer (some ⟨bw, 0, none⟩), .pointer (some ⟨bm, 0, none⟩), undef, u9, .int .i64 k2, .bool true, .int .i64 x.1, .iface 94 (.slice A us.length c), .int .i64 us.length, .slice (some ⟨sb, 0, none⟩) us.length us.length,
  .func (.func 67) #[] #[.pointer (some ⟨bs, 0, none⟩), .pointer (some ⟨bw, 0, none⟩)], .slice A2 roots.length c2, .int .i64 roots.length, .int .i64 roots.length, .bool false, u21, u22, u23, u24, u25, u26, .tuple #[.int .i64 k, .bool ok], .tuple #[.int .i64 k, .bool ok], .int .i64 k, .bool ok, .bool true, x32, x33, x34, x35, .iface 94 (.slice A us.length c), .int .i64 k2, .func (.func 199) #[] #[.pointer (some ⟨wr2.heap.size, 0, none⟩), .pointer (some ⟨wr2.heap.size + 1, 0, none⟩)], .int .i64 x.1, undef, undef, undef, undef], defers := [] }) ?assign ?body ?done ?stop
   case assign =>
    intro l x W K hK
    gi_wp2
    exact hK
   case body =>
    rintro l pre x W ⟨seen, wait, h1, h2, h3, h4⟩ _
    have hx := nd_lt HN.out hkn x.2
    have hbx := h1.box.cell
    have hwl := h1.wait_le
    have HM := Azz.mk (mark_any w.heap.size W bs bw sb seen wait x.1 h1.st (by rw [h1.sp.len]; exact hx) (by rw [h1.sp.len]; omega) (by omega) h1.below.size)
    have HS := Azz.mk (fun W' seen' wait' => Mid.step (W' := W') (seen' := seen') (wait' := wait') hx HX.out.1 h1 h2 h3 h4)
    clear h1 h2 h3 h4 hwl hx
    gi_wp2_with (refine ⟨trivial, ?_⟩; gi_at_call 67; (with_reducible refine (CallsIn.inRound l (callsIn_wide.2 HM.out)).mono ?_); rintro e w' ⟨⟨r, rfl⟩, seen', wait', h1, h2, h3, h4, h5⟩; have HJ := Azz.mk (And.intro h3 (And.intro h4 (HS.out _ _ _ h1 h2 h3 h4 h5))); clear h1 h2 h3 h4 h5)
    exact HJ.out
   case done =>
    rintro D ys W hD rfl ⟨seen, wait, h1, h2, h3, h4⟩ hK
    have hN : Inv w.heap.size w W us roots bs bw sb bm seen wait none := ⟨h1.st, by have := h1.sp; rw [List.attach_map_subtype_val] at this; exact this.next, h1.left, h1.box, h1.below⟩
    have HT := Azz.mk (take_any w.heap.size W bs bw sb seen wait hN.st (by have := hN.wait_le; omega))
    have HN2 := Azz.mk hN
    have HM2 : Azz (Marks w.heap.size W (D :: ds)) := ⟨List.nodup_cons.2 ⟨fun h => by have := (h4 D h).2.1; omega, HM0.out.1⟩, fun E hE => by
     rcases List.mem_cons.1 hE with rfl | hE
     ·exact ⟨Nat.le_trans hz hD, hK⟩
     exact ⟨(h4 E hE).1, (h4 E hE).2.2⟩⟩
    have HG := Azz.mk (And.intro h2 h3)
    clear h1 h2 h3 h4 hN hK
    gi_wp2_with (refine ⟨trivial, ?_⟩; gi_at_call 69; (with_reducible refine (callsIn_wide.2 HT.out).mono ?_); rintro e w1 ⟨k3, ok3, rfl, h1, h2, h3, h4⟩; have HK := Azz.mk (And.intro h1 (And.intro h2 (And.intro h3 h4))); clear h1 h2 h3 h4)
    obtain ⟨h1, h2, h3, h4⟩ := HK.out
    obtain ⟨g2, g3⟩ := HG.out
    rcases h1 with ⟨rfl, rfl, rfl⟩ | ⟨rfl, wait', rfl, hS⟩
    ·exact ⟨Reach.left seen2 wait2, HX.out.2, k3, false, _, _, _, _, _, _, _, _, D :: ds, seen, [], rfl, HM2.out, g3, .inl ⟨rfl, rfl, HN2.out⟩⟩
    obtain ⟨a1, a2, a3, a4⟩ := HN2.out.take hS h3 h4
    exact ⟨Reach.left seen (wait' ++ [k3]), by have := HX.out.2; omega, k3, true, _, _, _, _, _, _, _, _, D :: ds, seen, wait', rfl, HM2.out.keep h2, g3, .inr ⟨rfl, a1, a2, a3, a4⟩⟩
   case stop =>
    rintro D c pre W _ _ h _
    exact h.elim
end Go.Proofs.YtngmipfodjgmmaaGreatDoor.P
