/- Walks and plain laws of this claim, a part. -/
import Derived.Test.YtngmipfodjgmmaaGreatDoorFz69
import Derived.RangeFuncNested
import Derived.RangeFuncBox
import Derived.RangeFuncBound
import Derived.RangeFuncCalls
import Derived.RangeFuncLeaves
import Derived.Maps.AppendAt
import Derived.Shelf.Abstract
import Derived.Shelf.RegionOpen
import Derived.WalkKit
import Derived.OwnWalkIn
import Derived.TacticsInMore
import Derived.LoopNIn
import Derived.LoopIn
set_option maxRecDepth 100000
set_option maxHeartbeats 2000000
set_option linter.unusedVariables false
set_option linter.unusedSimpArgs false
section
namespace Go.Proofs.YtngmipfodjgmmaaGreatDoor.P
open Go Go.RowKit Go.Lib Go.Shelf Wa Wb Wc Go.Proofs.YtngmipfodjgmmaaGreatDoor.Reach
def ni (i : Nat) : Value := .int .i64 i
theorem info_int : (Tryz.prog.info? 3).map (fun i => (i.zero, i.size, i.bytes)) = some (some (.int .i64 0), 1, 8) := by kernel_rfl
theorem put_any (B bw : Nat) (w : World) (v : Value) (wait : List Nat) (k : Nat) (hb : Boxed w bw 111 v) (ho : w.ownsRow B 3 1 v wait.length (wait.map ni)) (hB : B ≤ bw) (hw : B ≤ w.heap.size) (hl : wait.length ≤ 100000) :
 Calls Tryz.prog 68 #[.pointer (some ⟨bw, 0, none⟩), .int .i64 k] w fun e w' => (∃ r, e = .returned r) ∧ ∃ v', Boxed w' bw 111 v' ∧ w'.ownsRow B 3 1 v' (wait.length + 1) ((wait ++ [k]).map ni) ∧ KeepsOthers w w' ∧ Below B w w' ∧
  (∀ b, b < w.heap.size → b ≠ bw → some b ≠ v.ownBlock → w'.heap[b]? = w.heap[b]?) ∧ w.heap.size ≤ w'.heap.size := by
 obtain ⟨i0, hi, hz0, hz1, hz2⟩ := info_parts info_int
 have hc := hb.cell
 have hf := hb.frozen
 have HB := Azz.mk hb
 have HO := Azz.mk ho
 clear hb ho
 go_enter Tryz.func68, Tryz.ntmps68
 go_wp2_with (at_builtin; refine wpList_append_own _ rfl _ _ 26 rfl B 3 i0 (.int .i64 0) 1 8 Tryz.underlying26 hi hz0 hz1 hz2 rfl (by decide) _ _ _ rfl (HO.out.alloc _) ⟨w.heap.size, 0, none⟩ 1 1 [.int .i64 k] rfl rfl (cell_one_new _ _ _) (by simp [Value.oneCell']) (by unfold maxLen; omega) (by omega) (by simp; omega) ?_; intro v' w1 hown' hgrow _; obtain ⟨g', cap', rfl⟩ := ownsRow_succ hown'; obtain ⟨hv1, hv2, hr2, hk2, hb2⟩ := HB.out.appended (by decide) HO.out hw hB hown' hgrow; have hc1 := hv1.cell; have hf1 := hv1.frozen; have HG := Azz.mk hgrow; have H2 := Azz.mk (And.intro hv2 (And.intro hr2 (And.intro hk2 hb2))); clear hgrow hown' hv2 hr2 hk2 hb2 hv1)
 go_end0
 refine ⟨⟨_, rfl⟩, _, H2.out.1, by rw [List.map_append]; exact H2.out.2.1, H2.out.2.2.1, H2.out.2.2.2, fun b h1 h2 h3 => ?_, H2.out.2.2.2.size⟩
 refine (Below.heap_setCell _ _ _ b h2).trans ((HG.out.block b (by simp; omega) h3).trans (Below.heap_alloc w _ b h1))
theorem take_no (bw : Nat) (w : World) (hb : Boxed w bw 111 (.slice none 0 0) ∨ ∃ a c, Boxed w bw 111 (.slice a 0 c)) :
 Calls Tryz.prog 69 #[.pointer (some ⟨bw, 0, none⟩)] w fun e w' => e = .returned (.tuple #[.int .i64 0, .bool false]) ∧ w = w' := by
 obtain ⟨a, c, hb⟩ : ∃ a c, Boxed w bw 111 (.slice a 0 c) := hb.elim (fun h => ⟨_, _, h⟩) id
 have hc := hb.cell
 clear hb
 go_enter Tryz.func69, Tryz.ntmps69
 go_wp2
 go_ret2
 exact ⟨rfl, rfl⟩
theorem slice_head_i (A : Option Addr) (n c m : Nat) (h : m ≤ c) (W : World) : (Instr.slice 26 (.slice A n c) none (some (.int .i64 (m : Int))) none).run Tryz.prog W = .ok (.slice A m c) W := by
 have hl : Tryz.prog.elem 26 = 3 := by kernel_rfl
 have hu : Tryz.prog.underlying 26 = some (.slice (Tryz.prog.elem 26)) := by rw [hl]; exact Tryz.underlying26
 rw [run_slice_h (P := Tryz.prog) W 26 A n c hu .i64 m (by omega) (by omega), hl, Tryz.sizeOf3]
 have e : A.map (fun x : Addr => x.add 0) = A := by cases A <;> simp [Addr.add]
 simp [sliced, e, Result.andThen]
theorem own_take {w : World} {B : Nat} {v : Value} {wait : List Nat} {k : Nat} (h : w.ownsRow B 3 1 v (wait.length + 1) ((wait ++ [k]).map ni)) :
 ∃ g c, v = .slice (some ⟨g, 0, none⟩) (wait.length + 1) c ∧ wait.length + 1 ≤ c ∧ w.cell? ⟨g, wait.length, none⟩ = some (.int .i64 k) ∧ w.ownsRow B 3 1 (.slice (some ⟨g, 0, none⟩) wait.length c) wait.length (wait.map ni) := by
 obtain ⟨h1, h2⟩ := h
 rcases h2 with ⟨_, h0⟩ | ⟨g, c, cur, rfl, hg, hh, hn, hm, hs, ht⟩
 ·omega
 rw [Nat.mul_one] at ht hs
 have e1 : cur.toList[wait.length]? = some (ni k) := by
  have := congrArg (·[wait.length]?) ht
  simp only [List.getElem?_take, List.map_append] at this
  rw [if_pos (by omega), List.getElem?_append_right (by simp)] at this
  simpa using this
 refine ⟨g, c, rfl, hn, ?_, by simp, .inr ⟨g, c, cur, rfl, hg, hh, by omega, hm, by omega, ?_⟩⟩
 ·refine (kCC hh wait.length).trans ?_
  rw [Array.getElem?_toList] at e1
  exact e1
 have := congrArg (List.take wait.length) ht
 rw [List.take_take, List.map_append, List.take_append_of_le_length (by simp), List.take_of_length_le (l := wait.map ni) (by simp), Nat.min_eq_left (by omega)] at this
 rw [Nat.mul_one]
 exact this
theorem take_yes (B bw : Nat) (w : World) (v : Value) (wait : List Nat) (k : Nat) (hb : Boxed w bw 111 v) (ho : w.ownsRow B 3 1 v (wait.length + 1) ((wait ++ [k]).map ni)) (hB : B ≤ bw) (hl : wait.length ≤ 100000) :
 Calls Tryz.prog 69 #[.pointer (some ⟨bw, 0, none⟩)] w fun e w' => e = .returned (.tuple #[.int .i64 k, .bool true]) ∧ ∃ v', w' = w.setCell ⟨bw, 0, none⟩ v' ∧ Boxed w' bw 111 v' ∧ w'.ownsRow B 3 1 v' wait.length (wait.map ni) ∧ v'.ownBlock = v.ownBlock := by
 obtain ⟨g, c, rfl, hc1, hk, ho2⟩ := own_take ho
 have hc := hb.cell
 have hf := hb.frozen
 have hn := hb.not_row (e := 3) (by decide) ho
 have HB := Azz.mk hb
 have HO := Azz.mk ho2
 have HN := Azz.mk hn
 have hsl := slice_head_i (some ⟨g, 0, none⟩) (wait.length + 1) c wait.length (by omega)
 have h0 : (((wait.length + 1 : Nat) : Int) == 0) = false := bF_ (by omega)
 clear hb ho ho2
 go_enter Tryz.func69, Tryz.ntmps69
 go_wp2
 go_ret2
 exact ⟨rfl, _, rfl, HB.out.set _, HO.out.kept (grownBy_setCell' w bw _) (.inr hn.symm), rfl⟩
structure St (B : Nat) (w : World) (bs bw sb : Nat) (seen : List Bool) (wait : List Nat) : Prop where
 sbox : Boxed w bs 23 (.slice (some ⟨sb, 0, none⟩) seen.length seen.length)
 sblk : w.heap[sb]? = some (.cells (seen.map Value.bool).toArray 4 (0, 0))
 wbox : ∃ v, Boxed w bw 111 v ∧ w.ownsRow B 3 1 v wait.length (wait.map ni)
 base : B ≤ bs ∧ B ≤ bw ∧ B ≤ sb
theorem grown_set (w : World) (b i : Nat) (v : Value) : w.grownBy (w.setCell ⟨b, i, none⟩ v) (some b) :=
 ⟨rfl, rfl, rfl, (KeepsWalks.setCell w _ v).size, fun k _ hk => Below.heap_setCell _ _ _ k (fun e => hk (by rw [e]))⟩
theorem heap_ne {w : World} {a b : Nat} {o p : Obj} (ha : w.heap[a]? = some o) (hb : w.heap[b]? = some p) (h : o ≠ p) : a ≠ b := by
 rintro rfl
 exact h (Option.some.inj (ha.symm.trans hb))
theorem own_not {w : World} {B b : Nat} {v : Value} {n : Nat} {xs : List Value} {cs : Array Value} {t : TypeId} (h : w.ownsRow B 3 1 v n xs) (hb : w.heap[b]? = some (.cells cs t (0, 0))) (ht : t ≠ 3) : some b ≠ v.ownBlock := by
 rcases h.2 with ⟨rfl, _⟩ | ⟨g, cap, cur, rfl, _, hgb, _⟩
 ·simp [Value.ownBlock]
 intro e
 obtain rfl : b = g := by simpa [Value.ownBlock] using e
 rw [hgb] at hb
 injection hb with hb
 injection hb with _ h2
 exact ht h2.symm
theorem St.put {B : Nat} {w w' : World} {bs bw sb : Nat} {seen : List Bool} {wait wait' : List Nat} (h : St B w bs bw sb seen wait) (hs : w'.heap[bs]? = w.heap[bs]?) (hb : w'.heap[sb]? = w.heap[sb]?) {v : Value} (h1 : Boxed w' bw 111 v) (h2 : w'.ownsRow B 3 1 v wait'.length (wait'.map ni)) : St B w' bs bw sb seen wait' :=
 ⟨hs.trans h.sbox, hb.trans h.sblk, ⟨v, h1, h2⟩, h.base⟩
theorem St.see {B : Nat} {w : World} {bs bw sb : Nat} {seen : List Bool} {wait : List Nat} (h : St B w bs bw sb seen wait) {k : Nat} (hk : k < seen.length) : St B (w.setCell ⟨sb, k, none⟩ (.bool true)) bs bw sb (seen.set k true) wait := by
 obtain ⟨v, hv, ho⟩ := h.wbox
 have n1 : bs ≠ sb := heap_ne h.sbox h.sblk (by simp)
 have n2 : bw ≠ sb := heap_ne hv h.sblk (by simp)
 have n3 : some sb ≠ v.ownBlock := own_not ho h.sblk (by decide)
 refine ⟨?_, ?_, ⟨v, (Below.heap_setCell _ _ _ bw n2).trans hv, ?_⟩, h.base⟩
 ·rw [List.length_set]
  exact (Below.heap_setCell _ _ _ bs n1).trans h.sbox
 ·obtain ⟨hlt, hk2⟩ := Array.getElem?_eq_some_iff.1 h.sblk
  show (w.heap.modify sb _)[sb]? = _
  rw [Array.getElem?_eq_getElem (by rw [Array.size_modify]; exact hlt), Array.getElem_modify_self, hk2]
  simp [List.map_set]
 exact ho.kept (row := some sb) (grown_set w sb k (.bool true)) (.inr n3.symm)
def Far (w w' : World) : Prop := ∀ (b : Nat) (cs : Array Value) (t : TypeId), w.heap[b]? = some (Obj.cells cs t (0, 0)) → t ≠ 4 → t ≠ 111 → t ≠ 3 → w'.heap[b]? = some (Obj.cells cs t (0, 0))
theorem St.cell {B : Nat} {w : World} {bs bw sb : Nat} {seen : List Bool} {wait : List Nat} (h : St B w bs bw sb seen wait) {k : Nat} (hk : k < seen.length) : w.cell? ⟨sb, k, none⟩ = some (.bool (seen.getD k false)) ∧ w.frozen? ⟨sb, k, none⟩ = false := by
 refine ⟨(kCC h.sblk k).trans ?_, by simp [World.frozen?, h.sblk]⟩
 simp [List.getD_eq_getElem?_getD, List.getElem?_eq_getElem hk]
theorem mark_old (B : Nat) (w : World) (bs bw sb : Nat) (seen : List Bool) (wait : List Nat) (k : Nat) (h : St B w bs bw sb seen wait) (hk : k < seen.length) (hl : seen.length ≤ 100000) (hs : sn seen k) :
 Calls Tryz.prog 67 #[.int .i64 k, .pointer (some ⟨bs, 0, none⟩), .pointer (some ⟨bw, 0, none⟩)] w fun e w' => (∃ r, e = .returned r) ∧ w = w' := by
 obtain ⟨hc, hf⟩ := h.cell hk
 rw [show seen.getD k false = true from hs] at hc
 have h1 := h.sbox.cell
 clear h hs
 go_enter Tryz.func67, Tryz.ntmps67
 go_wp2
 go_end0
 exact ⟨⟨_, rfl⟩, rfl⟩
theorem mark_new (B : Nat) (w : World) (bs bw sb : Nat) (seen : List Bool) (wait : List Nat) (k : Nat) (h : St B w bs bw sb seen wait) (hk : k < seen.length) (hl : seen.length ≤ 100000) (hl2 : wait.length ≤ 100000) (hB : B ≤ w.heap.size) (hs : ¬ sn seen k) :
 Calls Tryz.prog 67 #[.int .i64 k, .pointer (some ⟨bs, 0, none⟩), .pointer (some ⟨bw, 0, none⟩)] w fun e w' => (∃ r, e = .returned r) ∧ St B w' bs bw sb (seen.set k true) (wait ++ [k]) ∧ KeepsOthers w w' ∧ Below B w w' ∧ Far w w' := by
 obtain ⟨hc, hf⟩ := h.cell hk
 have hn : seen.getD k false = false := by
  cases e : seen.getD k false with
  | false => rfl
  | true => exact absurd e hs
 rw [hn] at hc
 have h1 := h.sbox.cell
 have H1 := Azz.mk (h.see hk)
 have HS0 := Azz.mk h.sblk
 have HB := Azz.mk h.base
 have Z : w.heap.size ≤ (w.setCell ⟨sb, k, none⟩ (.bool true)).heap.size := (KeepsWalks.setCell w _ _).size
 have HZ := Azz.mk Z
 have HW := Azz.mk (h.see hk).wbox
 clear h hs Z hn
 obtain ⟨v, hv, ho⟩ := HW.out
 have HP := Azz.mk (put_any B bw _ v wait k hv ho HB.out.2.1 (Nat.le_trans hB HZ.out) hl2)
 have HO := Azz.mk ho
 have HV := Azz.mk hv
 clear hv ho HW
 go_enter Tryz.func67, Tryz.ntmps67
 go_wp2_with fail
 (with_reducible refine HP.out.mono ?_)
 rintro e w1 ⟨⟨r, rfl⟩, v', b1, o1, ko, bl, far, sz⟩
 have H2 := Azz.mk (And.intro b1 (And.intro o1 (And.intro ko (And.intro bl far))))
 clear b1 o1 ko bl far
 go_wp2
 go_end0
 obtain ⟨b1, o1, ko, bl, far⟩ := H2.out
 refine ⟨⟨_, rfl⟩, H1.out.put (far bs H1.out.sbox.lt (heap_ne H1.out.sbox HV.out (by simp)) (own_not HO.out H1.out.sbox (by decide))) (far sb (Array.getElem?_eq_some_iff.1 H1.out.sblk).1 (heap_ne H1.out.sblk HV.out (by simp)) (own_not HO.out H1.out.sblk (by decide))) b1 (by rw [List.length_append]; exact o1), (KeepsOthers.setCell _ _ _).trans ko, (Below.setCell (p := ⟨sb, k, none⟩) (Below.refl _ _) HB.out.2.2 _).trans bl, fun b cs t hb n1 n2 n3 => ?_⟩
 have e1 : b ≠ sb := by
  rintro rfl
  rw [HS0.out] at hb
  injection hb with hb
  injection hb with _ h2
  exact n1 h2.symm
 have h1 := (Below.heap_setCell w ⟨sb, k, none⟩ (.bool true) b e1).trans hb
 exact (far b (Array.getElem?_eq_some_iff.1 h1).1 (heap_ne h1 HV.out (by intro h; injection h with _ h2; exact n2 h2)) (own_not HO.out h1 n3)).trans h1
end Go.Proofs.YtngmipfodjgmmaaGreatDoor.P
end
section
namespace Go.Proofs.YtngmipfodjgmmaaGreatDoor.P
open Go Go.RowKit Go.Lib Go.Shelf Wa Wb Wc Go.Proofs.YtngmipfodjgmmaaGreatDoor.Reach
attribute [local go_sem] Oper.semAt_some
abbrev UA (w : World) (A : Option Addr) (us : List S39) : Prop := Kd.C k39 w A us.length us
theorem size_any (w : World) (A : Option Addr) (n c : Nat) (hn : n ≤ 9223372036854775807) :
 Calls Tryz.prog 198 #[.slice A n c] w fun e w' => e = .returned (.int .i64 n) ∧ w = w' := by
 go_enter Tryz.func198, Tryz.ntmps198
 go_wp2
 go_ret
 exact ⟨rfl, rfl⟩
theorem needs_any (w : World) (A : Option Addr) (n c k : Nat) :
 Calls Tryz.prog 197 #[.slice A n c, .int .i64 k] w fun e w' => e = .returned (.func (.func 199) #[] #[.pointer (some ⟨w.heap.size, 0, none⟩), .pointer (some ⟨w.heap.size + 1, 0, none⟩)]) ∧ (w.alloc (.cells #[.slice A n c] 94)).alloc (.cells #[.int .i64 k] 3) = w' := by
 go_enter Tryz.func197, Tryz.ntmps197
 go_wp2
 go_ret
 exact ⟨rfl, rfl⟩
def ndI (us : List S39) (i : Nat) : List Int := (rd_T39 us i).f5.map (·.f2)
theorem xs_take {α : Type} (val : α → Nat) (xs : List α) (us : List S39) (k : Nat) (hx : xs.map (fun x => (val x : Int)) = ndI us k) (q : Nat) (h : q < (rd_T39 us k).f5.length) : ∃ x, xs.take (q + 1) = xs.take q ++ [x] ∧ (rd_T80 (rd_T39 us k).f5 q).f2 = (val x : Nat) := by
 have hl : xs.length = (rd_T39 us k).f5.length := by have := congrArg List.length hx; simpa [ndI] using this
 refine ⟨xs[q]'(by omega), List.take_succ_eq_append_getElem (by omega), ?_⟩
 have := congrArg (·[q]?) hx
 unfold ndI at this
 simp only [List.getElem?_map, List.getElem?_eq_getElem (show q < xs.length by omega), List.getElem?_eq_getElem h, Option.map_some, Option.some.injEq] at this
 unfold rd_T80
 rw [Int.toNat_natCast, List.getD_eq_getElem?_getD, List.getElem?_eq_getElem h]
 exact this.symm
theorem abide_alloc {β : Type} {B : Nat} {J : β → World → Prop} (h : AbidesFrom B J) {s : β} {W : World} (o : Obj) (hs : J s W) : J s (W.alloc o) := h s W _ none hs (World.grownBy_alloc W o none) (fun r e => by cases e)
theorem needs1_in (F : Fence) (n : Nat) (hf : F.fn 199) (hro : F.round = none) (hn : 1 ≤ n) (l Bu Ba B k c : Nat) (A : Option Addr) (us : List S39) {α : Type} (val : α → Nat) (xs : List α) (J Jx : List α → World → Prop) (w0 : World) (hx : xs.map (fun x => (val x : Int)) = ndI us k)
 (hY : ∀ pre x W, J pre W → pre.length < xs.length → YieldAt F (n - 1) Tryz.prog l #[.int .i64 (val x)] W fun e W' =>
  (e = .returned (.bool true) ∧ J (pre ++ [x]) W' ∧ Below w0.heap.size W W') ∨ (e = .returned (.bool false) ∧ Jx (pre ++ [x]) W'))
 (hJ : AbidesFrom B J) (W : World) (h0W : Below w0.heap.size w0 W) (hBu : W.cell? ⟨Bu, 0, none⟩ = some (.slice A us.length c)) (hBa : W.cell? ⟨Ba, 0, none⟩ = some (.int .i64 k)) (hu : UA w0 A us) (hk : k < us.length) (hl : us.length ≤ 100000) (hr : (rd_T39 us k).f5.length ≤ 100000) (h0 : J [] W) :
 CallsIn F n Tryz.prog 199 #[.func (.yield l) #[] #[], .pointer (some ⟨Bu, 0, none⟩), .pointer (some ⟨Ba, 0, none⟩)] W fun e W' => (∃ v, e = .returned v) ∧
  ((∃ ys, ys = xs ∧ J ys W') ∨ (∃ pre, True ∧ Jx pre W')) := by
 obtain ⟨ad, A5, c5, e, _, _, _, _, _, hx5, hl5, hC⟩ := at_T39 hu k (by omega) (by omega)
 cases e
 rw [Int.toNat_natCast] at hx5
 replace hx5 := (h0W.cell (World.block_lt_of_cell? _ _ hx5)).trans hx5
 have H0W := Azz.mk h0W
 have h0W_size := h0W.size
 have HC := Azz.mk hC
 have hlen : xs.length = (rd_T39 us k).f5.length := by have := congrArg List.length hx; simpa [ndI] using this
 have HY := Azz.mk hY
 have HL := Azz.mk hlen
 have H0 := Azz.mk h0
 have HT := Azz.mk (xs_take val xs us k hx)
 obtain ⟨refs, hrefs⟩ : ∃ refs, (rd_T39 us k).f5 = refs := ⟨_, rfl⟩
 rw [hrefs] at hx5 HC hr HL HT hl5
 clear hC hlen hY h0 hu hrefs h0W hx
 refine callsIn_of_wp Tryz.func199 rfl hf ?_ hro
 simp only [Tryz.ntmps199, List.size_toArray, List.length_cons, List.length_nil, Nat.reduceAdd, Nat.reduceSub, Array.replicate_succ, Array.replicate_zero, List.push_toArray, List.append_toArray, List.nil_append, List.cons_append]
 gi_wp2
 gi_loopw [12] (fun i wr => ∃ q : Nat, q ≤ refs.length ∧ i = .int .i64 q ∧ J (xs.take q) wr ∧ Azz (RowKit.Below w0.heap.size W wr)) (fun i _ => refs.length - (RowKit.intOf i).toNat)
 case atStart => exact ⟨0, Nat.zero_le _, rfl, H0.out, ⟨Below.refl _ _⟩⟩
 case round =>
  obtain ⟨q, hq, rfl, hJs, HB⟩ := hrel
  by_cases hlt : q < refs.length
  rotate_left
  ·obtain rfl : q = refs.length := by omega
   gi_wp2
   go_end0
   exact ⟨⟨_, rfl⟩, .inl ⟨_, rfl, by rw [List.take_of_length_le (by rw [HL.out]; omega)] at hJs; exact hJs⟩⟩
  have hr1 := Kd.C_below HC.out (H0W.out.trans HB.out)
  obtain ⟨a5, e5, y0, y1, y2, y3⟩ := at_T80 hr1 q (by omega) (by omega)
  clear hr1
  cases e5
  rw [Int.toNat_natCast] at y0 y1 y2 y3
  obtain ⟨x, ht, hv⟩ := HT.out q hlt
  obtain ⟨r, hr⟩ : ∃ r, rd_T80 refs q = r := ⟨_, rfl⟩
  rw [hr] at y0 y1 y2 y3 hv
  rw [hv] at y2
  have HQ := Azz.mk ht
  clear hr ht hv
  have hJ2 := abide_alloc hJ (.cells #[.int .i64 r.f0, .int .i64 r.f1, .int .i64 (val x), .int .i64 r.f3] 80) hJs
  obtain ⟨fn, tmps, assign, body, hy, hR⟩ := HY.out _ x _ hJ2 (by rw [HL.out, List.length_take, HL.out]; omega)
  gi_wp2
  refine hR.mono ?_
  rintro e W3 (⟨rfl, hJ3, hk3⟩ | ⟨rfl, hJx3⟩)
  ·have HB3 := Azz.mk ((HB.out.alloc (Nat.le_trans h0W_size HB.out.size) _).trans hk3)
   have HJ3 := Azz.mk hJ3
   clear hk3 hJ3 hy
   gi_wp2
   go_roundw
   case rel => exact ⟨q + 1, by omega, by go_num, by rw [HQ.out]; exact HJ3.out, HB3⟩
   case measure => simp [RowKit.intOf]; omega
  have HJ3 := Azz.mk hJx3
  clear hJx3 hy
  gi_wp2
  refine bodyPost_ret (results_none rfl _ _ _) rfl ?_
  exact ⟨⟨_, rfl⟩, .inr ⟨_, trivial, HJ3.out⟩⟩
theorem needs_stops (F : Fence) (n : Nat) (hf : F.fn 199) (hro : F.round = none) (hn : 1 ≤ n) (Bu Ba k c : Nat) (A : Option Addr) (us : List S39) {α : Type} (val : α → Nat) (xs : List α) (w0 : World) (hx : xs.map (fun x => (val x : Int)) = ndI us k)
 (w : World) (h0w : Below w0.heap.size w0 w) (hBu : w.cell? ⟨Bu, 0, none⟩ = some (.slice A us.length c)) (hBa : w.cell? ⟨Ba, 0, none⟩ = some (.int .i64 k)) (hu : UA w0 A us) (hk : k < us.length) (hl : us.length ≤ 100000) (hr : (rd_T39 us k).f5.length ≤ 100000) :
 SeqStopsK F n Tryz.prog 199 #[.pointer (some ⟨Bu, 0, none⟩), .pointer (some ⟨Ba, 0, none⟩)] (fun x : α => #[Value.int .i64 (val x)]) (Below w0.heap.size) (fun ys => ys = xs) (fun _ => True) xs.length w := fun l J Jx W hW hJ hJx hY h0 =>
 needs1_in F n hf hro hn l Bu Ba W.heap.size k c A us val xs J Jx w0 hx hY hJ W (h0w.trans (hW.mono h0w.size)) ((hW.cell (World.block_lt_of_cell? _ _ hBu)).trans hBu) ((hW.cell (World.block_lt_of_cell? _ _ hBa)).trans hBa) hu hk hl hr h0
theorem info_bool : (Tryz.prog.info? 4).map (fun i => (i.zero, i.size, i.bytes)) = some (some (.bool false), 1, 1) := by kernel_rfl
theorem make_bools (n : Nat) (hn : n ≤ 100000) (W : World) : (Instr.makeSlice 23 (.int .i64 (n : Int)) (.int .i64 (n : Int))).run Tryz.prog W = .ok (.slice (some ⟨W.heap.size, 0, none⟩) n n) (W.alloc (.cells (madeCells #[.bool false] n) 4)) :=
 run_make_row' (P := Tryz.prog) 23 4 (.bool false) 1 Tryz.underlying23 info_bool rfl .i64 .i64 n (by omega) (by omega) W
theorem made_bools (n : Nat) : madeCells #[.bool false] n = ((List.replicate n false).map Value.bool).toArray := by
 refine Array.ext (by simp [madeCells]) fun i h1 h2 => ?_
 simp [madeCells, Nat.mod_one]
theorem take_any (B : Nat) (w : World) (bs bw sb : Nat) (seen : List Bool) (wait : List Nat) (h : St B w bs bw sb seen wait) (hl : wait.length ≤ 100000) :
 Calls Tryz.prog 69 #[.pointer (some ⟨bw, 0, none⟩)] w fun e w' => ∃ (k : Nat) (ok : Bool), e = .returned (.tuple #[.int .i64 k, .bool ok]) ∧ ((ok = false ∧ wait = [] ∧ w = w') ∨ (ok = true ∧ ∃ wait', wait = wait' ++ [k] ∧ St B w' bs bw sb seen wait')) ∧ KeepsOthers w w' ∧ Below B w w' ∧ Far w w' := by
 obtain ⟨v, hv, ho⟩ := h.wbox
 rcases List.eq_nil_or_concat wait with rfl | ⟨wait', k, e⟩
 ·have hv2 : ∃ a c, Boxed w bw 111 (.slice a 0 c) := by
   rcases ho.2 with ⟨rfl, _⟩ | ⟨g, cap, cur, rfl, _⟩
   ·exact ⟨_, _, hv⟩
   exact ⟨_, _, hv⟩
  refine (take_no bw w (.inr hv2)).mono ?_
  rintro e w' ⟨rfl, rfl⟩
  exact ⟨0, false, rfl, .inl ⟨rfl, rfl, rfl⟩, KeepsOthers.refl _, Below.refl _ _, fun _ _ _ h _ _ _ => h⟩
 rw [List.concat_eq_append] at e
 subst e
 rw [List.length_append, List.length_singleton] at ho hl
 refine (take_yes B bw w v wait' k hv ho h.base.2.1 (by omega)).mono ?_
 rintro e w' ⟨rfl, v', rfl, b1, o1, _⟩
 refine ⟨k, true, rfl, .inr ⟨rfl, wait', rfl, h.put (Below.heap_setCell _ _ _ bs (heap_ne h.sbox hv (by simp))) (Below.heap_setCell _ _ _ sb (heap_ne h.sblk hv (by simp))) b1 o1⟩, KeepsOthers.setCell _ _ _, Below.setCell (p := ⟨bw, 0, none⟩) (Below.refl _ _) h.base.2.1 _, fun b cs t hb n1 n2 n3 => ?_⟩
 exact (Below.heap_setCell w ⟨bw, 0, none⟩ v' b (heap_ne hb hv (by intro h; injection h with _ h2; exact n2 h2))).trans hb
theorem mark_any (B : Nat) (w : World) (bs bw sb : Nat) (seen : List Bool) (wait : List Nat) (k : Nat) (h : St B w bs bw sb seen wait) (hk : k < seen.length) (hl : seen.length ≤ 100000) (hl2 : wait.length ≤ 100000) (hB : B ≤ w.heap.size) :
 Calls Tryz.prog 67 #[.int .i64 k, .pointer (some ⟨bs, 0, none⟩), .pointer (some ⟨bw, 0, none⟩)] w fun e w' => (∃ r, e = .returned r) ∧ ∃ seen' wait', St B w' bs bw sb seen' wait' ∧ Mk seen wait k seen' wait' ∧ KeepsOthers w w' ∧ Below B w w' ∧ Far w w' := by
 by_cases hs : sn seen k
 ·refine (mark_old B w bs bw sb seen wait k h hk hl hs).mono ?_
  rintro e w' ⟨he, rfl⟩
  exact ⟨he, seen, wait, h, .inl ⟨hs, rfl, rfl⟩, KeepsOthers.refl _, Below.refl _ _, fun _ _ _ h _ _ _ => h⟩
 refine (mark_new B w bs bw sb seen wait k h hk hl hl2 hB hs).mono ?_
 rintro e w' ⟨he, h1, h2, h3, h4⟩
 exact ⟨he, _, _, h1, .inr ⟨hs, rfl, rfl⟩, h2, h3, h4⟩
end Go.Proofs.YtngmipfodjgmmaaGreatDoor.P
end
