/- Walks and plain laws of this claim, a part. -/
import Derived.Test.YtngmipfodjgmmaaGreatDoorEs65
import Derived.Test.YtngmipfodjgmmaaGreatDoorEs24
namespace Go.Proofs.YtngmipfodjgmmaaGreatDoor.P
open Go Go.RowKit Go.Lib Go.Shelf Go.Proofs.YtngmipfodjgmmaaGreatDoorW.PrintWords Go.Proofs.YtngmipfodjgmmaaGreatDoorW.PrintLast Go.Proofs.YtngmipfodjgmmaaGreatDoorW.PrintMore Go.Proofs.YtngmipfodjgmmaaGreatDoor.Reach
set_option linter.unusedVariables false
set_option linter.unusedSimpArgs false
attribute [local go_sem] Oper.semAt_some
abbrev UA (w : World) (A : Option Addr) (us : List S39) : Prop := Kd.C k39 w A us.length us
theorem size_any (w : World) (A : Option Addr) (n c : Nat) (hn : n ≤ 9223372036854775807) :
 Calls Tryz.prog 198 #[.slice A n c] w fun e w' => e = .returned (.int .i64 n) ∧ w = w' := by
 go_enter Tryz.func198, Tryz.ntmps198
 go_wp2
 go_ret
 exact ⟨rfl, rfl⟩
theorem needs_any (w : World) (A : Option Addr) (n c k : Nat) :
 Calls Tryz.prog 197 #[.slice A n c, .int .i64 k] w fun e w' => e = .returned (.func (.func 199) #[] #[.pointer (some ⟨w.heap.size, 0, none⟩), .pointer (some ⟨w.heap.size + 1, 0, none⟩)]) ∧ (w.alloc (.cells #[.slice A n c] 94)).alloc (.cells #[.int .i64 k] 3) = w' := by
 go_enter Tryz.func197, Tryz.ntmps197
 go_wp2
 go_ret
 exact ⟨rfl, rfl⟩
/-- What unit i needs. -/
def ndI (us : List S39) (i : Nat) : List Int := (rd_T39 us i).f5.map (·.f2)
theorem xs_take {α : Type} (val : α → Nat) (xs : List α) (us : List S39) (k : Nat) (hx : xs.map (fun x => (val x : Int)) = ndI us k) (q : Nat) (h : q < (rd_T39 us k).f5.length) : ∃ x, xs.take (q + 1) = xs.take q ++ [x] ∧ (rd_T80 (rd_T39 us k).f5 q).f2 = (val x : Nat) := by
 have hl : xs.length = (rd_T39 us k).f5.length := by have := congrArg List.length hx; simpa [ndI] using this
 refine ⟨xs[q]'(by omega), List.take_succ_eq_append_getElem (by omega), ?_⟩
 have := congrArg (·[q]?) hx
 unfold ndI at this
 simp only [List.getElem?_map, List.getElem?_eq_getElem (show q < xs.length by omega), List.getElem?_eq_getElem h, Option.map_some, Option.some.injEq] at this
 unfold rd_T80
 rw [Int.toNat_natCast, List.getD_eq_getElem?_getD, List.getElem?_eq_getElem h]
 exact this.symm
theorem abide_alloc {β : Type} {B : Nat} {J : β → World → Prop} (h : AbidesFrom B J) {s : β} {W : World} (o : Obj) (hs : J s W) : J s (W.alloc o) := h s W _ none hs (World.grownBy_alloc W o none) (fun r e => by cases e)
set_option maxRecDepth 100000 in
set_option maxHeartbeats 2000000 in
/-- The iterator over what a unit needs. -/
theorem needs1_in (F : Fence) (n : Nat) (hf : F.fn 199) (hro : F.round = none) (hn : 1 ≤ n) (l Bu Ba B k c : Nat) (A : Option Addr) (us : List S39) {α : Type} (val : α → Nat) (xs : List α) (J Jx : List α → World → Prop) (w0 : World) (hx : xs.map (fun x => (val x : Int)) = ndI us k)
 (hY : ∀ pre x W, J pre W → pre.length < xs.length → YieldAt F (n - 1) Tryz.prog l #[.int .i64 (val x)] W fun e W' =>
  (e = .returned (.bool true) ∧ J (pre ++ [x]) W' ∧ Below w0.heap.size W W') ∨ (e = .returned (.bool false) ∧ Jx (pre ++ [x]) W'))
 (hJ : AbidesFrom B J) (W : World) (h0W : Below w0.heap.size w0 W) (hBu : W.cell? ⟨Bu, 0, none⟩ = some (.slice A us.length c)) (hBa : W.cell? ⟨Ba, 0, none⟩ = some (.int .i64 k)) (hu : UA w0 A us) (hk : k < us.length) (hl : us.length ≤ 100000) (hr : (rd_T39 us k).f5.length ≤ 100000) (h0 : J [] W) :
 CallsIn F n Tryz.prog 199 #[.func (.yield l) #[] #[], .pointer (some ⟨Bu, 0, none⟩), .pointer (some ⟨Ba, 0, none⟩)] W fun e W' => (∃ v, e = .returned v) ∧
  ((∃ ys, ys = xs ∧ J ys W') ∨ (∃ pre, True ∧ Jx pre W')) := by
 obtain ⟨ad, A5, c5, e, _, _, _, _, _, hx5, hl5, hC⟩ := at_T39 hu k (by omega) (by omega)
 cases e
 rw [Int.toNat_natCast] at hx5
 replace hx5 := (h0W.cell (World.block_lt_of_cell? _ _ hx5)).trans hx5
 have H0W := Azz.mk h0W
 have h0W_size := h0W.size
 have HC := Azz.mk hC
 have hlen : xs.length = (rd_T39 us k).f5.length := by have := congrArg List.length hx; simpa [ndI] using this
 have HY := Azz.mk hY
 have HL := Azz.mk hlen
 have H0 := Azz.mk h0
 have HT := Azz.mk (xs_take val xs us k hx)
 obtain ⟨refs, hrefs⟩ : ∃ refs, (rd_T39 us k).f5 = refs := ⟨_, rfl⟩
 rw [hrefs] at hx5 HC hr HL HT hl5
 clear hC hlen hY h0 hu hrefs h0W hx
 refine callsIn_of_wp Tryz.func199 rfl hf ?_ hro
 simp only [Tryz.ntmps199, List.size_toArray, List.length_cons, List.length_nil, Nat.reduceAdd, Nat.reduceSub, Array.replicate_succ, Array.replicate_zero, List.push_toArray, List.append_toArray, List.nil_append, List.cons_append]
 gi_wp2
 gi_loopw [12] (fun i wr => ∃ q : Nat, q ≤ refs.length ∧ i = .int .i64 q ∧ J (xs.take q) wr ∧ Azz (RowKit.Below w0.heap.size W wr)) (fun i _ => refs.length - (RowKit.intOf i).toNat)
 case atStart => exact ⟨0, Nat.zero_le _, rfl, H0.out, ⟨Below.refl _ _⟩⟩
 case round =>
  obtain ⟨q, hq, rfl, hJs, HB⟩ := hrel
  by_cases hlt : q < refs.length
  ·have hr1 := Kd.C_below HC.out (H0W.out.trans HB.out)
   obtain ⟨a5, e5, y0, y1, y2, y3⟩ := at_T80 hr1 q (by omega) (by omega)
   clear hr1
   cases e5
   rw [Int.toNat_natCast] at y0 y1 y2 y3
   obtain ⟨x, ht, hv⟩ := HT.out q hlt
   obtain ⟨r, hr⟩ : ∃ r, rd_T80 refs q = r := ⟨_, rfl⟩
   rw [hr] at y0 y1 y2 y3 hv
   rw [hv] at y2
   have HQ := Azz.mk ht
   clear hr ht hv
   have hJ2 := abide_alloc hJ (.cells #[.int .i64 r.f0, .int .i64 r.f1, .int .i64 (val x), .int .i64 r.f3] 80) hJs
   obtain ⟨fn, tmps, assign, body, hy, hR⟩ := HY.out _ x _ hJ2 (by rw [HL.out, List.length_take, HL.out]; omega)
   gi_wp2
   refine hR.mono ?_
   rintro e W3 (⟨rfl, hJ3, hk3⟩ | ⟨rfl, hJx3⟩)
   ·have HB3 := Azz.mk ((HB.out.alloc (Nat.le_trans h0W_size HB.out.size) _).trans hk3)
    have HJ3 := Azz.mk hJ3
    clear hk3 hJ3 hy
    gi_wp2
    go_roundw
    case rel => exact ⟨q + 1, by omega, by go_num, by rw [HQ.out]; exact HJ3.out, HB3⟩
    case measure => simp [RowKit.intOf]; omega
   ·have HJ3 := Azz.mk hJx3
    clear hJx3 hy
    gi_wp2
    refine bodyPost_ret (results_none rfl _ _ _) rfl ?_
    exact ⟨⟨_, rfl⟩, .inr ⟨_, trivial, HJ3.out⟩⟩
  ·obtain rfl : q = refs.length := by omega
   gi_wp2
   go_end0
   exact ⟨⟨_, rfl⟩, .inl ⟨_, rfl, by rw [List.take_of_length_le (by rw [HL.out]; omega)] at hJs; exact hJs⟩⟩
/-- .. as an iterator's contract. -/
theorem needs_stops (F : Fence) (n : Nat) (hf : F.fn 199) (hro : F.round = none) (hn : 1 ≤ n) (Bu Ba k c : Nat) (A : Option Addr) (us : List S39) {α : Type} (val : α → Nat) (xs : List α) (w0 : World) (hx : xs.map (fun x => (val x : Int)) = ndI us k)
 (w : World) (h0w : Below w0.heap.size w0 w) (hBu : w.cell? ⟨Bu, 0, none⟩ = some (.slice A us.length c)) (hBa : w.cell? ⟨Ba, 0, none⟩ = some (.int .i64 k)) (hu : UA w0 A us) (hk : k < us.length) (hl : us.length ≤ 100000) (hr : (rd_T39 us k).f5.length ≤ 100000) :
 SeqStopsK F n Tryz.prog 199 #[.pointer (some ⟨Bu, 0, none⟩), .pointer (some ⟨Ba, 0, none⟩)] (fun x : α => #[Value.int .i64 (val x)]) (Below w0.heap.size) (fun ys => ys = xs) (fun _ => True) xs.length w := fun l J Jx W hW hJ hJx hY h0 =>
 needs1_in F n hf hro hn l Bu Ba W.heap.size k c A us val xs J Jx w0 hx hY hJ W (h0w.trans (hW.mono h0w.size)) ((hW.cell (World.block_lt_of_cell? _ _ hBu)).trans hBu) ((hW.cell (World.block_lt_of_cell? _ _ hBa)).trans hBa) hu hk hl hr h0
theorem info_bool : (Tryz.prog.info? 4).map (fun i => (i.zero, i.size, i.bytes)) = some (some (.bool false), 1, 1) := by kernel_rfl
theorem make_bools (n : Nat) (hn : n ≤ 100000) (W : World) : (Instr.makeSlice 23 (.int .i64 (n : Int)) (.int .i64 (n : Int))).run Tryz.prog W = .ok (.slice (some ⟨W.heap.size, 0, none⟩) n n) (W.alloc (.cells (madeCells #[.bool false] n) 4)) :=
 run_make_row' (P := Tryz.prog) 23 4 (.bool false) 1 Tryz.underlying23 info_bool rfl .i64 .i64 n (by omega) (by omega) W
theorem made_bools (n : Nat) : madeCells #[.bool false] n = ((List.replicate n false).map Value.bool).toArray := by
 refine Array.ext (by simp [madeCells]) fun i h1 h2 => ?_
 simp [madeCells, Nat.mod_one]
theorem take_any (B : Nat) (w : World) (bs bw sb : Nat) (seen : List Bool) (wait : List Nat) (h : St B w bs bw sb seen wait) (hl : wait.length ≤ 100000) :
 Calls Tryz.prog 69 #[.pointer (some ⟨bw, 0, none⟩)] w fun e w' => ∃ (k : Nat) (ok : Bool), e = .returned (.tuple #[.int .i64 k, .bool ok]) ∧ ((ok = false ∧ wait = [] ∧ w = w') ∨ (ok = true ∧ ∃ wait', wait = wait' ++ [k] ∧ St B w' bs bw sb seen wait')) ∧ KeepsOthers w w' ∧ Below B w w' ∧ Far w w' := by
 obtain ⟨v, hv, ho⟩ := h.wbox
 rcases List.eq_nil_or_concat wait with rfl | ⟨wait', k, e⟩
 ·have hv2 : ∃ a c, Boxed w bw 111 (.slice a 0 c) := by
   rcases ho.2 with ⟨rfl, _⟩ | ⟨g, cap, cur, rfl, _⟩
   ·exact ⟨_, _, hv⟩
   ·exact ⟨_, _, hv⟩
  refine (take_no bw w (.inr hv2)).mono ?_
  rintro e w' ⟨rfl, rfl⟩
  exact ⟨0, false, rfl, .inl ⟨rfl, rfl, rfl⟩, KeepsOthers.refl _, Below.refl _ _, fun _ _ _ h _ _ _ => h⟩
 ·rw [List.concat_eq_append] at e
  subst e
  rw [List.length_append, List.length_singleton] at ho hl
  refine (take_yes B bw w v wait' k hv ho h.base.2.1 (by omega)).mono ?_
  rintro e w' ⟨rfl, v', rfl, b1, o1, _⟩
  refine ⟨k, true, rfl, .inr ⟨rfl, wait', rfl, h.put (Below.heap_setCell _ _ _ bs (heap_ne h.sbox hv (by simp))) (Below.heap_setCell _ _ _ sb (heap_ne h.sblk hv (by simp))) b1 o1⟩, KeepsOthers.setCell _ _ _, Below.setCell (p := ⟨bw, 0, none⟩) (Below.refl _ _) h.base.2.1 _, fun b cs t hb n1 n2 n3 => ?_⟩
  exact (Below.heap_setCell w ⟨bw, 0, none⟩ v' b (heap_ne hb hv (by intro h; injection h with _ h2; exact n2 h2))).trans hb
theorem mark_any (B : Nat) (w : World) (bs bw sb : Nat) (seen : List Bool) (wait : List Nat) (k : Nat) (h : St B w bs bw sb seen wait) (hk : k < seen.length) (hl : seen.length ≤ 100000) (hl2 : wait.length ≤ 100000) (hB : B ≤ w.heap.size) :
 Calls Tryz.prog 67 #[.int .i64 k, .pointer (some ⟨bs, 0, none⟩), .pointer (some ⟨bw, 0, none⟩)] w fun e w' => (∃ r, e = .returned r) ∧ ∃ seen' wait', St B w' bs bw sb seen' wait' ∧ Mk seen wait k seen' wait' ∧ KeepsOthers w w' ∧ Below B w w' ∧ Far w w' := by
 by_cases hs : sn seen k
 ·refine (mark_old B w bs bw sb seen wait k h hk hl hs).mono ?_
  rintro e w' ⟨he, rfl⟩
  exact ⟨he, seen, wait, h, .inl ⟨hs, rfl, rfl⟩, KeepsOthers.refl _, Below.refl _ _, fun _ _ _ h _ _ _ => h⟩
 ·refine (mark_new B w bs bw sb seen wait k h hk hl hl2 hB hs).mono ?_
  rintro e w' ⟨he, h1, h2, h3, h4⟩
  exact ⟨he, _, _, h1, .inr ⟨hs, rfl, rfl⟩, h2, h3, h4⟩
end Go.Proofs.YtngmipfodjgmmaaGreatDoor.P
