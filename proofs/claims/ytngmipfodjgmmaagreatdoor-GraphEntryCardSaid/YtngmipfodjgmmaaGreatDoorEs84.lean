/- Walks and plain laws of this claim, a part. -/
import Derived.Test.YtngmipfodjgmmaaGreatDoorEs82
import Derived.Test.YtngmipfodjgmmaaGreatDoorEs83
namespace Go.Proofs.YtngmipfodjgmmaaGreatDoor.Pure
open Go Go.RowKit Go.Lib Go.Shelf Go.Proofs.YtngmipfodjgmmaaGreatDoorW.PrintWords Go.Proofs.YtngmipfodjgmmaaGreatDoorW.PrintLast Go.Proofs.YtngmipfodjgmmaaGreatDoorW.PrintMore Go.Proofs.YtngmipfodjgmmaaGreatDoor.Reach
open P (Glob UA nd NdOk Rt SpreadPost)
set_option linter.unusedVariables false
set_option linter.unusedSimpArgs false
theorem C_block {α : Type} {d : Kd α} {W : World} {g : Nat} {t : TypeId} {xs : List α} {inner : List Value} (hb : W.heap[g]? = some (.cells inner.toArray t (0, 0))) (hr : Reps (d.K W) d.sz xs inner) (hm : xs.length ≤ maxLen) : d.C W (some ⟨g, 0, none⟩) xs.length xs := by
 have ho : W.ownsRow 0 t d.sz (.slice (some ⟨g, 0, none⟩) xs.length xs.length) xs.length inner := ⟨hr.1, .inr ⟨g, xs.length, inner.toArray, rfl, Nat.zero_le _, hb, Nat.le_refl _, hm, by simpa using hr.1, by rw [← hr.1]; simp⟩⟩
 obtain ⟨A, c, e, h⟩ := own_reads_row ho hr rfl
 cases e
 exact h
/-- A unit that needs some: its cells at a value of its Refs. -/
def UV (w : World) (u : P.S39) (A : Option Addr) (c : Nat) : Prop := Kd.C P.k80 w A u.f5.length u.f5 ∧ u.f5.length ≤ c
theorem UV.below {w w1 : World} {u A c} (h : UV w u A c) (hb : Below w.heap.size w w1) : UV w1 u A c := ⟨Kd.C_below h.1 hb, h.2⟩
theorem UV.K {w : World} {u A c} (h : UV w u A c) : P.k39.K w u [.string u.f0, .int .i64 u.f1, .bool u.f2, .int .i64 u.f3, .string u.f4, .slice A u.f5.length c] := P.k39_mk w u h.2 h.1
theorem quads_calls {k : Nat} {a0 : ByteArray} {l : List Int} {u : P.S39} (h : P.cleatlaw21_quads.f k a0 l = some (u.f0, u.f1, u.f2, u.f3, u.f4, u.f5)) (w : World) (A : Option Addr) (c : Nat) (hr : IA w A l) (hc : l.length ≤ c) :
 Calls Tryz.prog 57 #[.string a0, .slice A l.length c] w fun e w' => ∃ A' c', e = .returned (.agg #[.string u.f0, .int .i64 u.f1, .bool u.f2, .int .i64 u.f3, .string u.f4, .slice A' u.f5.length c']) ∧ UV w' u A' c' ∧ Below w.heap.size w w' := by
 refine (P.cleatlaw21_quads.calls k a0 A c l u.f0 u.f1 u.f2 u.f3 u.f4 u.f5 w hr hc h).mono ?_
 rintro e w' ⟨v, rfl, hR, hb⟩
 obtain ⟨A', c', rfl, hl, hC⟩ := Kd.R_reads hR
 exact ⟨A', c', rfl, ⟨hC, hl⟩, hb⟩
def z8 : ByteArray := ⟨#[0, 0, 0, 0, 0, 0, 0, 0]⟩
def ua : P.S39 := ⟨⟨#[97]⟩, 2, false, 0, z8, [⟨0, 1, 2, 0⟩]⟩
def ub : P.S39 := ⟨⟨#[98]⟩, 2, false, 0, z8, [⟨0, 1, 0, 0⟩]⟩
def uc : P.S39 := ⟨⟨#[99]⟩, 2, false, 0, ⟨#[]⟩, []⟩
def ud : P.S39 := ⟨⟨#[97]⟩, 2, false, 0, z8, [⟨0, 1, 1, 0⟩]⟩
theorem qa : P.cleatlaw21_quads.f 20 ⟨#[97]⟩ [2] = some (ua.f0, ua.f1, ua.f2, ua.f3, ua.f4, ua.f5) := by kernel_rfl
theorem qb : P.cleatlaw21_quads.f 20 ⟨#[98]⟩ [0] = some (ub.f0, ub.f1, ub.f2, ub.f3, ub.f4, ub.f5) := by kernel_rfl
theorem qc : P.cleatlaw21_quads.f 20 ⟨#[99]⟩ [] = some (uc.f0, uc.f1, uc.f2, uc.f3, uc.f4, uc.f5) := by kernel_rfl
theorem qd : P.cleatlaw21_quads.f 20 ⟨#[97]⟩ [1] = some (ud.f0, ud.f1, ud.f2, ud.f3, ud.f4, ud.f5) := by kernel_rfl
def u3 : List P.S39 := [ua, ub, uc]
theorem u3_is : IsU u3 true := Ev.of (fun k => P.graph_Is.mono _ k) (k := 100) (by kernel_rfl)
theorem u1_is : IsU [ud] false := Ev.of (fun k => P.graph_Is.mono _ k) (k := 100) (by kernel_rfl)
theorem u3_narrow : Narrow u3 := by
 intro _ i h
 have : i = 0 ∨ i = 1 ∨ i = 2 := by have : u3.length = 3 := rfl; omega
 rcases this with rfl | rfl | rfl <;> simp [u3, ua, ub, uc]
theorem u1_narrow : Narrow [ud] := by
 intro _ i h
 have : i = 0 := by have : [ud].length = 1 := rfl; omega
 subst this
 simp [ud]
theorem u3_ok : UOk u3 := by
 obtain ⟨b, hb, hi⟩ := isU_ends u3 u3_narrow
 exact hi.1 (isU_one hb u3_is)
theorem u3_seen {seen : List Bool} (hl : seen.length = u3.length) (h : ∀ i, sn seen i ↔ RS (nd u3) (Rt [0]) i) : seen = [true, false, true] := by
 have n0 : nd u3 0 = [2] := by kernel_rfl
 have n2 : nd u3 2 = [] := by kernel_rfl
 have h0 : RS (nd u3) (Rt [0]) 0 := .root (by unfold Rt; simp)
 have h2 : RS (nd u3) (Rt [0]) 2 := .step h0 (by rw [n0]; simp)
 have h1 : ¬ RS (nd u3) (Rt [0]) 1 := by
  have key : ∀ i, RS (nd u3) (Rt [0]) i → i = 0 ∨ i = 2 := by
   intro i hi
   induction hi with
   | root h => unfold Rt at h; simp at h; omega
   | step _ hj ih =>
    rcases ih with rfl | rfl
    ·rw [n0] at hj; simp at hj; omega
    ·rw [n2] at hj; cases hj
  intro h
  have := key 1 h
  omega
 have e0 := (h 0).2 h0
 have e2 := (h 2).2 h2
 have e1 : ¬ sn seen 1 := fun k => h1 ((h 1).1 k)
 have hl : seen.length = 3 := hl
 match seen, hl with
 | [x, y, z], _ =>
  unfold sn at e0 e1 e2
  simp at e0 e1 e2
  rw [e0, e1, e2]
theorem bools_read {W : World} {g t : Nat} {l : List Bool} (h : W.heap[g]? = some (.cells (l.map Value.bool).toArray t (0, 0))) (hl : l.length ≤ maxLen) : Kd.C Kd.bool W (some ⟨g, 0, none⟩) l.length l := by
 refine C_block h ⟨by simp [Kd.bool, Kd.scalar], fun j p hj => ?_⟩ hl
 have hj2 : j < l.length := (List.getElem?_eq_some_iff.1 hj).1
 have hp : l[j] = p := (List.getElem?_eq_some_iff.1 hj).2
 show List.take 1 (List.drop (j * 1) (l.map Value.bool)) = [Value.bool p]
 rw [Nat.mul_one, List.drop_eq_getElem_cons (by simpa using hj2)]
 simp [hp]
theorem ints_read {W : World} {g t : Nat} {l : List Int} (h : W.heap[g]? = some (.cells (l.map (Value.int .i64)).toArray t (0, 0))) (hl : l.length ≤ maxLen) : IA W (some ⟨g, 0, none⟩) l := by
 refine C_block h ⟨by simp [Kd.int, Kd.scalar], fun j p hj => ?_⟩ hl
 have hj2 : j < l.length := (List.getElem?_eq_some_iff.1 hj).1
 have hp : l[j] = p := (List.getElem?_eq_some_iff.1 hj).2
 show List.take 1 (List.drop (j * 1) (l.map (Value.int .i64))) = [Value.int .i64 p]
 rw [Nat.mul_one, List.drop_eq_getElem_cons (by simpa using hj2)]
 simp [hp]
theorem units3 {W : World} {g t : Nat} {a b d : P.S39} {Aa Ab Ad : Option Addr} {ca cb cd : Nat} (h : W.heap[g]? = some (.cells #[.string a.f0, .int .i64 a.f1, .bool a.f2, .int .i64 a.f3, .string a.f4, .slice Aa a.f5.length ca, .string b.f0, .int .i64 b.f1, .bool b.f2, .int .i64 b.f3, .string b.f4, .slice Ab b.f5.length cb, .string d.f0, .int .i64 d.f1, .bool d.f2, .int .i64 d.f3, .string d.f4, .slice Ad d.f5.length cd] t (0, 0)))
 (ha : UV W a Aa ca) (hb : UV W b Ab cb) (hd : UV W d Ad cd) : UA W (some ⟨g, 0, none⟩) [a, b, d] :=
 have hr : Reps (P.k39.K W) 6 [a, b, d] (((([] : List Value) ++ [.string a.f0, .int .i64 a.f1, .bool a.f2, .int .i64 a.f3, .string a.f4, .slice Aa a.f5.length ca]) ++ [.string b.f0, .int .i64 b.f1, .bool b.f2, .int .i64 b.f3, .string b.f4, .slice Ab b.f5.length cb]) ++ [.string d.f0, .int .i64 d.f1, .bool d.f2, .int .i64 d.f3, .string d.f4, .slice Ad d.f5.length cd]) := (((Reps.none (P.k39.K W) 6).snoc ha.K rfl).snoc hb.K rfl).snoc hd.K rfl
 C_block (d := P.k39) (xs := [a, b, d]) h hr (by simp [maxLen])
theorem units1 {W : World} {g t : Nat} {a : P.S39} {Aa : Option Addr} {ca : Nat} (h : W.heap[g]? = some (.cells #[.string a.f0, .int .i64 a.f1, .bool a.f2, .int .i64 a.f3, .string a.f4, .slice Aa a.f5.length ca] t (0, 0)))
 (ha : UV W a Aa ca) : UA W (some ⟨g, 0, none⟩) [a] :=
 have hr : Reps (P.k39.K W) 6 [a] (([] : List Value) ++ [.string a.f0, .int .i64 a.f1, .bool a.f2, .int .i64 a.f3, .string a.f4, .slice Aa a.f5.length ca]) := (Reps.none (P.k39.K W) 6).snoc ha.K rfl
 C_block (d := P.k39) (xs := [a]) h hr (by simp [maxLen])
theorem quads1 {k : Nat} {a0 : ByteArray} {z : Int} {u : P.S39} (h : P.cleatlaw21_quads.f k a0 [z] = some (u.f0, u.f1, u.f2, u.f3, u.f4, u.f5)) (w : World) :
 Calls Tryz.prog 57 #[.string a0, .slice (some ⟨w.heap.size, 0, none⟩) 1 1] (w.alloc (.cells #[.int .i64 z] 3)) fun e w' => ∃ A' c', e = .returned (.agg #[.string u.f0, .int .i64 u.f1, .bool u.f2, .int .i64 u.f3, .string u.f4, .slice A' u.f5.length c']) ∧ UV w' u A' c' ∧ Below w.heap.size w w' := by
 refine (quads_calls h _ (some ⟨w.heap.size, 0, none⟩) 1 (ints_read (l := [z]) (blk_new w (.cells #[.int .i64 z] 3)) (by simp [maxLen])) (by simp)).mono ?_
 rintro e w' ⟨A', c', he, hu, hb⟩
 exact ⟨A', c', he, hu, bTT ((Below.refl _ w).alloc (Nat.le_refl _) _) hb⟩
theorem quads0 {k : Nat} {a0 : ByteArray} {u : P.S39} (h : P.cleatlaw21_quads.f k a0 [] = some (u.f0, u.f1, u.f2, u.f3, u.f4, u.f5)) (w : World) :
 Calls Tryz.prog 57 #[.string a0, .slice none 0 0] w fun e w' => ∃ A' c', e = .returned (.agg #[.string u.f0, .int .i64 u.f1, .bool u.f2, .int .i64 u.f3, .string u.f4, .slice A' u.f5.length c']) ∧ UV w' u A' c' ∧ Below w.heap.size w w' :=
 quads_calls h w none 0 (Kd.C_nil _ _) (by decide)
theorem reach1 (w : World) (A : Option Addr) (z : Int) (hG : Glob w) (hu : UA w A u3) :
 Calls Tryz.prog 30 #[.slice A 3 3, .slice (some ⟨w.heap.size, 0, none⟩) 1 1] (w.alloc (.cells #[.int .i64 z] 3)) fun e w' => Below w.heap.size w w' ∧ ReachPost u3 [z] (w.alloc (.cells #[.int .i64 z] 3)) e w' := by
 have hb := bAA (Below.refl w.heap.size w) (.cells #[.int .i64 z] 3)
 refine (reach_any _ A (some ⟨w.heap.size, 0, none⟩) u3 [z] 3 1 (hG.below hb) (Kd.C_below hu hb) (by decide) u3_narrow (by decide) (ints_read (l := [z]) (blk_new w (.cells #[.int .i64 z] 3)) (by simp [maxLen])) (by simp)).mono ?_
 intro e w' h
 exact ⟨bTT hb h.1, h⟩
theorem reachA (w : World) (A : Option Addr) (hG : Glob w) (hu : UA w A u3) :
 Calls Tryz.prog 30 #[.slice A 3 3, .slice (some ⟨w.heap.size, 0, none⟩) 1 1] (w.alloc (.cells #[.int .i64 0] 3)) fun e w' => ∃ sb, e = .returned (.tuple #[.slice (some ⟨sb, 0, none⟩) 3 3, .int .i64 0]) ∧ Kd.C Kd.bool w' (some ⟨sb, 0, none⟩) 3 [true, false, true] ∧ Below w.heap.size w w' := by
 refine (reach1 w A 0 hG hu).mono ?_
 rintro e w' ⟨hb, _, ⟨h, _⟩ | ⟨_, _, sb, seen, rfl, h1, h2, h3, _⟩⟩
 ·exact absurd ⟨u3_ok, fun z hz => by obtain rfl := List.mem_singleton.1 hz; exact ⟨by decide, by decide⟩⟩ h
 ·obtain rfl := u3_seen h1 h2
  exact ⟨sb, rfl, bools_read h3 (by decide), hb⟩
theorem reachB (w : World) (A : Option Addr) (hG : Glob w) (hu : UA w A u3) :
 Calls Tryz.prog 30 #[.slice A 3 3, .slice (some ⟨w.heap.size, 0, none⟩) 1 1] (w.alloc (.cells #[.int .i64 3] 3)) fun e w' => e = .returned (.tuple #[.slice none 0 0, .int .i64 1]) ∧ Below w.heap.size w w' := by
 refine (reach1 w A 3 hG hu).mono ?_
 rintro e w' ⟨hb, _, ⟨_, h⟩ | ⟨_, h, _⟩⟩
 ·exact ⟨h, hb⟩
 ·have := h 3 (List.mem_singleton.2 rfl)
  exact absurd this.2 (by decide)
theorem rootsA (w : World) (A : Option Addr) (hG : Glob w) (hu : UA w A u3) :
 Calls Tryz.prog 28 #[.slice A 3 3, .int .i64 1] w fun e w' => ∃ A' c', e = .returned (.tuple #[.slice A' 1 c', .int .i64 0]) ∧ IA w' A' [1] ∧ 1 ≤ c' ∧ Below w.heap.size w w' := by
 refine (proots_calls u3 1 (by decide) u3_narrow w A 3 hG hu (by decide)).mono ?_
 rintro e w' ⟨A', c', l, er, rfl, hl, hR, hC, hb⟩
 rcases hR with ⟨h, _⟩ | ⟨_, rfl, rfl⟩
 ·exact absurd ⟨u3_ok, by decide, by decide⟩ h
 ·have e1 : rootsL u3 1 u3.length = [1] := by kernel_rfl
  rw [e1] at hl hC ⊢
  exact ⟨A', c', rfl, hC, hl, hb⟩
theorem isA (w : World) (A : Option Addr) (hG : Glob w) (hu : UA w A u3) : Calls Tryz.prog 33 #[.slice A 3 3] w fun e w' => e = .returned (.bool true) ∧ Below w.heap.size w w' := isU_calls u3_is w A 3 hG hu (by decide) u3_narrow
theorem isD (w : World) (A : Option Addr) (hG : Glob w) (hu : UA w A [ud]) : Calls Tryz.prog 33 #[.slice A 1 1] w fun e w' => e = .returned (.bool false) ∧ Below w.heap.size w w' := isU_calls u1_is w A 1 hG hu (by decide) u1_narrow
theorem boolsA (w : World) (sb : Nat) (h : Kd.C Kd.bool w (some ⟨sb, 0, none⟩) 3 [true, false, true]) :
 Calls Tryz.prog 15 #[.slice (some ⟨sb, 0, none⟩) 3 3, .slice (some ⟨w.heap.size, 0, none⟩) 3 3] (w.alloc (.cells #[.bool true, .bool false, .bool true] 4)) fun e w' => e = .returned (.bool true) ∧ Below w.heap.size w w' := by
 have hb := bAA (Below.refl w.heap.size w) (.cells #[.bool true, .bool false, .bool true] 4)
 refine (P.cleatref21_Bools.calls 10 (some ⟨sb, 0, none⟩) 3 [true, false, true] (some ⟨w.heap.size, 0, none⟩) 3 [true, false, true] true _ (Kd.C_below h hb) (by decide) (bools_read (l := [true, false, true]) (blk_new w (.cells #[.bool true, .bool false, .bool true] 4)) (by decide)) (by decide) (by kernel_rfl)).mono ?_
 intro e w' h
 exact ⟨h.1, bTT hb h.2.below⟩
theorem sameA (w : World) (A : Option Addr) (c : Nat) (h : IA w A [1]) (hc : 1 ≤ c) :
 Calls Tryz.prog 13 #[.slice A 1 c, .slice (some ⟨w.heap.size, 0, none⟩) 1 1] (w.alloc (.cells #[.int .i64 1] 3)) fun e w' => e = .returned (.bool true) ∧ Below w.heap.size w w' := by
 have hb := bAA (Below.refl w.heap.size w) (.cells #[.int .i64 1] 3)
 refine (P.cleatref04_Same.calls 10 A c [1] (some ⟨w.heap.size, 0, none⟩) 1 [1] true _ (Kd.C_below h hb) hc (ints_read (l := [1]) (blk_new w (.cells #[.int .i64 1] 3)) (by decide)) (by decide) (by kernel_rfl)).mono ?_
 intro e w' h
 exact ⟨h.1, bTT hb h.2.below⟩
set_option maxRecDepth 100000 in
set_option maxHeartbeats 4000000 in
theorem linked_any (w : World) (hG : Glob w) : Calls Tryz.prog 32 #[] w fun e w' => e = .returned (.bool true) ∧ Below w.heap.size w w' := by
 have HG := Azz.mk hG
 clear hG
 go_enter Tryz.func32, Tryz.ntmps32
 go_wp2_with fail
 (with_reducible refine (quads1 qa _).mono ?_)
 rintro e w1 ⟨Aa, ca, rfl, ha, hb⟩
 have HB := Azz.mk hb
 have HA := Azz.mk ha
 clear ha hb
 go_wp2_with fail
 (with_reducible refine (quads1 qb _).mono ?_)
 rintro e w2 ⟨Ab, cb, rfl, hb1, hb⟩
 replace HB := Azz.mk (bTT HB.out hb)
 replace HA := Azz.mk (HA.out.below hb)
 have HB1 := Azz.mk hb1
 clear hb1 hb
 go_wp2_with fail
 (with_reducible refine (quads0 qc _).mono ?_)
 rintro e w3 ⟨Ac, cc, rfl, hc1, hb⟩
 replace HB := Azz.mk (bTT HB.out hb)
 replace HA := Azz.mk (HA.out.below hb)
 replace HB1 := Azz.mk (HB1.out.below hb)
 have HC1 := Azz.mk hc1
 clear hc1 hb
 go_wp2_with fail
 have hU := units3 (blk_new w3 (.cells #[.string ua.f0, .int .i64 ua.f1, .bool ua.f2, .int .i64 ua.f3, .string ua.f4, .slice Aa ua.f5.length ca, .string ub.f0, .int .i64 ub.f1, .bool ub.f2, .int .i64 ub.f3, .string ub.f4, .slice Ab ub.f5.length cb, .string uc.f0, .int .i64 uc.f1, .bool uc.f2, .int .i64 uc.f3, .string uc.f4, .slice Ac uc.f5.length cc] 39)) (HA.out.below (bAA (Below.refl _ _) _)) (HB1.out.below (bAA (Below.refl _ _) _)) (HC1.out.below (bAA (Below.refl _ _) _))
 have hsz : (w3.alloc (.cells #[.string ua.f0, .int .i64 ua.f1, .bool ua.f2, .int .i64 ua.f3, .string ua.f4, .slice Aa ua.f5.length ca, .string ub.f0, .int .i64 ub.f1, .bool ub.f2, .int .i64 ub.f3, .string ub.f4, .slice Ab ub.f5.length cb, .string uc.f0, .int .i64 uc.f1, .bool uc.f2, .int .i64 uc.f3, .string uc.f4, .slice Ac uc.f5.length cc] 39)).heap.size = w3.heap.size + 1 := by simp
 have hBV := HB.out.alloc HB.out.size (.cells #[.string ua.f0, .int .i64 ua.f1, .bool ua.f2, .int .i64 ua.f3, .string ua.f4, .slice Aa ua.f5.length ca, .string ub.f0, .int .i64 ub.f1, .bool ub.f2, .int .i64 ub.f3, .string ub.f4, .slice Ab ub.f5.length cb, .string uc.f0, .int .i64 uc.f1, .bool uc.f2, .int .i64 uc.f3, .string uc.f4, .slice Ac uc.f5.length cc] 39)
 obtain ⟨V, hV⟩ : ∃ V, V = w3.alloc (.cells #[.string ua.f0, .int .i64 ua.f1, .bool ua.f2, .int .i64 ua.f3, .string ua.f4, .slice Aa ua.f5.length ca, .string ub.f0, .int .i64 ub.f1, .bool ub.f2, .int .i64 ub.f3, .string ub.f4, .slice Ab ub.f5.length cb, .string uc.f0, .int .i64 uc.f1, .bool uc.f2, .int .i64 uc.f3, .string uc.f4, .slice Ac uc.f5.length cc] 39) := ⟨_, rfl⟩
 obtain ⟨g, hg⟩ : ∃ g, g = w3.heap.size := ⟨_, rfl⟩
 rw [← hV] at hU hsz hBV ⊢
 rw [← hsz]
 rw [← hg] at hU ⊢
 replace HB := Azz.mk hBV
 have HU : Azz (UA V (some ⟨g, 0, none⟩) u3) := ⟨hU⟩
 clear hU hsz hBV hV hg HA HB1 HC1
 (with_reducible refine (reachA V (some ⟨g, 0, none⟩) (HG.out.below HB.out) HU.out).mono ?_)
 rintro e w4 ⟨sb, rfl, hl, hb⟩
 replace HB := Azz.mk (bTT HB.out hb)
 replace HU := Azz.mk (Kd.C_below HU.out hb)
 have HL := Azz.mk hl
 clear hl hb
 go_wp2_with fail
 (with_reducible refine (reachB w4 (some ⟨g, 0, none⟩) (HG.out.below HB.out) HU.out).mono ?_)
 rintro e w5 ⟨rfl, hb⟩
 replace HB := Azz.mk (bTT HB.out hb)
 replace HU := Azz.mk (Kd.C_below HU.out hb)
 replace HL := Azz.mk (Kd.C_below HL.out hb)
 clear hb
 go_wp2_with fail
 (with_reducible refine (rootsA w5 (some ⟨g, 0, none⟩) (HG.out.below HB.out) HU.out).mono ?_)
 rintro e w6 ⟨Ar, cr, rfl, hr, hcr, hb⟩
 replace HB := Azz.mk (bTT HB.out hb)
 replace HU := Azz.mk (Kd.C_below HU.out hb)
 replace HL := Azz.mk (Kd.C_below HL.out hb)
 have HR := Azz.mk hr
 clear hr hb
 go_wp2_with fail
 (with_reducible refine (entry_nil w6).mono ?_)
 rintro e w7 ⟨rfl, hb⟩
 replace HB := Azz.mk (bTT HB.out hb)
 replace HU := Azz.mk (Kd.C_below HU.out hb)
 replace HL := Azz.mk (Kd.C_below HL.out hb)
 replace HR := Azz.mk (Kd.C_below HR.out hb)
 clear hb
 go_wp2_with fail
 (with_reducible refine (boolsA w7 sb HL.out).mono ?_)
 rintro e w8 ⟨rfl, hb⟩
 replace HB := Azz.mk (bTT HB.out hb)
 replace HU := Azz.mk (Kd.C_below HU.out hb)
 replace HR := Azz.mk (Kd.C_below HR.out hb)
 clear hb HL
 go_wp2_with fail
 (with_reducible refine (sameA w8 Ar cr HR.out hcr).mono ?_)
 rintro e w9 ⟨rfl, hb⟩
 replace HB := Azz.mk (bTT HB.out hb)
 replace HU := Azz.mk (Kd.C_below HU.out hb)
 clear hb HR
 go_wp2_with fail
 (with_reducible refine (isA w9 (some ⟨g, 0, none⟩) (HG.out.below HB.out) HU.out).mono ?_)
 rintro e w10 ⟨rfl, hb⟩
 replace HB := Azz.mk (bTT HB.out hb)
 clear hb HU
 go_wp2_with fail
 (with_reducible refine (quads1 qd w10).mono ?_)
 rintro e w11 ⟨Ad, cd, rfl, hd, hb⟩
 replace HB := Azz.mk (bTT HB.out hb)
 have HD := Azz.mk hd
 clear hb hd
 go_wp2_with fail
 (with_reducible refine (isD _ _ (HG.out.below (HB.out.alloc HB.out.size _)) (units1 (blk_new w11 _) (HD.out.below (bAA (Below.refl _ _) _)))).mono ?_)
 rintro e w12 ⟨rfl, hb⟩
 replace HB := Azz.mk (bTT (HB.out.alloc HB.out.size _) hb)
 clear hb
 go_wp2
 go_ret
 exact ⟨rfl, HB.out⟩
end Go.Proofs.YtngmipfodjgmmaaGreatDoor.Pure
