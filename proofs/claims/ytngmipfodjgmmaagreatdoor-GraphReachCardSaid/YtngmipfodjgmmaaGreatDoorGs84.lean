/- Walks and plain laws of this claim, a part. -/
import Derived.Test.YtngmipfodjgmmaaGreatDoorGs78
import Derived.Test.YtngmipfodjgmmaaGreatDoorGs79
import Derived.Maps.OwnOps
import Derived.Maps.OwnSet
import Derived.Deep.QuietTactic
import Derived.BigQuiet
section
namespace Go.Proofs.YtngmipfodjgmmaaGreatDoor.Pure
open Go Go.RowKit Go.Lib Go.Shelf Go.Proofs.YtngmipfodjgmmaaGreatDoorW.PrintWords Go.Proofs.YtngmipfodjgmmaaGreatDoorW.PrintLast Go.Proofs.YtngmipfodjgmmaaGreatDoorW.PrintMore Go.Proofs.YtngmipfodjgmmaaGreatDoor.Reach
open P (Glob UA nd ndI NdOk Rt root_at)
set_option linter.unusedVariables false
set_option linter.unusedSimpArgs false
/-- A row of bools of one's own. -/
def BB (w : World) (b : Nat) (l : List Bool) : Prop := w.heap[b]? = some (.cells (l.map Value.bool).toArray 4 (0, 0))
theorem BB.below {w w1 : World} {b : Nat} {l : List Bool} (h : BB w b l) (hb : Below w.heap.size w w1) : BB w1 b l := kBB h hb
theorem BB.cell {w : World} {b : Nat} {l : List Bool} (h : BB w b l) (k : Nat) (hk : k < l.length) : w.cell? ⟨b, k, none⟩ = some (.bool (l.getD k false)) := by
 refine (kCC h k).trans ?_
 simp [List.getD_eq_getElem?_getD, List.getElem?_eq_getElem hk]
theorem BB.frozen {w : World} {b : Nat} {l : List Bool} (h : BB w b l) (k : Nat) : w.frozen? ⟨b, k, none⟩ = false := kFF h k
theorem BB.set {w : World} {b : Nat} {l : List Bool} (h : BB w b l) (k : Nat) (v : Bool) : BB (w.setCell ⟨b, k, none⟩ (.bool v)) b (l.set k v) := by
 obtain ⟨hlt, hk2⟩ := Array.getElem?_eq_some_iff.1 h
 show (w.heap.modify b _)[b]? = _
 rw [Array.getElem?_eq_getElem (by rw [Array.size_modify]; exact hlt), Array.getElem_modify_self, hk2]
 simp [List.map_set]
theorem info_bool1 : (Tryz.prog.info? 4).map (fun i => (i.zero, i.size, i.bytes)) = some (some (.bool false), 1, 1) := by kernel_rfl
theorem make_bools (n : Nat) (hn : n ≤ 100000) (W : World) : (Instr.makeSlice 23 (.int .i64 (n : Int)) (.int .i64 (n : Int))).run Tryz.prog W = .ok (.slice (some ⟨W.heap.size, 0, none⟩) n n) (W.alloc (.cells (madeCells #[.bool false] n) 4)) :=
 run_make_row' (P := Tryz.prog) 23 4 (.bool false) 1 Tryz.underlying23 info_bool1 rfl .i64 .i64 n (by omega) (by omega) W
theorem made_bb (n : Nat) (W : World) : BB (W.alloc (.cells (madeCells #[.bool false] n) 4)) W.heap.size (List.replicate n false) := by
 have : madeCells #[.bool false] n = ((List.replicate n false).map Value.bool).toArray := by
  refine Array.ext (by simp [madeCells]) fun i h1 h2 => ?_
  simp [madeCells, Nat.mod_one]
 rw [this]
 exact blk_new _ _
/-- What is known on the way: what is seen is reached, the roots are seen. -/
structure Sd (nd : Nat → List Nat) (R : Nat → Prop) (n : Nat) (bl : List Bool) : Prop where
 len : bl.length = n
 sound : ∀ i, sn bl i → RS nd R i
def Cl (nd : Nat → List Nat) (bl : List Bool) : Prop := ∀ i, sn bl i → ∀ j ∈ nd i, sn bl j
theorem Sd.done {nd R n bl} (h : Sd nd R n bl) (hr : ∀ i, R i → sn bl i) (hc : Cl nd bl) (i : Nat) : sn bl i ↔ RS nd R i := by
 refine ⟨h.sound i, fun k => ?_⟩
 induction k with
 | root k => exact hr _ k
 | step _ hj ih => exact hc _ ih _ hj
theorem Sd.set {nd R n bl k} (h : Sd nd R n bl) (hk : k < n) (hr : RS nd R k) : Sd nd R n (bl.set k true) :=
 ⟨by rw [List.length_set]; exact h.len, fun i hi => ((sn_set (by rw [h.len]; exact hk) i).1 hi).elim (fun e => e ▸ hr) (h.sound i)⟩
theorem Sd.start (nd R n) : Sd nd R n (List.replicate n false) := ⟨List.length_replicate, fun i h => by
 unfold sn at h
 rw [List.getD_eq_getElem?_getD, List.getElem?_replicate] at h
 split at h <;> cases h⟩
/-- One going through all needs: i units are done, k needs of the next. -/
structure Go1 (us : List P.S39) (roots : List Int) (b0 : List Bool) (i k : Nat) (bl : List Bool) (t : Bool) : Prop where
 sd : Sd (nd us) (Rt roots) us.length bl
 up : ∀ j, sn b0 j → sn bl j
 less : t = true → bl.count false < b0.count false
 same : t = false → bl = b0
 done : t = false → (∀ a, a < i → sn bl a → ∀ j ∈ nd us a, sn bl j) ∧ ∀ q, q < k → sn bl i → sn bl ((nd us i).getD q 0)
 cnt : bl.count false ≤ b0.count false
theorem Go1.start {us roots b0} (h : Sd (nd us) (Rt roots) us.length b0) : Go1 us roots b0 0 0 b0 false :=
 ⟨h, fun _ h => h, fun h => (by cases h), fun _ => rfl, fun _ => ⟨fun a h => absurd h (Nat.not_lt_zero _), fun q h => absurd h (Nat.not_lt_zero _)⟩, Nat.le_refl _⟩
theorem Go1.next {us roots b0 i bl t} (h : Go1 us roots b0 i (nd us i).length bl t) : Go1 us roots b0 (i + 1) 0 bl t :=
 ⟨h.sd, h.up, h.less, h.same, fun e => ⟨fun a ha hs j hj => by
  rcases Nat.eq_or_lt_of_le (Nat.le_of_lt_succ ha) with rfl | c
  ·obtain ⟨q, hq, rfl⟩ := List.getElem_of_mem hj
   have := (h.done e).2 q hq hs
   rw [List.getD_eq_getElem?_getD, List.getElem?_eq_getElem hq] at this
   exact this
  ·exact (h.done e).1 a c hs j hj, fun q h => absurd h (Nat.not_lt_zero _)⟩, h.cnt⟩
theorem Go1.old {us roots b0 i k bl t} (h : Go1 us roots b0 i k bl t) (hn : ¬ (sn bl i ∧ ¬ sn bl ((nd us i).getD k 0))) : Go1 us roots b0 i (k + 1) bl t :=
 ⟨h.sd, h.up, h.less, h.same, fun e => ⟨(h.done e).1, fun q hq hs => by
  rcases Nat.eq_or_lt_of_le (Nat.le_of_lt_succ hq) with rfl | c
  ·exact Classical.byContradiction fun x => hn ⟨hs, x⟩
  ·exact (h.done e).2 q c hs⟩, h.cnt⟩
theorem Go1.new {us roots b0 i k bl t} (h : Go1 us roots b0 i k bl t) (hk : k < (nd us i).length) (hz : (nd us i).getD k 0 < us.length) (h1 : sn bl i) (h2 : ¬ sn bl ((nd us i).getD k 0)) : Go1 us roots b0 i (k + 1) (bl.set ((nd us i).getD k 0) true) true := by
 have hm : (nd us i).getD k 0 ∈ nd us i := by rw [List.getD_eq_getElem?_getD, List.getElem?_eq_getElem hk]; exact List.getElem_mem hk
 have hl : (nd us i).getD k 0 < bl.length := by rw [h.sd.len]; exact hz
 have hc := count_set hl h2
 exact ⟨h.sd.set hz (.step (h.sd.sound i h1) hm), fun j hj => (sn_set hl j).2 (.inr (h.up j hj)), fun _ => (by have := h.cnt; omega), fun e => (by cases e), fun e => (by cases e), by have := h.cnt; omega⟩
theorem Go1.closed {us roots b0 bl} (h : Go1 us roots b0 us.length 0 bl false) : Cl (nd us) bl := fun i hi j hj => (h.done rfl).1 i (by have := sn_lt hi; rw [h.sd.len] at this; exact this) hi j hj
theorem nd_get {us : List P.S39} (hu : UOk us) {i j : Nat} (hi : i < us.length) (hj : j < (P.rd_T39 us i).f5.length) : ∃ z : Nat, (P.rd_T80 (P.rd_T39 us i).f5 j).f2 = (z : Int) ∧ z < us.length ∧ (nd us i).getD j 0 = z ∧ j < (nd us i).length := by
 have h := (nd_ok hu).2 i hi
 have hl : j < (ndI us i).length := by simpa [ndI] using hj
 have he : (ndI us i)[j] = (P.rd_T80 (P.rd_T39 us i).f5 j).f2 := by
  have : P.rd_T80 (P.rd_T39 us i).f5 (j : Int) = (P.rd_T39 us i).f5[j] := rd_get _ _ _ hj
  rw [this]
  simp [ndI]
 obtain ⟨h0, h1⟩ := h.2 _ (List.getElem_mem hl)
 rw [he] at h0 h1
 refine ⟨(P.rd_T80 (P.rd_T39 us i).f5 j).f2.toNat, by omega, by omega, ?_, by simpa [nd] using hl⟩
 unfold nd
 rw [List.getD_eq_getElem?_getD, List.getElem?_map, List.getElem?_eq_getElem hl, he]
 rfl
theorem nd_len (us : List P.S39) (i : Nat) : (nd us i).length = (P.rd_T39 us i).f5.length := by simp [nd, ndI]
set_option maxRecDepth 100000 in
set_option maxHeartbeats 16000000 in
theorem rreach_any (w : World) (A A2 : Option Addr) (us : List P.S39) (roots : List Int) (c c2 : Nat) (hu : UA w A us) (hc : us.length ≤ c) (hn : Narrow us) (hul : us.length ≤ 100000) (hr : IA w A2 roots) (hrl : roots.length ≤ 100000) :
 Calls Tryz.prog 31 #[.slice A us.length c, .slice A2 roots.length c2] w (ReachPost us roots w) := by
 have HI := Azz.mk (ris_units us A c w hu hc hn hul)
 have HU := Azz.mk hu
 have HR := Azz.mk hr
 clear hu hr hn hc
 go_enter Tryz.func31, Tryz.ntmps31
 go_wp2_with fail
 (with_reducible refine HI.out.mono ?_)
 rintro en w1 ⟨b, rfl, hbi, hb⟩
 have HB := Azz.mk hb
 have HBi := Azz.mk hbi
 clear hb hbi HI
 cases b with
 | false =>
  go_wp2
  go_ret2
  exact reach_bad (fun h => absurd (HBi.out.2 h.1) (by decide)) HB.out
 | true =>
  have HN := Azz.mk (HBi.out.1 rfl)
  clear HBi
  have hmk := make_bools us.length hul
  have hbb := made_bb us.length w1
  have hB0 : Below w.heap.size w (w1.alloc (.cells (madeCells #[.bool false] us.length) 4)) := HB.out.alloc HB.out.size _
  have hle : w.heap.size ≤ w1.heap.size := HB.out.size
  have HLe := Azz.mk hle
  have HB0 := Azz.mk hB0
  have HBB := Azz.mk hbb
  clear hle hB0 hbb
  go_wp2
  clear hmk
  clear HB
  go_loopw [7] (fun v wr => ∃ (i : Nat) (bl : List Bool), i ≤ roots.length ∧ v = .int .i64 i ∧ Azz (BB wr w1.heap.size bl) ∧ Azz (Sd (nd us) (Rt roots) us.length bl ∧ ∀ j, j < i → 0 ≤ roots.getD j 0 ∧ roots.getD j 0 < us.length ∧ sn bl (roots.getD j 0).toNat) ∧ Azz (Below w.heap.size w wr)) (fun v _ => roots.length - (RowKit.intOf v).toNat)
  case atStart => exact ⟨0, _, Nat.zero_le _, rfl, HBB, ⟨Sd.start _ _ _, fun j h => absurd h (Nat.not_lt_zero _)⟩, HB0⟩
  case round =>
   clear HBB HB0
   obtain ⟨i, bl, hi, rfl, HBB, HS, HB⟩ := hrel
   by_cases hlt : i < roots.length
   ·obtain ⟨ad, e, hx⟩ := root_at wr A2 roots (Kd.C_below HR.out HB.out) i hlt
    cases e
    obtain ⟨z, hz⟩ : ∃ z, roots.getD i 0 = z := ⟨_, rfl⟩
    have hm : z ∈ roots := by rw [← hz, List.getD_eq_getElem?_getD, List.getElem?_eq_getElem hlt]; exact List.getElem_mem hlt
    have HZ := Azz.mk (And.intro hz hm)
    rw [hz] at hx
    clear hz hm
    have i0 : (0 : Int) ≤ (i : Int) := by omega
    have i1 : (i : Int) < roots.length := by omega
    by_cases h1 : z < 0
    ·have b1 : decide (z < 0) = true := decide_eq_true h1
     have H1 := Azz.mk h1
     clear h1
     go_wp2
     go_ret2
     exact reach_bad (fun h => by have := h.2 z HZ.out.2; have := H1.out; omega) HB.out
    ·have b1 : decide (z < 0) = false := decide_eq_false h1
     by_cases h2 : (us.length : Int) ≤ z
     ·have b2 : decide ((us.length : Int) ≤ z) = true := decide_eq_true h2
      have H2 := Azz.mk h2
      clear h1 h2
      go_wp2
      go_ret2
      exact reach_bad (fun h => by have := h.2 z HZ.out.2; have := H2.out; omega) HB.out
     ·have b2 : decide ((us.length : Int) ≤ z) = false := decide_eq_false h2
      obtain ⟨q, rfl⟩ : ∃ q : Nat, z = (q : Int) := ⟨z.toNat, by omega⟩
      have hql : q < us.length := by omega
      have hqb : q < bl.length := by rw [HS.out.1.len]; exact hql
      have cz := HBB.out.cell q hqb
      have fz := HBB.out.frozen q
      have q0 : (0 : Int) ≤ (q : Int) := by omega
      have q1 : (q : Int) < us.length := by omega
      have hB2 : Below w.heap.size w (wr.setCell ⟨w1.heap.size, q, none⟩ (.bool true)) := Below.setCell (p := ⟨w1.heap.size, q, none⟩) HB.out HLe.out _
      have HB2 := Azz.mk hB2
      have HBB2 := Azz.mk (HBB.out.set q true)
      clear h1 h2 hB2
      go_wp2
      go_roundw
      case rel =>
       refine ⟨i + 1, bl.set q true, by omega, by go_num, HBB2, ⟨HS.out.1.set hql (.root (by show (q : Int) ∈ roots; exact HZ.out.2)), fun j hj => ?_⟩, HB2⟩
       rcases Nat.eq_or_lt_of_le (Nat.le_of_lt_succ hj) with rfl | hj
       ·rw [HZ.out.1]
        exact ⟨by omega, by omega, (sn_set hqb _).2 (.inl (by simp))⟩
       ·obtain ⟨a, b, d⟩ := HS.out.2 j hj
        exact ⟨a, b, (sn_set hqb _).2 (.inr d)⟩
      case measure => simp [RowKit.intOf]; omega
   ·obtain rfl : i = roots.length := by omega
    have HRk : Azz (ROk us roots ∧ ∀ j, Rt roots j → sn bl j) := ⟨fun z hz => by
     obtain ⟨j, hj, e⟩ := List.getElem_of_mem hz
     have := HS.out.2 j hj
     rw [List.getD_eq_getElem?_getD, List.getElem?_eq_getElem hj, Option.getD_some, e] at this
     exact ⟨this.1, this.2.1⟩, fun q hq => by
     obtain ⟨j, hj, e⟩ := List.getElem_of_mem hq
     have := (HS.out.2 j hj).2.2
     rw [List.getD_eq_getElem?_getD, List.getElem?_eq_getElem hj, Option.getD_some, e] at this
     simpa using this⟩
    have HS1 := Azz.mk HS.out.1
    clear HS
    go_wp2
    go_loopg [8] (2 * bl.count false + 1) (fun g v wr => ∃ (bl : List Bool) (t : Bool), v = .bool t ∧ Azz (2 * bl.count false + (if t = true then 1 else 0) = g) ∧ Azz (BB wr w1.heap.size bl) ∧ Azz (Sd (nd us) (Rt roots) us.length bl ∧ (∀ j, Rt roots j → sn bl j) ∧ (t = false → Cl (nd us) bl)) ∧ Azz (Below w.heap.size w wr))
    case atStart => exact ⟨bl, true, rfl, ⟨rfl⟩, HBB, ⟨HS1.out, HRk.out.2, fun h => by cases h⟩, HB⟩
    case round =>
     have HRo := Azz.mk HRk.out.1
     clear HBB HS1 HB HRk
     obtain ⟨b0, t, rfl, HG, HBB, HS, HB⟩ := hrel
     cases t with
     | false =>
      have hlen := HS.out.1.len
      go_wp2
      go_ret2
      have hcl : Cl (nd us) b0 := by simpa using HS.out.2.2
      exact ⟨HB.out, .inr ⟨HN.out, HRo.out, w1.heap.size, b0, by rw [hlen]; rfl, hlen, fun i => HS.out.1.done HS.out.2.1 hcl i, HBB.out, HLe.out⟩⟩
     | true =>
      go_wp2
      go_loopw [8, 9] (fun v8 v9 wr => ∃ (i : Nat) (bl : List Bool) (t : Bool), i ≤ us.length ∧ v9 = .int .i64 i ∧ v8 = .bool t ∧ Azz (BB wr w1.heap.size bl) ∧ Azz (Go1 us roots b0 i 0 bl t) ∧ Azz (Below w.heap.size w wr)) (fun _ v _ => us.length - (RowKit.intOf v).toNat)
      case atStart => exact ⟨0, b0, false, Nat.zero_le _, rfl, rfl, HBB, ⟨Go1.start HS.out.1⟩, HB⟩
      case round =>
       clear HBB HB
       obtain ⟨i, bl, t, hi, rfl, rfl, HBB, HGo, HB⟩ := hrel
       by_cases hlt : i < us.length
       ·obtain ⟨ad, A5, c5, ea, y0, y1, y2, y3, y4, y5, l5, g5⟩ := P.at_T39 HU.out i (by omega) (by omega)
        subst ea
        rw [Int.toNat_natCast] at y5
        have hug := fun j hj => nd_get HN.out hlt (j := j) hj
        have hnl := nd_len us i
        obtain ⟨u, hue⟩ : ∃ u, P.rd_T39 us i = u := ⟨_, rfl⟩
        rw [hue] at y5 l5 g5 hug hnl
        have HC5 := Azz.mk g5
        have HY5 := Azz.mk y5
        have HUg := Azz.mk hug
        have HNl := Azz.mk hnl
        have hu64 : u.f5.length ≤ 100000 := by rw [← hue]; exact ((nd_ok HN.out).2 i hlt).1
        have i0 : (0 : Int) ≤ (i : Int) := by omega
        have i1 : (i : Int) < us.length := by omega
        clear y0 y1 y2 y3 y4 y5 g5 hug hnl hue
        go_wp2
        go_loopw [8, 10] (fun v8 v10 wr => ∃ (k : Nat) (bl : List Bool) (t : Bool), k ≤ u.f5.length ∧ v10 = .int .i64 k ∧ v8 = .bool t ∧ Azz (BB wr w1.heap.size bl) ∧ Azz (Go1 us roots b0 i k bl t) ∧ Azz (Below w.heap.size w wr)) (fun _ v _ => u.f5.length - (RowKit.intOf v).toNat)
        case atStart => exact ⟨0, bl, t, Nat.zero_le _, rfl, rfl, HBB, HGo, HB⟩
        case round =>
         clear HBB HB HGo
         obtain ⟨k, bl, t, hk, rfl, rfl, HBB, HGo, HB⟩ := hrel
         have y5 := kp1 HY5.out HB.out
         by_cases hkl : k < u.f5.length
         ·obtain ⟨ad5, ea, x0, x1, x2, x3⟩ := P.at_T80 (Kd.C_below HC5.out HB.out) k (by omega) (by omega)
          subst ea
          rw [Int.toNat_natCast] at x2
          obtain ⟨z, hz, hzl, hzg, hkn⟩ := HUg.out k hkl
          rw [hz] at x2
          have hlen := HGo.out.sd.len
          have ci := HBB.out.cell i (by omega)
          have cz := HBB.out.cell z (by omega)
          have fz := HBB.out.frozen z
          obtain ⟨bi, hbi⟩ : ∃ b, bl.getD i false = b := ⟨_, rfl⟩
          obtain ⟨bz, hbz⟩ : ∃ b, bl.getD z false = b := ⟨_, rfl⟩
          rw [hbi] at ci
          rw [hbz] at cz
          have HE := Azz.mk (And.intro hbi (And.intro hbz (And.intro hzg (And.intro hkn hzl))))
          have k0 : (0 : Int) ≤ (k : Int) := by omega
          have k1 : (k : Int) < u.f5.length := by omega
          have z0 : (0 : Int) ≤ (z : Int) := by omega
          have z1 : (z : Int) < us.length := by omega
          clear hz hzg hbi hbz x0 x1 x3 hkn hlen
          cases bi with
          | false =>
           go_wp2
           go_roundw
           case rel => exact ⟨k + 1, bl, t, by omega, by go_num, rfl, HBB, ⟨HGo.out.old fun h => by have := h.1; unfold sn at this; rw [HE.out.1] at this; cases this⟩, HB⟩
           case measure => simp [RowKit.intOf]; omega
          | true =>
           cases bz with
           | true =>
            go_wp2
            go_roundw
            case rel => exact ⟨k + 1, bl, t, by omega, by go_num, rfl, HBB, ⟨HGo.out.old fun h => h.2 (by unfold sn; rw [HE.out.2.2.1]; exact HE.out.2.1)⟩, HB⟩
            case measure => simp [RowKit.intOf]; omega
           | false =>
            have hB2 : Below w.heap.size w (wr.setCell ⟨w1.heap.size, z, none⟩ (.bool true)) := Below.setCell (p := ⟨w1.heap.size, z, none⟩) HB.out HLe.out _
            have HB2 := Azz.mk hB2
            have HBB2 := Azz.mk (HBB.out.set z true)
            clear hB2
            go_wp2
            go_roundw
            case rel =>
             obtain ⟨e1, e2, e3, e4, e5⟩ := HE.out
             have hnew := HGo.out.new e4 (by rw [e3]; exact e5) e1 (by unfold sn; rw [e3, e2]; decide)
             rw [e3] at hnew
             exact ⟨k + 1, _, true, by omega, by go_num, rfl, HBB2, ⟨hnew⟩, HB2⟩
            case measure => simp [RowKit.intOf]; omega
         ·obtain rfl : k = u.f5.length := by omega
          go_wp2
          go_roundw
          case rel => exact ⟨i + 1, bl, t, by omega, by go_num, rfl, HBB, ⟨Go1.next (by rw [HNl.out]; exact HGo.out)⟩, HB⟩
          case measure => simp [RowKit.intOf]; omega
       ·obtain rfl : i = us.length := by omega
        go_wp2
        go_roundg (2 * bl.count false + (if t = true then 1 else 0))
        case measure =>
         have h1 : 2 * b0.count false + 1 = gk := by simpa using HG.out
         cases t with
         | false => have := HGo.out.same rfl; subst this; rw [if_neg (by decide)]; omega
         | true => have := HGo.out.less rfl; rw [if_pos rfl]; omega
        case rel =>
         refine ⟨bl, t, rfl, ⟨rfl⟩, HBB, ⟨HGo.out.sd, fun j hj => HGo.out.up j (HS.out.2.1 j hj), fun e => ?_⟩, HB⟩
         subst e
         exact HGo.out.closed
end Go.Proofs.YtngmipfodjgmmaaGreatDoor.Pure
end
section
namespace Go.Proofs.YtngmipfodjgmmaaGreatDoor.Pure
open Go Go.RowKit Go.Lib Go.Shelf Go.Proofs.YtngmipfodjgmmaaGreatDoorW.PrintWords Go.Proofs.YtngmipfodjgmmaaGreatDoorW.PrintLast Go.Proofs.YtngmipfodjgmmaaGreatDoorW.PrintMore Go.Proofs.YtngmipfodjgmmaaGreatDoor.Reach
set_option linter.unusedVariables false
set_option linter.unusedSimpArgs false
theorem each_nil (w : World) (f : Value) : Calls Tryz.prog 47 #[.slice none 0 0, f] w fun e w' => (∃ r, e = .returned r) ∧ w = w' := by
 go_enter Tryz.func47, Tryz.ntmps47
 go_wp2
 go_loopw [9] (fun v wr => v = .int .i64 0 ∧ w = wr) (fun _ _ => 0)
 case atStart => exact ⟨rfl, rfl⟩
 case round =>
  obtain ⟨rfl, rfl⟩ := hrel
  go_wp2
  go_end0
  exact ⟨⟨_, rfl⟩, rfl⟩
theorem check_nil (w : World) : Calls Tryz.prog 26 #[.slice none 0 0] w fun e w' => e = .returned (.int .i64 0) ∧ w = w' := by
 go_enter Tryz.func26, Tryz.ntmps26
 go_wp2
 go_loopw [10] (fun v wr => v = .int .i64 0 ∧ w = wr) (fun _ _ => 0)
 case atStart => exact ⟨rfl, rfl⟩
 case round =>
  obtain ⟨rfl, rfl⟩ := hrel
  go_wp2
  go_ret
  exact ⟨rfl, rfl⟩
theorem range_empty (W : World) (b : Nat) (h : W.heap[b]? = some (.map #[] 0)) : (Instr.range 88 (.map (some b))).run Tryz.prog W = .ok (.pointer (some ⟨W.heap.size, 0, none⟩)) (W.alloc (.mapIter (some b) 0 #[] 0)) := by
 simp [Instr.range, run_underlying Tryz.underlying88, Sem.run_bind, getObj, Sem.run, h, Result.andThen]
theorem next_empty (W : World) (r b : Nat) (ty : TypeId) (h : W.heap[b]? = some (.map #[] 0)) (hr : W.heap[r]? = some (.mapIter (some b) 0 #[] 0)) : (Instr.next (.pointer (some ⟨r, 0, none⟩)) false ty).run Tryz.prog W = .ok (.tuple #[.bool false]) W := by
 have hf : (Question.mapNext 1).forced = true := by rfl
 simp [Instr.next, Sem.run_bind, getObj, Sem.run, h, hr, Result.andThen, hf]
def NilMap (w : World) (e : Ending) (w' : World) : Prop := ∃ b, e = .returned (.map (some b)) ∧ w'.heap[b]? = some (.map #[] 0) ∧ Below w.heap.size w w'
set_option maxRecDepth 100000 in
theorem places_nil (w : World) : Calls Tryz.prog 49 #[.slice none 0 0] w (NilMap w) := by
 have hmm := @run_makeMap Tryz.prog
 go_enter Tryz.func49, Tryz.ntmps49
 go_wp2_with fail
 (with_reducible refine (each_nil _ _).mono ?_)
 rintro e V ⟨⟨r, rfl⟩, hw⟩
 have h1 : V.heap[w.heap.size]? = some (.map #[] 0) := by rw [← hw]; exact kAA (kAA (kAA (blk_new w _) _) _) _
 have h2 : V.heap[w.heap.size + 1]? = some (.map #[] 0) := by
  rw [← hw]
  have := blk_new (w.alloc (.map #[] 0)) (.map #[] 0)
  rw [World.size_alloc] at this
  exact kAA (kAA this _) _
 have b1 : Boxed V (w.heap.size + 1 + 1) 88 (.map (some w.heap.size)) := by
  rw [← hw]
  have := Boxed.new ((w.alloc (.map #[] 0)).alloc (.map #[] 0)) 88 (.map (some w.heap.size))
  rw [World.size_alloc, World.size_alloc] at this
  exact this.alloc _
 have c2 : V.cell? ⟨w.heap.size + 1 + 1 + 1, 0, none⟩ = some (.map (some (w.heap.size + 1))) := by
  rw [← hw]
  have := Boxed.new (((w.alloc (.map #[] 0)).alloc (.map #[] 0)).alloc (.cells #[.map (some w.heap.size)] 88)) 88 (.map (some (w.heap.size + 1)))
  rw [World.size_alloc, World.size_alloc, World.size_alloc] at this
  exact this.cell
 have hb : Below w.heap.size w V := by
  rw [← hw]
  exact ((((Below.refl _ w).alloc (Nat.le_refl _) _).alloc (by simp) _).alloc (by simp; omega) _).alloc (by simp; omega) _
 have HB := Azz.mk hb
 have HM := Azz.mk (kAA h1 (.mapIter (some (w.heap.size + 1)) 0 #[] 0))
 have hr := range_empty V _ h2
 have hn := next_empty (V.alloc (.mapIter (some (w.heap.size + 1)) 0 #[] 0)) V.heap.size (w.heap.size + 1)
 have hn2 := fun ty => hn ty (kAA h2 _) (blk_new V _)
 have d1 := (HB.out.alloc HB.out.size (.mapIter (some (w.heap.size + 1)) 0 #[] 0))
 have HD := Azz.mk d1
 have c1 := b1.cell
 have e1 := (b1.alloc (.mapIter (some (w.heap.size + 1)) 0 #[] 0)).cell
 clear hw h1 h2 hb hn hmm d1 b1
 go_wp2
 go_loopw [16] (fun v wr => wr = V.alloc (.mapIter (some (w.heap.size + 1)) 0 #[] 0)) (fun _ _ => 0)
 case atStart => rfl
 case round =>
  subst hrel
  go_wp2
  go_ret
  exact ⟨_, rfl, HM.out, HD.out⟩
theorem zero_place (W : World) : (zeroValue 49).run Tryz.prog W = .ok (.agg #[.int .i64 0, .int .i64 0, .int .i64 0]) W := by kernel_rfl
theorem zero_place2 (W : World) : Sem.run Tryz.prog ((fun a => Value.tuple #[a, Value.bool false]) <$> zeroValue 49) W = .ok (.tuple #[.agg #[.int .i64 0, .int .i64 0, .int .i64 0], .bool false]) W := by kernel_rfl
theorem lookup_empty (W : World) (b : Nat) (s : ByteArray) (hs : s.size ≤ maxLen) (h : W.heap[b]? = some (.map #[] 0)) : (Instr.lookup 88 (.map (some b)) (.string s) true).run Tryz.prog W = .ok (.tuple #[.agg #[.int .i64 0, .int .i64 0, .int .i64 0], .bool false]) W := by
 have hz := zero_place W
 have K := Maps.string_keyed (P := Tryz.prog) Tryz.underlying9
 obtain ⟨l, hl⟩ : ∃ l, keyOf Tryz.prog 9 (.string s) = some l := ⟨.string s.data.toList, by simp [keyOf, Tryz.underlying9, mapKey]; exact hs⟩
 have hc := K.check W true hl
 have hf : (Instr.findKey 9 (.string s) []).run Tryz.prog W = .ok none W := by
  rcases K.find W hl [] (fun e h => by cases h) with h | ⟨j, e, _, h, _⟩
  ·exact h.1
  ·simp at h
 simp [Instr.lookup, run_underlying Tryz.underlying88, Sem.run_bind, getObj, Sem.run, h, Result.andThen] at hc hf hz ⊢
 rw [hc]
 dsimp only
 rw [hf]
 dsimp only
 exact zero_place2 W
theorem cel3 {w : World} {g t : Nat} {v0 v1 v2 : Value} (h : w.heap[g]? = some (.cells #[v0, v1, v2] t (0, 0))) : w.cell? ⟨g, 0, none⟩ = some v0 ∧ w.cell? ⟨g, 1, none⟩ = some v1 ∧ w.cell? ⟨g, 2, none⟩ = some v2 :=
 ⟨(kCC h 0).trans rfl, (kCC h 1).trans rfl, (kCC h 2).trans rfl⟩
theorem frz {w : World} {g t : Nat} {vs : Array Value} (h : w.heap[g]? = some (.cells vs t (0, 0))) (i : Nat) : w.frozen? ⟨g, i, none⟩ = false := by simp [World.frozen?, h]
set_option maxRecDepth 100000 in
theorem find_nil (w : World) : Calls Tryz.prog 22 #[.slice none 0 0, .string ⟨#[97]⟩] w fun e w' => e = .returned (.tuple #[.agg #[.int .i64 0, .int .i64 0, .int .i64 0], .bool false]) ∧ Below w.heap.size w w' := by
 go_enter Tryz.func22, Tryz.ntmps22
 go_wp2_with fail
 (with_reducible refine (check_nil _).mono ?_)
 rintro e V ⟨rfl, hw⟩
 have hb : Boxed V w.heap.size 49 (.int .i64 0) ∨ True := .inr trivial
 have HB : Azz (Below w.heap.size w V) := ⟨by rw [← hw]; exact (Below.refl _ w).alloc (Nat.le_refl _) _⟩
 have HK : Azz (V.heap[w.heap.size]? = some (.cells #[.int .i64 0, .int .i64 0, .int .i64 0] 49 (0, 0))) := ⟨by rw [← hw]; exact blk_new w _⟩
 clear hw hb
 go_wp2_with fail
 (with_reducible refine (places_nil _).mono ?_)
 rintro e V2 ⟨b, rfl, hm, hb⟩
 have HB2 := Azz.mk (bTT HB.out hb)
 have HK2 := kBB HK.out hb
 have hl := lookup_empty V2 b ⟨#[97]⟩ (by decide) hm
 have c0 := fun o => cel3 (kAA HK2 o)
 have c1 := fun o => frz (kAA HK2 o)
 clear HK hm hb HB
 go_wp2
 obtain ⟨x0, x1, x2⟩ := c0 (.cells #[.int .i64 0, .int .i64 0, .int .i64 0] 49)
 refine bodyPost_ret (v := .tuple #[.agg #[.int .i64 0, .int .i64 0, .int .i64 0], .bool false]) (by simp [results, Tryz.results22, go_sem, x0, x1, x2]) rfl ⟨rfl, ?_⟩
 exact (((HB2.out.alloc HB2.out.size _).setCell (p := ⟨w.heap.size, 0, none⟩) (Nat.le_refl _) _).setCell (p := ⟨w.heap.size, 1, none⟩) (Nat.le_refl _) _).setCell (p := ⟨w.heap.size, 2, none⟩) (Nat.le_refl _) _
set_option maxRecDepth 100000 in
theorem entry_nil (w : World) : Calls Tryz.prog 35 #[.slice none 0 0, .string ⟨#[97]⟩] w fun e w' => e = .returned (.tuple #[.int .i64 0, .int .i64 0, .int .i64 8]) ∧ Below w.heap.size w w' := by
 go_enter Tryz.func35, Tryz.ntmps35
 go_wp2_with fail
 (with_reducible refine (find_nil _).mono ?_)
 rintro e V ⟨rfl, hb⟩
 have HB := Azz.mk hb
 clear hb
 go_wp2
 go_quiet (fail)
 go_wp2
 go_ret3
 exact ⟨rfl, bNN (HB.out.alloc HB.out.size _) _⟩
end Go.Proofs.YtngmipfodjgmmaaGreatDoor.Pure
end
section
namespace Go.Proofs.YtngmipfodjgmmaaGreatDoor.Pure
open Go Go.RowKit Go.Lib Go.Shelf Go.Proofs.YtngmipfodjgmmaaGreatDoorW.PrintWords Go.Proofs.YtngmipfodjgmmaaGreatDoorW.PrintLast Go.Proofs.YtngmipfodjgmmaaGreatDoorW.PrintMore Go.Proofs.YtngmipfodjgmmaaGreatDoor.Reach
open P (Glob UA nd ndI NdOk Rt root_at)
set_option linter.unusedVariables false
set_option linter.unusedSimpArgs false
theorem int_one {W : World} {g t : Nat} {z : Int} (h : W.heap[g]? = some (.cells #[.int .i64 z] t (0, 0))) : IA W (some ⟨g, 0, none⟩) [z] :=
 C_blkH (d := Kd.int .i64) (xs := [z]) (inner := ([] : List Value) ++ [.int .i64 z]) h ((Reps.none ((Kd.int .i64).K W) 1).snoc (by simp [Kd.int, Kd.scalar]) rfl) (by simp [maxLen])
def rootsL (us : List P.S39) (en : Int) (i : Nat) : List Int := ((List.range i).filter fun (j : Nat) => decide ((j : Int) = en ∨ (P.rd_T39 us (j : Int)).f2 = true)).map fun (j : Nat) => (j : Int)
theorem rootsL_len (us : List P.S39) (en : Int) (i : Nat) : (rootsL us en i).length ≤ i := by
 unfold rootsL
 rw [List.length_map]
 have := List.length_filter_le (fun (j : Nat) => decide ((j : Int) = en ∨ (P.rd_T39 us (j : Int)).f2 = true)) (List.range i)
 rw [List.length_range] at this
 exact this
theorem rootsL_yes {us : List P.S39} {en : Int} {i : Nat} (h : (i : Int) = en ∨ (P.rd_T39 us (i : Int)).f2 = true) : rootsL us en (i + 1) = rootsL us en i ++ [(i : Int)] := by
 unfold rootsL
 rw [List.range_succ, List.filter_append, List.map_append, List.filter_cons_of_pos (by simpa using h)]
 rfl
theorem rootsL_no {us : List P.S39} {en : Int} {i : Nat} (h : ¬ ((i : Int) = en ∨ (P.rd_T39 us (i : Int)).f2 = true)) : rootsL us en (i + 1) = rootsL us en i := by
 unfold rootsL
 rw [List.range_succ, List.filter_append, List.filter_cons_of_neg (by simpa using h)]
 simp
def RootsR (us : List P.S39) (en : Int) (l : List Int) (er : Int) : Prop := (¬ (UOk us ∧ 0 ≤ en ∧ en < us.length) ∧ l = [] ∧ er = 1) ∨ ((UOk us ∧ 0 ≤ en ∧ en < us.length) ∧ l = rootsL us en us.length ∧ er = 0)
theorem RootsR.one {us en l er l' er'} (h : RootsR us en l er) (k : RootsR us en l' er') : l = l' ∧ er = er' := by
 rcases h with ⟨a, rfl, rfl⟩ | ⟨a, rfl, rfl⟩ <;> rcases k with ⟨b, rfl, rfl⟩ | ⟨b, rfl, rfl⟩
 ·exact ⟨rfl, rfl⟩
 ·exact absurd b a
 ·exact absurd a b
 ·exact ⟨rfl, rfl⟩
theorem RootsR.len {us en l er} (h : RootsR us en l er) (hl : us.length ≤ 300) : l.length ≤ 100000 := by
 rcases h with ⟨_, rfl, _⟩ | ⟨_, rfl, _⟩
 ·simp
 ·have := rootsL_len us en us.length
  omega
def RootsPost (us : List P.S39) (en : Int) (w : World) (e : Ending) (w' : World) : Prop := ∃ A c l er, e = .returned (.tuple #[.slice A l.length c, .int .i64 er]) ∧ l.length ≤ c ∧ RootsR us en l er ∧ IA w' A l ∧ Below w.heap.size w w'
set_option maxRecDepth 100000 in
set_option maxHeartbeats 8000000 in
theorem proots_calls (us : List P.S39) (en : Int) (hl : us.length ≤ 300) (hn : Narrow us) (w : World) (A : Option Addr) (c : Nat) (hG : Glob w) (hu : UA w A us) (hc : us.length ≤ c) :
 Calls Tryz.prog 28 #[.slice A us.length c, .int .i64 en] w (RootsPost us en w) := by
 have HI := Azz.mk (gis_units us A c w hG hu hc hn)
 have HU := Azz.mk hu
 have no : ¬ (UOk us ∧ 0 ≤ en ∧ en < us.length) → ∀ w', Below w.heap.size w w' → RootsPost us en w (.returned (.tuple #[.slice none 0 0, .int .i64 1])) w' := fun h w' hb => ⟨none, 0, [], 1, rfl, Nat.le_refl _, .inl ⟨h, rfl, rfl⟩, (Kd.R_reads' (Kd.R_nil (Kd.int .i64) 3 w' 0 (fun _ => True))).2.2, hb⟩
 have HNo := Azz.mk no
 clear hu hn hc no hG
 go_enter Tryz.func28, Tryz.ntmps28
 by_cases c1 : en < 0
 ·have b1 : decide (en < 0) = true := decide_eq_true c1
  have H1 := Azz.mk c1
  clear c1
  go_wp2
  go_ret2
  exact HNo.out (fun h => by have := H1.out; omega) _ (Below.refl _ _)
 have b1 : decide (en < 0) = false := decide_eq_false c1
 by_cases c2 : (us.length : Int) ≤ en
 ·have b2 : decide ((us.length : Int) ≤ en) = true := decide_eq_true c2
  have H2 := Azz.mk c2
  clear c1 c2
  go_wp2
  go_ret2
  exact HNo.out (fun h => by have := H2.out; omega) _ (Below.refl _ _)
 have b2 : decide ((us.length : Int) ≤ en) = false := decide_eq_false c2
 have H12 := Azz.mk (And.intro c1 c2)
 clear c1 c2
 go_wp2_with fail
 (with_reducible refine HI.out.mono ?_)
 rintro en_ w1 ⟨b, rfl, hbi, hb⟩
 have HB := Azz.mk hb
 have HBi := Azz.mk hbi
 clear hb hbi HI
 cases b with
 | false =>
  go_wp2
  go_ret2
  exact HNo.out (fun h => absurd (HBi.out.2 h.1) (by decide)) _ HB.out
 | true =>
  have HOk := Azz.mk (HBi.out.1 rfl)
  clear HBi
  go_wp2
  go_loopw [6, 24] (fun v6 v wr => ∃ i : Nat, i ≤ us.length ∧ v = .int .i64 i ∧ Azz (Kd.R (Kd.int .i64) 3 wr w1.heap.size (fun _ => True) v6 (rootsL us en i)) ∧ Azz (Below w1.heap.size w1 wr)) (fun _ v _ => us.length - (RowKit.intOf v).toNat)
  case atStart => exact ⟨0, Nat.zero_le _, rfl, ⟨Kd.R_nil _ _ _ _ _⟩, ⟨Below.refl _ _⟩⟩
  case round =>
   obtain ⟨i, hi, rfl, HO, HBr⟩ := hrel
   by_cases hlt : i < us.length
   ·obtain ⟨ad, A5, c5, ea, y0, y1, y2, y3, y4, y5, l5, g5⟩ := P.at_T39 (Kd.C_below HU.out (bTT HB.out HBr.out)) i (by omega) (by omega)
    subst ea
    rw [Int.toNat_natCast] at y0 y1 y2 y3 y4 y5
    obtain ⟨kp, hkp⟩ : ∃ b, (P.rd_T39 us (i : Int)).f2 = b := ⟨_, rfl⟩
    rw [hkp] at y2
    have HKp := Azz.mk hkp
    have HLn := Azz.mk (rootsL_len us en i)
    have i0 : (0 : Int) ≤ (i : Int) := by omega
    have i1 : (i : Int) < us.length := by omega
    clear l5 g5 hkp
    by_cases c3 : (i : Int) = en
    ·have b3 : ((i : Int) == en) = true := beq_iff_eq.mpr c3
     have HYes := Azz.mk (rootsL_yes (us := us) (.inl c3))
     clear c3
     go_wp2_with (at_builtin; refine Kd.R_append_rows (Kd.int .i64) (w0 := w1) w1.heap.size rfl _ _ 26 3 (.int .i64 0) 8 rfl Tryz.underlying26 P.info_int rfl (by decide) (by decide) _ (rootsL us en i) [(i : Int)] (some ⟨wr.heap.size + 1, 0, none⟩) 1 1 (fun _ => True) (fun _ => False) rfl rfl (Kd.R_alloc (Kd.R_alloc HO.out _) _) (int_one (blk_n2 wr _ (.cells #[.int .i64 (i : Int)] 3 (0, 0)))) (fun _ _ h => h) (fun _ h => h.elim) (fun _ _ => trivial) (bAA (bAA HBr.out _) _) (bAA (bAA HBr.out _) _).size (by have := HLn.out; omega) ?_; intro v1 w7 ho1 hb1 _ _; have HO1 := Azz.mk ho1; have HB1 := Azz.mk hb1; clear ho1 hb1)
     go_roundw
     case rel => exact ⟨i + 1, by omega, by go_num, ⟨by rw [HYes.out]; exact HO1.out⟩, HB1⟩
     case measure => simp [RowKit.intOf]; omega
    ·have b3 : ((i : Int) == en) = false := beq_eq_false_iff_ne.mpr c3
     have H3 := Azz.mk c3
     clear c3
     cases kp with
     | true =>
      have HYes := Azz.mk (rootsL_yes (us := us) (en := en) (.inr HKp.out))
      go_wp2_with (at_builtin; refine Kd.R_append_rows (Kd.int .i64) (w0 := w1) w1.heap.size rfl _ _ 26 3 (.int .i64 0) 8 rfl Tryz.underlying26 P.info_int rfl (by decide) (by decide) _ (rootsL us en i) [(i : Int)] (some ⟨wr.heap.size + 1, 0, none⟩) 1 1 (fun _ => True) (fun _ => False) rfl rfl (Kd.R_alloc (Kd.R_alloc HO.out _) _) (int_one (blk_n2 wr _ (.cells #[.int .i64 (i : Int)] 3 (0, 0)))) (fun _ _ h => h) (fun _ h => h.elim) (fun _ _ => trivial) (bAA (bAA HBr.out _) _) (bAA (bAA HBr.out _) _).size (by have := HLn.out; omega) ?_; intro v1 w7 ho1 hb1 _ _; have HO1 := Azz.mk ho1; have HB1 := Azz.mk hb1; clear ho1 hb1)
      go_roundw
      case rel => exact ⟨i + 1, by omega, by go_num, ⟨by rw [HYes.out]; exact HO1.out⟩, HB1⟩
      case measure => simp [RowKit.intOf]; omega
     | false =>
      have HNn := Azz.mk (rootsL_no (us := us) (en := en) (i := i) (fun h => h.elim H3.out (fun k => by rw [HKp.out] at k; cases k)))
      go_wp2
      go_roundw
      case rel => exact ⟨i + 1, by omega, by go_num, ⟨by rw [HNn.out]; exact Kd.R_alloc HO.out _⟩, ⟨bAA HBr.out _⟩⟩
      case measure => simp [RowKit.intOf]; omega
   ·obtain rfl : i = us.length := by omega
    obtain ⟨Aa, ca, rfl, hla, hC⟩ := Kd.R_reads HO.out
    have HC := Azz.mk hC
    clear hC
    go_wp2
    go_ret2
    exact ⟨Aa, ca, _, 0, rfl, hla, .inr ⟨⟨HOk.out, by have := H12.out; omega, by have := H12.out; omega⟩, rfl, rfl⟩, HC.out, bTT HB.out HBr.out⟩
end Go.Proofs.YtngmipfodjgmmaaGreatDoor.Pure
end
section
namespace Go.Proofs.YtngmipfodjgmmaaGreatDoor.P
open Go.RowKit Go.Proofs.YtngmipfodjgmmaaGreatDoorW.PrintWords Go.Proofs.YtngmipfodjgmmaaGreatDoorW.PrintLast Go.Proofs.YtngmipfodjgmmaaGreatDoorW.PrintMore
attribute [local go_sem] max2_int min2_int max_two min_two max_three min_three max_four min_four   -- for this text's walks alone
set_option linter.unusedVariables false
set_option linter.unusedSimpArgs false
theorem eqA49 (d : Nat) (w : World) (x0 y0 : Int) (x1 y1 : Int) (x2 y2 : Int) :
 (Op.equalIn (d + 2) 49 (.agg #[.int .i64 x0, .int .i64 x1, .int .i64 x2]) (.agg #[.int .i64 y0, .int .i64 y1, .int .i64 y2])).run Tryz.prog w = .ok (x0 == y0 && (x1 == y1 && (x2 == y2))) w := by
 refine eqA_of Tryz.underlying49 (by kernel_rfl) ?_
 refine eqf_cons (by rfl) (by go_simp; rfl) (by go_simp; rfl) (by go_simp) ?_
 refine eqf_cons (by rfl) (by go_simp; rfl) (by go_simp; rfl) (by go_simp) ?_
 exact eqf_last (by rfl) (by go_simp; rfl) (by go_simp; rfl) (by go_simp)
end Go.Proofs.YtngmipfodjgmmaaGreatDoor.P
end
section
namespace Go.Proofs.YtngmipfodjgmmaaGreatDoor.P
open Go.RowKit Go.Proofs.YtngmipfodjgmmaaGreatDoorW.PrintWords Go.Proofs.YtngmipfodjgmmaaGreatDoorW.PrintLast Go.Proofs.YtngmipfodjgmmaaGreatDoorW.PrintMore
attribute [local go_sem] max2_int min2_int max_two min_two max_three min_three max_four min_four   -- for this text's walks alone
set_option linter.unusedVariables false
set_option linter.unusedSimpArgs false
attribute [local go_sem high] eqA49
end Go.Proofs.YtngmipfodjgmmaaGreatDoor.P
end
