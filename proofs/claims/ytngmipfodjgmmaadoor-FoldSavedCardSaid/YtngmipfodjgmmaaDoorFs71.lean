/- Walks and plain laws of this claim, a part. -/
import Derived.Test.YtngmipfodjgmmaaDoorFs50
import Derived.Test.YtngmipfodjgmmaaDoorFs69
import Derived.Test.YtngmipfodjgmmaaDoorFs68
section
namespace Go.Proofs.YtngmipfodjgmmaaDoor.Pure
open Go Go.RowKit Go.Proofs.YtngmipfodjgmmaaDoorW.PrintWords Go.Proofs.YtngmipfodjgmmaaDoorW.PrintLast Go.Proofs.YtngmipfodjgmmaaDoorW.PrintMore
open P (UA)
set_option linter.unusedVariables false
set_option linter.unusedSimpArgs false
theorem sec_ev (u : P.S36) (hr : u.f5.length ≤ 4398046510976) : Ev (fun k => P.cleatref21_Sec.f k u.f0 u.f1 u.f2 u.f3 u.f4 u.f5) (u.f0, u.f1, u.f2, u.f3, u.f4, u.f5.map relOf) := by
  have go : ∀ (d i : Nat), i + d = u.f5.length → Ev (fun k => P.cleatref21_Sec.l0 k (i : Int) u.f0 u.f1 u.f2 u.f3 u.f4 u.f5 u.f0 u.f1 u.f2 u.f3 u.f4 ((u.f5.take i).map relOf)) (u.f0, u.f1, u.f2, u.f3, u.f4, u.f5.map relOf) := by
    intro d
    induction d with
    | zero =>
      intro i hi
      rw [List.take_of_length_le (by omega)]
      exact Ev.step (fun k => P.cleatref21_Sec.l0.eq_2 _ _ _ _ _ _ _ _ _ _ _ _ _ _) (Ev.congr (fun k => if_neg (by omega)) (Ev.now _))
    | succ d ih =>
      intro i hi
      have e1 : wrap64 ((i : Int) + 1) = ((i + 1 : Nat) : Int) := by rw [wrap64_small _ (by omega) (by omega)]; rfl
      refine Ev.step (fun k => P.cleatref21_Sec.l0.eq_2 _ _ _ _ _ _ _ _ _ _ _ _ _ _) (Ev.congr (fun k => if_pos (by omega)) (Ev.congr (fun k => if_pos (by omega)) (Ev.congr (fun k => if_pos (by simp; omega)) ?_)))
      rw [e1]
      have := ih (i + 1) (by omega)
      rw [List.take_succ_eq_append_getElem (by omega), List.map_append, List.map_singleton] at this
      have e2 : P.rd_T64 u.f5 (i : Int) = u.f5[i] := rd_get _ _ _ (by omega)
      rw [e2]
      exact this
  exact go u.f5.length 0 (by omega)
/-- No unit's row is more than memory holds. -/
def Held (us : List P.S36) : Prop := us.length ≤ 2000000000000 ∧ ∀ u ∈ us, u.f5.length ≤ 4398046510976
/-- Units that are looked at: few and small; or too many. -/
def Few (us : List P.S36) : Prop := us.length ≤ 300 ∧ (us.length ≤ 256 → us.length ≤ 40 ∧ ∀ u ∈ us, u.f4.size ≤ 5000 ∧ u.f5.length ≤ 80 ∧ u.f0.size ≤ 100)
theorem big_units (us : List P.S36) (hh : Held us) : ∃ b, Ev (fun k => P.cleatref21_Big.f k us) b ∧ (b = false → Few us) := by
  have fin : ∀ (i : Nat), EndsP (fun k => P.cleatref21_Big.j1 k us (i : Int) false) (fun b => b = false → us.length ≤ 40 ∨ (256 < us.length ∧ us.length ≤ 300)) := by
    intro i
    refine EndsP.step (fun k => P.cleatref21_Big.j1.eq_2 _ _ _ _) (EndsP.ite (fun h => absurd h (by decide)) fun _ => EndsP.ite (fun c => EndsP.ite (fun c2 => EndsP.now _ fun h => absurd h (by decide)) fun c2 => EndsP.now _ fun h => ?_) fun c => EndsP.now _ fun h => ?_)
    · have := of_decide_eq_false h
      omega
    · omega
  have go : ∀ (d i : Nat), i + d = us.length → EndsP (fun k => P.cleatref21_Big.l0 k us (i : Int)) (fun b => b = false → us.length ≤ 300 ∧ (us.length ≤ 256 → us.length ≤ 40 ∧ ∀ q, i ≤ q → (h : q < us.length) → us[q].f4.size ≤ 5000 ∧ us[q].f5.length ≤ 80 ∧ us[q].f0.size ≤ 100)) := by
    intro d
    induction d with
    | zero =>
      intro i hi
      refine EndsP.step (fun k => P.cleatref21_Big.l0.eq_2 _ _ _) (EndsP.ite (fun h => absurd h (by omega)) fun _ => ?_)
      obtain ⟨b, hb, h⟩ := fin i
      exact ⟨b, hb, fun e => ⟨by have := h e; omega, fun _ => ⟨by have := h e; omega, fun q a k => by omega⟩⟩⟩
    | succ d ih =>
      intro i hi
      have hil : i < us.length := by omega
      have e1 : wrap64 ((i : Int) + 1) = ((i + 1 : Nat) : Int) := by rw [wrap64_small _ (by have := hh.1; omega) (by have := hh.1; omega)]; rfl
      have e2 : P.rd_T36 us (i : Int) = us[i] := rd_get _ _ _ hil
      refine EndsP.step (fun k => P.cleatref21_Big.l0.eq_2 _ _ _) (EndsP.ite (fun _ => ?_) fun h => absurd (by omega) h)
      by_cases c40 : us.length ≤ 40
      · rw [decide_eq_true (show (us.length : Int) ≤ 40 by omega)]
        refine EndsP.step (fun k => P.cleatref21_Big.j1.eq_2 _ _ _ _) (EndsP.ite (fun _ => EndsP.ite (fun _ => EndsP.ite (fun _ => ?_) fun h => absurd (by omega) h) fun h => absurd (by omega) h) fun h => absurd rfl h)
        rw [e2]
        refine EndsP.bind (q := fun t => t = (us[i].f0, us[i].f1, us[i].f2, us[i].f3, us[i].f4, us[i].f5.map relOf)) ⟨_, sec_ev us[i] (hh.2 _ (List.getElem_mem hil)), rfl⟩ fun t _ ht => ?_
        subst ht
        refine EndsP.bind (q := fun t => t = false → us[i].f4.size ≤ 5000 ∧ us[i].f5.length ≤ 80 ∧ us[i].f0.size ≤ 100) ?_ fun t _ ht => EndsP.ite (fun _ => EndsP.now _ fun h => absurd h (by decide)) fun c => ?_
        · show EndsP (fun _ => P.cleatref16_Big.f us[i].f0 us[i].f1 us[i].f2 us[i].f3 us[i].f4 (us[i].f5.map relOf)) _
          unfold P.cleatref16_Big.f
          refine EndsP.ite (fun _ => EndsP.now _ fun h => absurd h (by decide)) fun c1 => EndsP.ite (fun _ => EndsP.now _ fun h => absurd h (by decide)) fun c2 => EndsP.now _ fun h => ?_
          have := of_decide_eq_false h
          rw [List.length_map] at c2
          omega
        · rw [e1]
          obtain ⟨b, hb, h⟩ := ih (i + 1) (by omega)
          refine ⟨b, hb, fun e => ⟨(h e).1, fun h256 => ⟨((h e).2 h256).1, fun q a k => ?_⟩⟩⟩
          rcases Nat.eq_or_lt_of_le a with rfl | a
          · exact ht (by simpa using c)
          · exact ((h e).2 h256).2 q a k
      · rw [decide_eq_false (show ¬ (us.length : Int) ≤ 40 by omega)]
        obtain ⟨b, hb, h⟩ := fin i
        exact ⟨b, hb, fun e => ⟨by have := h e; omega, fun h2 => by have := h e; omega⟩⟩
  obtain ⟨b, hb, h⟩ := go us.length 0 (by omega)
  refine ⟨b, hb, fun e => ⟨(h e).1, fun h2 => ⟨((h e).2 h2).1, fun u hu => ?_⟩⟩⟩
  obtain ⟨q, hq, rfl⟩ := List.getElem_of_mem hu
  exact ((h e).2 h2).2 q (Nat.zero_le _) hq
theorem Few.narrow {us : List P.S36} (h : Few us) : Narrow us := fun h2 i hi => by
  have := ((h.2 h2).2 _ (List.getElem_mem hi)).2.1
  omega
theorem bigU_calls (us : List P.S36) (hh : Held us) (W : World) (A : Option Addr) (c : Nat) (h : UA W A us) (hc : us.length ≤ c) :
    ∃ b, Calls Tryd.prog 12 #[.slice A us.length c] W (fun x w' => x = .returned (.bool b) ∧ Below W.heap.size W w') ∧ (b = false → Few us) := by
  obtain ⟨b, ⟨K, hK⟩, hb⟩ := big_units us hh
  exact ⟨b, P.cleatref21_Big.calls K A c us b W h hc (hK K (Nat.le_refl _)), hb⟩
end Go.Proofs.YtngmipfodjgmmaaDoor.Pure
end
section
namespace Go.Proofs.YtngmipfodjgmmaaDoor.Pure
open Go Go.RowKit Go.Lib Go.Shelf Go.Proofs.YtngmipfodjgmmaaDoorW.PrintWords Go.Proofs.YtngmipfodjgmmaaDoorW.PrintLast Go.Proofs.YtngmipfodjgmmaaDoorW.PrintMore
open P (Glob UA)
open Folds (gt)
set_option linter.unusedVariables false
set_option linter.unusedSimpArgs false
def leftF (us : List P.S36) (ins : List Bool) : Nat → Nat
  | 0 => 0
  | i + 1 => leftF us ins i + if inn ins i = true ∧ gt (foldP us ins) i = i then (P.rd_T36 us i).f4.size else 0
def allS (us : List P.S36) (ins : List Bool) : Nat → Nat
  | 0 => 0
  | i + 1 => allS us ins i + if inn ins i = true then (P.rd_T36 us i).f4.size else 0
theorem leftF_step (us : List P.S36) (ins : List Bool) (i : Nat) : leftF us ins (i + 1) = leftF us ins i + if inn ins i = true ∧ gt (foldP us ins) i = i then (P.rd_T36 us i).f4.size else 0 := rfl
theorem allS_step (us : List P.S36) (ins : List Bool) (i : Nat) : allS us ins (i + 1) = allS us ins i + if inn ins i = true then (P.rd_T36 us i).f4.size else 0 := rfl
theorem allS_is (us : List P.S36) (ins : List Bool) (i : Nat) : allS us ins i = savedF us ins i + leftF us ins i := by
  induction i with
  | zero => rfl
  | succ i ih =>
    rw [allS_step, leftF_step, savedF_step, ih]
    by_cases c : inn ins i = true
    · by_cases d : gt (foldP us ins) i = i
      · rw [if_pos c, if_neg (fun h => h.2 d), if_pos ⟨c, d⟩]; omega
      · rw [if_pos c, if_pos ⟨c, d⟩, if_neg (fun h => d h.2)]; omega
    · rw [if_neg c, if_neg (fun h => c h.1), if_neg (fun h => c h.1)]; omega
theorem allS_le {us : List P.S36} (ins : List Bool) (h : ∀ i, i < us.length → (P.rd_T36 us i).f4.size ≤ 4096) (i : Nat) (hi : i ≤ us.length) : allS us ins i ≤ i * 4096 := by
  induction i with
  | zero => exact Nat.zero_le _
  | succ i ih =>
    have h1 := ih (by omega)
    have h2 := h i (by omega)
    rw [allS_step, Nat.succ_mul]
    by_cases c : inn ins i = true
    · rw [if_pos c]; exact Nat.add_le_add h1 h2
    · rw [if_neg c]; exact Nat.add_le_add h1 (Nat.zero_le _)
set_option maxRecDepth 100000 in
set_option maxHeartbeats 8000000 in
theorem fsaved_any (w : World) (A A2 : Option Addr) (us : List P.S36) (ins : List Bool) (c c2 : Nat) (hG : Glob w) (hu : UA w A us) (hc : us.length ≤ c) (hh : Held us) (hi : BA w A2 ins) (hil : ins.length ≤ 9000000000000000000) (hc2 : ins.length ≤ c2) :
    Calls Tryd.prog 5 #[.slice A us.length c, .slice A2 ins.length c2] w fun e w' => e = .returned (.bool true) ∧ Below w.heap.size w w' := by
  obtain ⟨b, hb, hfew⟩ := bigU_calls us hh w A c hu hc
  have hul3 := hh.1
  have HBig := Aside0.mk hb
  have HG := Aside0.mk hG
  have HU := Aside0.mk hu
  have HS := Aside0.mk hi
  clear hb hG hu hi
  cases b with
  | true =>
    go_enter Tryd.func5, Tryd.ntmps5
    go_wp2_with (go_at_call 12; (with_reducible refine HBig.out.mono ?_); rintro e w1 ⟨rfl, hb⟩; have HB := Aside0.mk hb; clear hb)
    (with_reducible refine (folded_any _ (HG.out.below HB.out)).mono ?_)
    rintro e w2 ⟨rfl, hb⟩
    replace HB := Aside0.mk (below_step HB.out hb)
    clear hb
    go_wp2
    go_ret
    exact ⟨rfl, HB.out⟩
  | false =>
    have HF := Aside0.mk (hfew rfl)
    clear hfew hh
    have hul := HF.out.1
    by_cases h1 : ins.length = us.length
    · have hne : ((us.length : Int) != us.length) = false := by simp
      rw [h1] at hc2 ⊢
      go_enter Tryd.func5, Tryd.ntmps5
      go_wp2_with (go_at_call 12; (with_reducible refine HBig.out.mono ?_); rintro e w1 ⟨rfl, hb⟩; have HB := Aside0.mk hb; clear hb HBig)
      have HSa := saved_any w1 A A2 us ins c c2 (HG.out.below HB.out) (Kd.C_below HU.out HB.out) hc HF.out.narrow (by omega) (Kd.C_below HS.out HB.out) (by omega) (by omega)
      rw [h1] at HSa
      (with_reducible refine HSa.mono ?_)
      clear HSa
      rintro e w2 ⟨hb, hs⟩
      replace HB := Aside0.mk (below_step HB.out hb)
      clear hb
      rcases hs with ⟨hno, rfl⟩ | ⟨hok, rfl⟩
      · have HNo := Aside0.mk hno
        clear hno
        go_wp2_with fail
        have HFo := fold_any w2 A A2 us ins c c2 (HG.out.below HB.out) (Kd.C_below HU.out HB.out) hc HF.out.narrow (by omega) (Kd.C_below HS.out HB.out) (by omega) (by omega)
        rw [h1] at HFo
        (with_reducible refine HFo.mono ?_)
        clear HFo
        rintro e w3 ⟨hb, ⟨_, rfl⟩ | ⟨h, _⟩⟩
        · replace HB := Aside0.mk (below_step HB.out hb)
          clear hb
          go_wp2_with fail
          (with_reducible refine (folded_any _ (HG.out.below HB.out)).mono ?_)
          rintro e w4 ⟨rfl, hb⟩
          replace HB := Aside0.mk (below_step HB.out hb)
          clear hb
          go_wp2
          go_ret
          exact ⟨rfl, HB.out⟩
        · exact absurd h HNo.out
      · have HOk := Aside0.mk hok
        clear hok
        go_wp2_with fail
        have HFo := fold_any w2 A A2 us ins c c2 (HG.out.below HB.out) (Kd.C_below HU.out HB.out) hc HF.out.narrow (by omega) (Kd.C_below HS.out HB.out) (by omega) (by omega)
        rw [h1] at HFo
        (with_reducible refine HFo.mono ?_)
        clear HFo
        rintro e w3 ⟨hb, ⟨h, _⟩ | ⟨_, pb, rfl, hL, _⟩⟩
        · exact absurd HOk.out h
        · replace HB := Aside0.mk (below_step HB.out hb)
          have HL := Aside0.mk hL
          have HD := Aside0.mk (data_4096 HOk.out.2)
          clear hb hL HF
          go_wp2
          go_loopw [9, 10, 11] (fun v9 v10 v wr => ∃ i : Nat, i ≤ us.length ∧ v = .int .i64 i ∧ v9 = .int .i64 (allS us ins i) ∧ v10 = .int .i64 (leftF us ins i) ∧ w3 = wr) (fun _ _ v _ => us.length - (RowKit.intOf v).toNat)
          case atStart => exact ⟨0, Nat.zero_le _, rfl, rfl, rfl, rfl⟩
          case round =>
            obtain ⟨i, hi, rfl, rfl, rfl, rfl⟩ := hrel
            have hal := allS_le ins HD.out i hi
            have hlf : leftF us ins i ≤ allS us ins i := by rw [allS_is]; omega
            by_cases hlt : i < us.length
            · obtain ⟨ad2, e2, hin⟩ := bool_at _ A2 ins (Kd.C_below HS.out HB.out) i (by omega)
              subst e2
              obtain ⟨ad3, A5, c5, e3, x0, x1, x2, x3, x4, x5, l5, C5⟩ := P.at_T36 (Kd.C_below HU.out HB.out) i (by omega) (by omega)
              subst e3
              rw [Int.toNat_natCast] at x4
              clear x0 x1 x2 x3 x5 l5 C5
              have cz := HL.out.cell i (by rw [foldL_length]; exact hlt)
              rw [foldL_get us ins i hlt] at cz
              have hdi := HD.out i hlt
              have HAs := Aside0.mk (allS_step us ins i)
              have HLs := Aside0.mk (leftF_step us ins i)
              obtain ⟨n, hn⟩ : ∃ n, allS us ins i = n := ⟨_, rfl⟩
              obtain ⟨m, hm⟩ : ∃ m, leftF us ins i = m := ⟨_, rfl⟩
              obtain ⟨d, hd⟩ : ∃ d, (P.rd_T36 us i).f4 = d := ⟨_, rfl⟩
              obtain ⟨q, hq⟩ : ∃ q, gt (foldP us ins) i = q := ⟨_, rfl⟩
              rw [hd] at x4 hdi HAs HLs
              rw [hq] at cz HLs
              rw [hn] at hal hlf HAs ⊢
              rw [hm] at hlf HLs ⊢
              obtain ⟨bi, hbi⟩ : ∃ b, ins.getD i false = b := ⟨_, rfl⟩
              have hbi2 : inn ins i = bi := hbi
              rw [hbi] at hin
              rw [hbi2] at cz HAs HLs
              clear hbi hbi2 hn hm hd hq
              cases bi with
              | false =>
                rw [if_neg (by decide)] at cz
                have hqq : ((-1 : Int) == (i : Int)) = false := beq_eq_false_iff_ne.mpr (by omega)
                go_wp2
                go_roundw
                case rel => exact ⟨i + 1, by omega, by go_num, by rw [HAs.out, if_neg (by simp)]; rfl, by rw [HLs.out, if_neg (by simp)]; rfl, trivial⟩
                case measure => simp [RowKit.intOf]; omega
              | true =>
                rw [if_pos rfl] at cz
                by_cases hqi : q = i
                · subst hqi
                  have hqq : ((q : Int) == (q : Int)) = true := by simp
                  go_wp2
                  go_roundw
                  case rel => exact ⟨q + 1, by omega, by go_num, by rw [HAs.out, if_pos rfl]; go_num, by rw [HLs.out, if_pos ⟨rfl, rfl⟩]; go_num, trivial⟩
                  case measure => simp [RowKit.intOf]; omega
                · have hqq : ((q : Int) == (i : Int)) = false := beq_eq_false_iff_ne.mpr (by omega)
                  go_wp2
                  go_roundw
                  case rel => exact ⟨i + 1, by omega, by go_num, by rw [HAs.out, if_pos rfl]; go_num, by rw [HLs.out, if_neg (fun h => hqi h.2)]; rfl, trivial⟩
                  case measure => simp [RowKit.intOf]; omega
            · obtain rfl : i = us.length := by omega
              have HE := Aside0.mk (allS_is us ins us.length)
              obtain ⟨n, hn⟩ : ∃ n, allS us ins us.length = n := ⟨_, rfl⟩
              obtain ⟨m, hm⟩ : ∃ m, leftF us ins us.length = m := ⟨_, rfl⟩
              obtain ⟨s, hs⟩ : ∃ s, savedF us ins us.length = s := ⟨_, rfl⟩
              rw [hn, hm, hs] at HE
              rw [hn] at hal hlf ⊢
              rw [hm] at hlf ⊢
              rw [hs]
              have he := HE.out
              have hsub : (n : Int) - (m : Int) = (s : Int) := by omega
              have hge : ((s : Int) == (s : Int)) = true := by simp
              have hwr : wrap64 ((n : Int) - (m : Int)) = (s : Int) := by rw [hsub]; exact wrap64_small _ (by omega) (by omega)
              clear hn hm hs HL HE
              go_wp2_with fail
              (with_reducible refine (folded_any _ (HG.out.below HB.out)).mono ?_)
              rintro e w4 ⟨rfl, hb⟩
              replace HB := Aside0.mk (below_step HB.out hb)
              clear hb
              go_wp2
              go_ret
              exact ⟨rfl, HB.out⟩
    · have hne : ((ins.length : Int) != us.length) = true := bne_iff_ne.mpr (by omega)
      go_enter Tryd.func5, Tryd.ntmps5
      go_wp2_with (go_at_call 12; (with_reducible refine HBig.out.mono ?_); rintro e w1 ⟨rfl, hb⟩; have HB := Aside0.mk hb; clear hb)
      (with_reducible refine (folded_any _ (HG.out.below HB.out)).mono ?_)
      rintro e w2 ⟨rfl, hb⟩
      replace HB := Aside0.mk (below_step HB.out hb)
      clear hb
      go_wp2
      go_ret
      exact ⟨rfl, HB.out⟩
end Go.Proofs.YtngmipfodjgmmaaDoor.Pure
end
