/- Walks and plain laws of this claim, a part. -/
import Derived.Test.YtngmipfodjgmmaaDoorFr61
import Derived.WalkMore
import Derived.Deep.LoopGhost
namespace Go.Proofs.YtngmipfodjgmmaaDoor.Pure
open Go Go.RowKit Go.Lib Go.Shelf Go.Proofs.YtngmipfodjgmmaaDoorW.PrintWords Go.Proofs.YtngmipfodjgmmaaDoorW.PrintLast Go.Proofs.YtngmipfodjgmmaaDoorW.PrintMore
open P (Glob UA)
open Folds (gt beginF bg begin_get bg_cases beginF_length Part refineF foldN sig nx)
set_option linter.unusedVariables false
set_option linter.unusedSimpArgs false
theorem keepc {w w1 : World} {p : Addr} {v : Value} (h : w.cell? p = some v) (hb : Below w.heap.size w w1) : w1.cell? p = some v := (hb.cell (World.block_lt_of_cell? _ _ h)).trans h
theorem keep14 {w w1 : World} {p0 p1 p2 p3 p4 p5 p6 p7 p8 p9 p10 p11 p12 p13 : Addr} {v0 v1 v2 v3 v4 v5 v6 v7 v8 v9 v10 v11 v12 v13 : Value} (h : w.cell? p0 = some v0 ∧ w.cell? p1 = some v1 ∧ w.cell? p2 = some v2 ∧ w.cell? p3 = some v3 ∧ w.cell? p4 = some v4 ∧ w.cell? p5 = some v5 ∧ w.cell? p6 = some v6 ∧ w.cell? p7 = some v7 ∧ w.cell? p8 = some v8 ∧ w.cell? p9 = some v9 ∧ w.cell? p10 = some v10 ∧ w.cell? p11 = some v11 ∧ w.cell? p12 = some v12 ∧ w.cell? p13 = some v13) (hb : Below w.heap.size w w1) : w1.cell? p0 = some v0 ∧ w1.cell? p1 = some v1 ∧ w1.cell? p2 = some v2 ∧ w1.cell? p3 = some v3 ∧ w1.cell? p4 = some v4 ∧ w1.cell? p5 = some v5 ∧ w1.cell? p6 = some v6 ∧ w1.cell? p7 = some v7 ∧ w1.cell? p8 = some v8 ∧ w1.cell? p9 = some v9 ∧ w1.cell? p10 = some v10 ∧ w1.cell? p11 = some v11 ∧ w1.cell? p12 = some v12 ∧ w1.cell? p13 = some v13 := by
 obtain ⟨a0, a1, a2, a3, a4, a5, a6, a7, a8, a9, a10, a11, a12, a13⟩ := h
 exact ⟨keepc a0 hb, keepc a1 hb, keepc a2 hb, keepc a3 hb, keepc a4 hb, keepc a5 hb, keepc a6 hb, keepc a7 hb, keepc a8 hb, keepc a9 hb, keepc a10 hb, keepc a11 hb, keepc a12 hb, keepc a13 hb⟩
set_option maxRecDepth 100000 in
set_option maxHeartbeats 8000000 in
theorem begin_any (w : World) (A A2 : Option Addr) (us : List P.S36) (ins : List Bool) (c c2 : Nat) (hu : UA w A us) (hc : us.length ≤ c) (hul : us.length ≤ 100000) (hn : ∀ i, i < us.length → (P.rd_T36 us i).f5.length ≤ 100000) (hi : BA w A2 ins) (hil : ins.length = us.length) (hc2 : us.length ≤ c2) :
 Calls Tryd.prog 31 #[.slice A us.length c, .slice A2 us.length c2] w fun e w' => e = .returned (.slice (some ⟨w.heap.size, 0, none⟩) us.length us.length) ∧ IB w' w.heap.size ((beginF (inn ins) (al us) us.length).map Int.ofNat) ∧ Below w.heap.size w w' := by
 have hmk := make_ints us.length hul
 have HU := Azz.mk hu
 have HI := Azz.mk hi
 have HN := Azz.mk hn
 clear hu hi hn
 go_enter Tryd.func31, Tryd.ntmps31
 go_wp2
 go_step3
 go_wp2
 go_step3
 go_wp2
 clear hmk
 go_loopg [13] us.length (fun g v wr => ∃ i : Nat, i + g = us.length ∧ v = .int .i64 i ∧ Azz (IB wr w.heap.size (sofar (beginF (inn ins) (al us) i) us.length)) ∧ Azz (Below w.heap.size w wr))
 case atStart => exact ⟨0, by omega, rfl, ⟨made_ib _ _⟩, ⟨(Below.refl _ _).alloc (Nat.le_refl _) _⟩⟩
 case round =>
  obtain ⟨i, hi, rfl, HP, HB⟩ := hrel
  cases gk with
  | succ g =>
   have hpl : (beginF (inn ins) (al us) i).length = i := beginF_length i
   have HPL := Azz.mk hpl
   have hsl := sofar_length (beginF (inn ins) (al us) i) us.length (by omega)
   obtain ⟨p, hp⟩ : ∃ p, beginF (inn ins) (al us) i = p := ⟨_, rfl⟩
   have HPe := Azz.mk hp
   rw [hp] at HP hpl hsl
   clear hp HPL
   have hlt : (i : Int) < us.length := by omega
   have h0 : (0 : Int) ≤ (i : Int) := by omega
   have fz := HP.out.frozen i
   have cz := HP.out.cell i (by omega)
   have hB2 : Below w.heap.size w (wr.setCell ⟨w.heap.size, i, none⟩ (.int .i64 (i : Int))) := Below.setCell (p := ⟨w.heap.size, i, none⟩) HB.out (Nat.le_refl _) _
   have hP2 : IB (wr.setCell ⟨w.heap.size, i, none⟩ (.int .i64 (i : Int))) w.heap.size (sofar (p ++ [i]) us.length) := by
    rw [← sofar_set p us.length i (by omega), hpl]
    exact HP.out.set i (i : Int)
   obtain ⟨ad2, e2, hin⟩ := bool_at _ A2 ins (Kd.C_below HI.out hB2) i (by omega)
   subst e2
   obtain ⟨bi, hbi⟩ : ∃ b, ins.getD i false = b := ⟨_, rfl⟩
   rw [hbi] at hin
   have HBi := Azz.mk hbi
   have HB2 := Azz.mk hB2
   have HP2 := Azz.mk hP2
   clear hbi hB2 hP2
   cases bi with
   | false =>
    go_wp2
    go_roundg g
    case measure => omega
    case rel => exact ⟨i + 1, by omega, by go_num, ⟨by rw [← begin_out HBi.out, HPe.out]; exact HP2.out⟩, HB2⟩
   | true =>
    go_wp2
    have HFz := Azz.mk fz
    have HCz := Azz.mk cz
    clear fz cz hin
    go_loopg [26] i (fun g2 v wx => ∃ j : Nat, j + g2 = i ∧ v = .int .i64 j ∧ Azz (noneF us ins i j) ∧ Azz (IB wx w.heap.size (sofar (p ++ [i]) us.length)) ∧ Azz (Below w.heap.size w wx))
    case atStart => exact ⟨0, by omega, rfl, ⟨fun k hk => absurd hk (Nat.not_lt_zero _)⟩, HP2, HB2⟩
    case round =>
     clear HP2 HB2 HP HB HFz HCz
     obtain ⟨j, hjg, rfl, HNo, HPx, HBx⟩ := hrel
     cases gk with
     | zero =>
      obtain rfl : j = i := by omega
      go_wp2
      go_roundg g
      case measure => omega
      case rel => exact ⟨j + 1, by omega, by go_num, ⟨by rw [← begin_none HBi.out HNo.out, HPe.out]; exact HPx.out⟩, HBx⟩
     | succ g2 =>
      have hjl : (j : Int) < (i : Int) := by omega
      have hj0 : (0 : Int) ≤ (j : Int) := by omega
      have hju : (j : Int) < us.length := by omega
      obtain ⟨ad, e2, hjn⟩ := bool_at _ (some ad2) ins (Kd.C_below HI.out HBx.out) j (by omega)
      cases e2
      have hpj := HPx.out.cell j (by rw [sofar_length _ _ (by simp; omega)]; omega)
      rw [sofar_get _ _ _ (by simp; omega), show gt (p ++ [i]) j = gt p j by unfold gt; rw [List.getD_eq_getElem?_getD, List.getElem?_append_left (by omega), List.getD_eq_getElem?_getD]] at hpj
      obtain ⟨bj, hbj⟩ : ∃ b, ins.getD j false = b := ⟨_, rfl⟩
      rw [hbj] at hjn
      have HBj := Azz.mk hbj
      obtain ⟨pj, hpe⟩ : ∃ q, gt p j = q := ⟨_, rfl⟩
      rw [hpe] at hpj
      have HPj := Azz.mk hpe
      clear hbj hpe
      have no : (inn ins j && gt (beginF (inn ins) (al us) i) j == j && al us i j) = false → noneF us ins i (j + 1) := fun h k hk => by
       rcases Nat.lt_or_ge k j with c | c
       ·exact HNo.out k c
       ·obtain rfl : k = j := by omega
        exact h
      have HNo2 := Azz.mk no
      clear no
      cases bj with
      | false =>
       go_wp2
       go_quiet (fail)
       go_wp2
       go_roundg g2
       case measure => omega
       case rel => exact ⟨j + 1, by omega, by go_num, ⟨HNo2.out (by unfold inn; rw [HBj.out]; rfl)⟩, ⟨HPx.out.below (bNN (Below.refl _ _) _)⟩, ⟨bNN HBx.out _⟩⟩
      | true =>
       by_cases hq : pj = j
       ·subst hq
        have hqq : ((pj : Int) == (pj : Int)) = true := by simp
        have hUx := Kd.C_below HU.out HBx.out
        obtain ⟨ad3, A5, c5, e3, x0, x1, x2, x3, x4, x5, l5, C5⟩ := P.at_T36 hUx i (by omega) (by omega)
        subst e3
        obtain ⟨ad4, B5, d5, e4, y0, y1, y2, y3, y4, y5, m5, D5⟩ := P.at_T36 hUx pj (by omega) (by omega)
        cases e4
        clear hUx
        rw [Int.toNat_natCast] at x0 x1 x2 x3 x4 x5 y0 y1 y2 y3 y4 y5
        have hli := HN.out i (by omega)
        have HAl : Azz (al us i pj = alikeU (P.rd_T36 us i) (P.rd_T36 us pj)) := ⟨rfl⟩
        obtain ⟨x, hx⟩ : ∃ x, P.rd_T36 us i = x := ⟨_, rfl⟩
        obtain ⟨y, hy⟩ : ∃ y, P.rd_T36 us pj = y := ⟨_, rfl⟩
        rw [hx, hy] at HAl
        rw [hx] at x0 x1 x2 x3 x4 x5 l5 C5 hli
        rw [hy] at y0 y1 y2 y3 y4 y5 m5 D5
        clear hx hy
        have HA : Azz (∀ W, Below wr.heap.size wr W → Calls Tryd.prog 36 #[.agg #[.string x.f0, .int .i64 x.f1, .bool x.f2, .int .i64 x.f3, .string x.f4, .slice A5 x.f5.length c5], .agg #[.string y.f0, .int .i64 y.f1, .bool y.f2, .int .i64 y.f3, .string y.f4, .slice B5 y.f5.length d5]] W fun e w' => e = .returned (.bool (alikeU x y)) ∧ Below W.heap.size W w') :=
         ⟨fun W hW => alike_calls W x y A5 B5 c5 d5 (Kd.C_below C5 hW) l5 (Kd.C_below D5 hW) m5 hli⟩
        clear C5 D5 l5 m5 hli
        obtain ⟨b, hb⟩ : ∃ b, alikeU x y = b := ⟨_, rfl⟩
        rw [hb] at HA HAl
        clear hb
        have HB0 := Azz.mk (Below.refl wr.heap.size wr)
        go_wp2
        go_region_held3 (fun w' => w'.cell? (ad2.add pj) = some (.bool true) ∧ w'.cell? ⟨w.heap.size, pj, none⟩ = some (.int .i64 (pj : Int)) ∧ w'.cell? (ad3.add (i * 6)) = some (.string x.f0) ∧ w'.cell? ⟨(ad3.add (i * 6)).block, (ad3.add (i * 6)).off + 1, none⟩ = some (.int .i64 x.f1) ∧ w'.cell? ⟨(ad3.add (i * 6)).block, (ad3.add (i * 6)).off + 2, none⟩ = some (.bool x.f2) ∧ w'.cell? ⟨(ad3.add (i * 6)).block, (ad3.add (i * 6)).off + 3, none⟩ = some (.int .i64 x.f3) ∧ w'.cell? ⟨(ad3.add (i * 6)).block, (ad3.add (i * 6)).off + 4, none⟩ = some (.string x.f4) ∧ w'.cell? ⟨(ad3.add (i * 6)).block, (ad3.add (i * 6)).off + 5, none⟩ = some (.slice A5 x.f5.length c5) ∧ w'.cell? (ad3.add (pj * 6)) = some (.string y.f0) ∧ w'.cell? ⟨(ad3.add (pj * 6)).block, (ad3.add (pj * 6)).off + 1, none⟩ = some (.int .i64 y.f1) ∧ w'.cell? ⟨(ad3.add (pj * 6)).block, (ad3.add (pj * 6)).off + 2, none⟩ = some (.bool y.f2) ∧ w'.cell? ⟨(ad3.add (pj * 6)).block, (ad3.add (pj * 6)).off + 3, none⟩ = some (.int .i64 y.f3) ∧ w'.cell? ⟨(ad3.add (pj * 6)).block, (ad3.add (pj * 6)).off + 4, none⟩ = some (.string y.f4) ∧ w'.cell? ⟨(ad3.add (pj * 6)).block, (ad3.add (pj * 6)).off + 5, none⟩ = some (.slice B5 y.f5.length d5)) (first | go_keep | exact keep14 (by assumption) hb) (first | (go_at_call 36; (with_reducible refine (HA.out _ ?gb).mono ?_); (case gb => repeat (first | exact Below.refl _ _ | apply bDD | apply bNN | (refine bTT ?_ (by assumption)))); rintro e w2 ⟨rfl, hb⟩))
        have HW := Azz.mk (show Below wr.heap.size wr w2 by repeat (first | exact Below.refl _ _ | apply bDD | apply bNN | (refine bTT ?_ (by assumption))))
        clear hb
        have HBw := Azz.mk (bTT HBx.out HW.out)
        have HPw := Azz.mk (HPx.out.below HW.out)
        clear HA HBx HPx HB0 x0 x1 x2 x3 x4 x5 y0 y1 y2 y3 y4 y5 hjn hpj
        cases b with
        | false =>
         go_wp2
         go_roundg g2
         case measure => omega
         case rel => exact ⟨pj + 1, by omega, by go_num, ⟨HNo2.out (by rw [HAl.out]; simp)⟩, HPw, HBw⟩
        | true =>
         have fz := HPw.out.frozen i
         have cz := HPw.out.cell i (by rw [sofar_length _ _ (by simp; omega)]; omega)
         go_wp2
         go_roundg g
         case measure => omega
         case rel => exact ⟨i + 1, by omega, by go_num, ⟨by
          rw [← begin_found HBi.out HNo.out (j := pj) (by omega) (by rw [show inn ins pj = true from HBj.out, HPe.out, HPj.out, HAl.out]; simp), HPe.out, ← sofar_again p us.length i pj, hpl]
          exact HPw.out.set i (pj : Int)⟩, ⟨Below.setCell (p := ⟨w.heap.size, i, none⟩) HBw.out (Nat.le_refl _) _⟩⟩
       ·have hqq : ((pj : Int) == (j : Int)) = false := beq_eq_false_iff_ne.mpr (by omega)
        go_wp2
        go_quiet (fail)
        go_wp2
        go_roundg g2
        case measure => omega
        case rel => exact ⟨j + 1, by omega, by go_num, ⟨HNo2.out (by rw [HPe.out, HPj.out, show (pj == j) = false from beq_eq_false_iff_ne.mpr hq]; simp)⟩, ⟨HPx.out.below (bNN (Below.refl _ _) _)⟩, ⟨bNN HBx.out _⟩⟩
  | zero =>
   obtain rfl : i = us.length := by omega
   go_wp2
   try rw [Exit.noGoto_ret]
   go_ret
   exact ⟨rfl, by have := HP.out; unfold sofar at this; rw [beginF_length, Nat.sub_self] at this; simpa using this, HB.out⟩
end Go.Proofs.YtngmipfodjgmmaaDoor.Pure
