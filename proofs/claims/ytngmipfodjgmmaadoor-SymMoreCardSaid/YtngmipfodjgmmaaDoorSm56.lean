/- 'sym.each' walked: a function is handed each symbol. -/
import Derived.Test.YtngmipfodjgmmaaDoorSm55
namespace Go.Proofs.YtngmipfodjgmmaaDoor.Pure
open Go Go.RowKit Go.Lib Go.Shelf Go.Maps Go.Proofs.YtngmipfodjgmmaaDoorW.PrintWords Go.Proofs.YtngmipfodjgmmaaDoorW.PrintLast Go.Proofs.YtngmipfodjgmmaaDoorW.PrintMore
open P (Glob)
set_option linter.unusedVariables false
set_option linter.unusedSimpArgs false
def syV (s : Sy) : Value := .agg #[.string s.f0, .int .i64 s.f1, .int .i64 s.f2, .int .i64 s.f3]
set_option maxRecDepth 100000 in
set_option maxHeartbeats 2000000 in
theorem each_any (w w0 : World) (A : Option Addr) (c : Nat) (os : List Ob) (F : Nat) (bs : Array Value) (I Stop : Nat → Nat → World → Prop)
    (hF : Enters Tryd.prog F) (hos : OA w0 A os) (hc : os.length ≤ c) (hol : os.length ≤ 100000) (hsl : ∀ i, i < os.length → nsy os i ≤ 100000)
    (hI : ∀ o k W, I o k W → Below w0.heap.size w0 W) (h0 : I 0 0 w) (hn : ∀ o W, o < os.length → I o (nsy os o) W → I (o + 1) 0 W) (ha : ∀ o k W x, I o k W → I o k (W.alloc x))
    (hs : ∀ o k W, o < os.length → k < nsy os o → I o k W → Calls Tryd.prog F (#[.int .i64 o, .int .i64 k, syV (syN os o k)] ++ bs) W fun e w' => (e = .returned (.bool true) ∧ I o (k + 1) w') ∨ (e = .returned (.bool false) ∧ Stop o k w')) :
    Calls Tryd.prog 40 #[.slice A os.length c, .func (.func F) #[] bs] w fun e w' => (∃ r, e = .returned r) ∧ (I os.length 0 w' ∨ ∃ o k, o < os.length ∧ k < nsy os o ∧ Stop o k w') := by
  have hen : ∀ (args : Array Value) (W : World), (callFunc F args).run Tryd.prog W = .ok (.enter F args) W := hF
  have HO := Aside0.mk hos
  have HI := Aside0.mk hI
  have H0 := Aside0.mk h0
  have HN := Aside0.mk hn
  have HA := Aside0.mk ha
  have HS := Aside0.mk hs
  have HL := Aside0.mk hsl
  clear hF hos hI h0 hn ha hs hsl
  go_enter Tryd.func40, Tryd.ntmps40
  go_wp2
  go_loopw [9] (fun v wr => ∃ o : Nat, o ≤ os.length ∧ v = .int .i64 o ∧ Aside0 (I o 0 wr)) (fun v _ => os.length - (RowKit.intOf v).toNat)
  case atStart => exact ⟨0, Nat.zero_le _, rfl, H0⟩
  case round =>
    clear H0
    obtain ⟨o, ho, rfl, HW⟩ := hrel
    by_cases hlt : o < os.length
    · obtain ⟨ad, A0, c0, A1, c1, e0, x0, x1, l0, C0, l1, C1⟩ := P.at_T48 HO.out o (by omega) (by omega)
      subst e0
      rw [Int.toNat_natCast] at x0 x1
      have HSy : Aside0 (SyA w0 A1 (obN os o).f1) := ⟨C1⟩
      have hnl : (P.rd_T48 os o).f1.length = nsy os o := rfl
      rw [hnl] at x1 l1
      have ho0 : (0 : Int) ≤ (o : Int) := by omega
      have ho1 : (o : Int) < os.length := by omega
      have hml := HL.out o hlt
      replace x1 := keepS x1 (HI.out _ _ _ HW.out)
      clear C0 C1 l0 x0
      go_wp2
      go_loopw [18] (fun v wx => ∃ k : Nat, k ≤ nsy os o ∧ v = .int .i64 k ∧ Aside0 (I o k wx)) (fun v _ => nsy os o - (RowKit.intOf v).toNat)
      case atStart => exact ⟨0, Nat.zero_le _, rfl, HW⟩
      case round =>
        clear HW x1
        obtain ⟨k, hk, rfl, HW⟩ := hrel
        by_cases hkl : k < nsy os o
        · obtain ⟨ad1, e1, y0, y1, y2, y3⟩ := P.at_T50 (Kd.C_below HSy.out (HI.out _ _ _ HW.out)) k (by omega) (by show (k : Int) < (nsy os o : Int); omega)
          subst e1
          rw [Int.toNat_natCast] at y0 y1 y2 y3
          have HC := Aside0.mk (fun W h => HS.out o k W hlt hkl h)
          unfold syV syN obN at HC
          obtain ⟨s, hs⟩ : ∃ s, P.rd_T50 (P.rd_T48 os o).f1 k = s := ⟨_, rfl⟩
          have HSe := Aside0.mk hs
          unfold obN at y0 y1 y2 y3
          rw [hs] at y0 y1 y2 y3 HC
          clear hs
          go_wp2_with fail
          (with_reducible refine (HC.out _ (HA.out _ _ _ _ HW.out)).mono ?_)
          rintro e w2 (⟨rfl, hw⟩ | ⟨rfl, hw⟩)
          · have HW2 := Aside0.mk hw
            clear hw HC HW y0 y1 y2 y3
            go_wp2
            go_roundw
            case rel => exact ⟨k + 1, by omega, by go_num, HW2⟩
            case measure => simp [RowKit.intOf]; omega
          · have HW2 := Aside0.mk hw
            clear hw HC HW y0 y1 y2 y3
            go_wp2
            (try simp only [Exit.inBlock, Exit.then])
            refine bodyPost_ret (results_none rfl _ _ _) rfl ?_
            exact ⟨⟨_, rfl⟩, .inr ⟨o, k, hlt, hkl, HW2.out⟩⟩
        · obtain rfl : k = nsy os o := by omega
          go_wp2
          go_roundw
          case rel => exact ⟨o + 1, by omega, by go_num, ⟨HN.out _ _ hlt HW.out⟩⟩
          case measure => simp [RowKit.intOf]; omega
    · obtain rfl : o = os.length := by omega
      go_wp2
      go_end0
      exact ⟨⟨_, rfl⟩, .inl HW.out⟩
end Go.Proofs.YtngmipfodjgmmaaDoor.Pure
