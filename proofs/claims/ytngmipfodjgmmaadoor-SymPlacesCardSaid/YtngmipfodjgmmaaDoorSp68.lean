/- 'obj.Find' walked. -/
import Derived.Test.YtngmipfodjgmmaaDoorSp67
namespace Go.Proofs.YtngmipfodjgmmaaDoor.Pure
open Go Go.RowKit Go.Lib Go.Shelf Go.Maps Go.Proofs.YtngmipfodjgmmaaDoorW.PrintWords Go.Proofs.YtngmipfodjgmmaaDoorW.PrintLast Go.Proofs.YtngmipfodjgmmaaDoorW.PrintMore
open P (Glob)
set_option linter.unusedVariables false
set_option linter.unusedSimpArgs false
/-- What 'Find' tells of an object. -/
def findO (o : Ob) (n : ByteArray) (r : Option Nat) : Prop := (ObOk o ∧ 0 < n.size ∧ ((∃ k, r = some k ∧ k < o.f1.length ∧ (smN o k).f0 = n ∧ ∀ j, j < k → (smN o j).f0 ≠ n) ∨ (r = none ∧ ∀ j, j < o.f1.length → (smN o j).f0 ≠ n))) ∨ (¬ (ObOk o ∧ 0 < n.size) ∧ r = none)
def FindOPost (o : Ob) (n : ByteArray) (w : World) (e : Ending) (w' : World) : Prop := ∃ r : Option Nat, findO o n r ∧ e = .returned (.tuple #[.int .i64 (r.getD 0 : Nat), .bool r.isSome]) ∧ Below w.heap.size w w'
theorem findO_no {o : Ob} {n : ByteArray} (h : ¬ (ObOk o ∧ 0 < n.size)) {w w' : World} (hb : Below w.heap.size w w') : FindOPost o n w (.returned (.tuple #[.int .i64 0, .bool false])) w' := ⟨none, .inr ⟨h, rfl⟩, rfl, hb⟩
theorem bytes_ext2 {a b : ByteArray} (h : a.toList = b.toList) : a = b := by
  rw [ByteArray.toList_eq, ByteArray.toList_eq] at h
  exact ByteArray.ext (Array.ext' h)
set_option maxRecDepth 100000 in
set_option maxHeartbeats 4000000 in
theorem findO_any (w : World) (A0 A1 : Option Addr) (c0 c1 : Nat) (o : Ob) (n : ByteArray) (hG : Glob w) (hse : SeA w A0 o.f0) (hc0 : o.f0.length ≤ c0) (hsy : SyA w A1 o.f1) (hc1 : o.f1.length ≤ c1) (hf : FewO o) :
    Calls Tryd.prog 25 #[.agg #[.slice A0 o.f0.length c0, .slice A1 o.f1.length c1], .string n] w (FindOPost o n w) := by
  have HG := Aside0.mk hG
  have HS := Aside0.mk hse
  have HY := Aside0.mk hsy
  have HF := Aside0.mk hf
  have hly := hf.syms
  have HB := Aside0.mk ((Below.refl w.heap.size w).alloc (Nat.le_refl _) (.cells #[.slice A0 o.f0.length c0, .slice A1 o.f1.length c1] 48))
  have HX := Aside0.mk (blk_new w (.cells #[.slice A0 o.f0.length c0, .slice A1 o.f1.length c1] 48))
  clear hG hse hsy hf
  by_cases hz : n.toList = []
  · have e0 : (n.toList == ([] : List UInt8)) = true := by rw [hz]; rfl
    have e1 : n.toList.isEmpty = true := by rw [hz]; rfl
    have hs := size_of_nil hz
    clear hz
    go_enter Tryd.func25, Tryd.ntmps25
    go_wp2
    go_ret2
    exact findO_no (fun h => by omega) HB.out
  · have e0 : (n.toList == ([] : List UInt8)) = false := beq_eq_false_iff_ne.mpr hz
    have e1 : n.toList.isEmpty = false := by cases h : n.toList with | nil => exact absurd h hz | cons a b => rfl
    have hp : 0 < n.size := by
      rcases Nat.eq_zero_or_pos n.size with h | h
      · exact absurd (nil_of_size h) hz
      · exact h
    clear hz
    go_enter Tryd.func25, Tryd.ntmps25
    go_wp2_with fail
    (with_reducible refine (objIs_any _ A0 A1 c0 c1 o (HG.out.below HB.out) (Kd.C_below HS.out HB.out) hc0 (Kd.C_below HY.out HB.out) hc1 HF.out).mono ?_)
    rintro e w2 ⟨b, rfl, hb, hw⟩
    replace HX := Aside0.mk (blk_below HX.out hw)
    replace HB := Aside0.mk (below_step HB.out hw)
    have HBi := Aside0.mk hb
    clear hb hw
    cases b with
    | false =>
      go_wp2
      go_ret2
      exact findO_no (fun h => absurd (HBi.out.2 h.1) (by decide)) HB.out
    | true =>
      have HOk := Aside0.mk (HBi.out.1 rfl)
      obtain ⟨z0, z1⟩ := blk2_cells HX.out
      clear HBi
      go_wp2
      go_loopw [18] (fun v wr => ∃ k : Nat, k ≤ o.f1.length ∧ v = .int .i64 k ∧ Aside0 (∀ j, j < k → (smN o j).f0 ≠ n) ∧ Aside0 (Below w.heap.size w wr)) (fun v _ => o.f1.length - (RowKit.intOf v).toNat)
      case atStart => exact ⟨0, Nat.zero_le _, rfl, ⟨fun j h => absurd h (Nat.not_lt_zero _)⟩, HB⟩
      case round =>
        clear HB HX z0 z1
        obtain ⟨k, hk, rfl, HN, HB⟩ := hrel
        by_cases hkl : k < o.f1.length
        · obtain ⟨ad, e, y0, y1, y2, y3⟩ := P.at_T50 HY.out k (by omega) (by omega)
          subst e
          rw [Int.toNat_natCast] at y0 y1 y2 y3
          replace y0 := keepS y0 HB.out
          replace y1 := keepS y1 HB.out
          replace y2 := keepS y2 HB.out
          replace y3 := keepS y3 HB.out
          obtain ⟨s, hs⟩ : ∃ s, smN o k = s := ⟨_, rfl⟩
          have HSe := Aside0.mk hs
          unfold smN at hs
          rw [hs] at y0 y1 y2 y3
          clear hs
          have hk0 : (0 : Int) ≤ (k : Int) := by omega
          have hk1 : (k : Int) < o.f1.length := by omega
          by_cases he : s.f0 = n
          · have nE : (s.f0.toList == n.toList) = true := by rw [he]; simp
            go_wp2
            go_ret2
            exact ⟨some k, .inl ⟨HOk.out, hp, .inl ⟨k, rfl, hkl, by rw [HSe.out]; exact he, HN.out⟩⟩, rfl, HB.out.alloc HB.out.size _⟩
          · have nE : (s.f0.toList == n.toList) = false := beq_eq_false_iff_ne.mpr (fun h => he (bytes_ext2 h))
            go_wp2
            go_roundw
            case rel => exact ⟨k + 1, by omega, by go_num, ⟨upto1 HN.out (by rw [HSe.out]; exact he)⟩, ⟨HB.out.alloc HB.out.size _⟩⟩
            case measure => simp [RowKit.intOf]; omega
        · obtain rfl : k = o.f1.length := by omega
          go_wp2
          go_ret2
          exact ⟨none, .inl ⟨HOk.out, hp, .inr ⟨rfl, HN.out⟩⟩, rfl, HB.out⟩
/-- The symbol that is found is found at its own place. -/
theorem findO_at {o : Ob} (h : ObOk o) {k : Nat} (hk : k < o.f1.length) (hp : 0 < (smN o k).f0.size) {r : Option Nat} (hr : findO o (smN o k).f0 r) : r = some k := by
  rcases hr with ⟨_, _, ⟨j, rfl, hj, e, _⟩ | ⟨_, hn⟩⟩ | ⟨hn, _⟩
  · rw [h.unique hj hk e (by rw [e]; exact hp)]
  · exact absurd rfl (hn k hk)
  · exact absurd ⟨h, hp⟩ hn
end Go.Proofs.YtngmipfodjgmmaaDoor.Pure
