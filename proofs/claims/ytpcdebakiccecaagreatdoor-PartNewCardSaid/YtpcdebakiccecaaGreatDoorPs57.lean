/- The law 'PartNew' answers true: its printed form ends with true, whatever it is asked. -/
import Derived.Test.YtpcdebakiccecaaGreatDoorPs46
import Derived.Test.YtpcdebakiccecaaGreatDoorPs47
import Derived.Test.YtpcdebakiccecaaGreatDoorPs56
namespace Go.Proofs.YtpcdebakiccecaaGreatDoor.Pure
open Go Go.RowKit Go.Proofs.YtpcdebakiccecaaGreatDoorW.PrintWords Go.Proofs.YtpcdebakiccecaaGreatDoorW.PrintLast Go.Proofs.YtpcdebakiccecaaGreatDoorW.PrintMore
open P (Glob)
set_option linter.unusedVariables false
set_option linter.unusedSimpArgs false
theorem grown_g : P.cleatlaw16_grown.g 400 = some true := by kernel_rfl
theorem grown_ev : Ev (fun k => P.cleatlaw16_grown.f k) true := Ev.of P.cleatlaw16_grown.mono (k := 400) (by unfold P.cleatlaw16_grown.f; rw [if_pos grown_g])
/-- What both tell of a new section. -/
def newR (b : Bool) (n : ByteArray) (kd : Int) (keep : Bool) : ByteArray × Int × Bool × Int × ByteArray × List P.S44 × Int :=
 if b = true then (if kd < 1 then (⟨#[]⟩, 0, false, 0, ⟨#[]⟩, [], 1) else (if kd > 3 then (⟨#[]⟩, 0, false, 0, ⟨#[]⟩, [], 1) else (n, kd, keep, 0, ⟨#[]⟩, [], 0))) else (⟨#[]⟩, 0, false, 0, ⟨#[]⟩, [], 6)
theorem newR_is (b : Bool) (n : ByteArray) (kd : Int) (keep : Bool) :
 (if b = true then (if kd < 1 then (some ((⟨#[]⟩ : ByteArray), (0 : Int), false, (0 : Int), (⟨#[]⟩ : ByteArray), ([] : List P.S44), (1 : Int))) else (if kd > 3 then (some (⟨#[]⟩, 0, false, 0, ⟨#[]⟩, [], 1)) else (some (n, kd, keep, 0, ⟨#[]⟩, [], 0)))) else (some (⟨#[]⟩, 0, false, 0, ⟨#[]⟩, [], 6))) = some (newR b n kd keep) := by
 unfold newR
 cases b with
 | false => rfl
 | true =>
  rw [if_pos rfl, if_pos rfl]
  by_cases c1 : kd < 1
  ·rw [if_pos c1, if_pos c1]
  ·rw [if_neg c1, if_neg c1]
   by_cases c2 : kd > 3
   ·rw [if_pos c2, if_pos c2]
   ·rw [if_neg c2, if_neg c2]
theorem pnew_ev {b : Bool} {n : ByteArray} (kd : Int) (keep : Bool) (h : Ev (fun k => P.local_IsName.f k n) b) : Ev (fun k => P.part_New.f k n kd keep) (newR b n kd keep) := by
 unfold P.part_New.f
 exact Ev.bind h ⟨0, fun k _ => newR_is b n kd keep⟩
theorem cnew_ev {b : Bool} {n : ByteArray} (kd : Int) (keep : Bool) (h : Ev (fun k => P.cleatref14_IsName.f k n) b) : Ev (fun k => P.cleatref16_New.f k n kd keep) (newR b n kd keep) := by
 unfold P.cleatref16_New.f
 exact Ev.bind h ⟨0, fun k _ => newR_is b n kd keep⟩
theorem same_ev (n : ByteArray) (kd : Int) (keep : Bool) : Ev (fun k => P.cleatref16_Same.f k n kd keep 0 ⟨#[]⟩ [] n kd keep 0 ⟨#[]⟩ []) true := by
 unfold P.cleatref16_Same.f
 refine Ev.congr (fun k => (if_pos rfl).trans ((if_pos rfl).trans ((if_pos (beq_self_eq_true keep)).trans ((if_pos rfl).trans (if_pos rfl))))) ?_
 exact Ev.bind (Ev.of (fun k => P.cleatref16_SameRels.mono _ _ k) (k := 20) (by kernel_rfl)) (Ev.now _)
theorem rest_ev (n : ByteArray) (kd : Int) (keep : Bool) (e : Int) (h : Ev (fun k => P.part_Is.f k n kd keep 0 ⟨#[]⟩ []) (e == 0)) :
 Ev (fun k => (P.cleatref16_Same.f k n kd keep 0 ⟨#[]⟩ [] n kd keep 0 ⟨#[]⟩ []).bind fun t304 => (if t304 = true then (if e = e then ((P.part_Is.f k n kd keep 0 ⟨#[]⟩ []).bind fun t305 => (some (t305 == (e == 0)))) else (some false)) else (some false))) true :=
 Ev.bind (same_ev n kd keep) (Ev.congr (fun k => (if_pos rfl).trans (if_pos rfl)) (Ev.bind h ⟨0, fun _ _ => congrArg some (beq_self_eq_true _)⟩))
theorem zero_is : Ev (fun k => P.part_Is.f k ⟨#[]⟩ 0 false 0 ⟨#[]⟩ []) false := Ev.of (fun k => P.part_Is.mono _ _ _ _ _ _ k) (k := 60) (by kernel_rfl)
theorem pnew_true (n : ByteArray) (kd : Int) (keep : Bool) : Ev (fun k => P.cleatlaw16_PartNew.f k n kd keep) true := by
 unfold P.cleatlaw16_PartNew.f
 by_cases c : (n.size : Int) > 100
 ·exact Ev.congr (fun k => if_pos c) (Ev.now _)
 refine Ev.congr (fun k => if_neg c) ?_
 obtain ⟨b, h1, h2⟩ := names_one n
 refine Ev.bind (pnew_ev kd keep h2) (Ev.bind (cnew_ev kd keep h1) (Ev.bind grown_ev (Ev.congr (fun k => if_pos rfl) ?_)))
 unfold newR
 cases b with
 | false => exact rest_ev _ _ _ 6 zero_is
 | true =>
  rw [if_pos rfl]
  by_cases c1 : kd < 1
  ·rw [if_pos c1]; exact rest_ev _ _ _ 1 zero_is
  ·rw [if_neg c1]
   by_cases c2 : kd > 3
   ·rw [if_pos c2]; exact rest_ev _ _ _ 1 zero_is
   ·rw [if_neg c2]
    exact rest_ev _ _ _ 0 ((is_iff ⟨n, kd, keep, 0, ⟨#[]⟩, []⟩).2 ⟨h2, ⟨by show 1 ≤ kd; omega, by show kd ≤ 3; omega⟩, ⟨by show (0 : Int) ≤ 0; omega, by show (0 : Int) ≤ 12; omega⟩, by show (0 : Nat) ≤ 4096; omega, by show (0 : Nat) ≤ 64; omega, trivial⟩)
end Go.Proofs.YtpcdebakiccecaaGreatDoor.Pure
