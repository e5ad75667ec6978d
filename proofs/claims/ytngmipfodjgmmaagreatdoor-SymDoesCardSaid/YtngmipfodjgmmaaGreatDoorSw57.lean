/- What is read of a word, by shape: the document's 'of' and 'Is' in one statement each. -/
import Derived.Test.YtngmipfodjgmmaaGreatDoorSw56
set_option linter.unusedVariables false
set_option linter.unusedSimpArgs false
namespace Go.Proofs.YtngmipfodjgmmaaGreatDoor.Pure
open Go Go.RowKit Go.Lib Go.Shelf YtngmipfodjgmmaaGreatDoorW.PrintWords YtngmipfodjgmmaaGreatDoorW.PrintLast YtngmipfodjgmmaaGreatDoorW.PrintMore
abbrev I10 := Int × Int × Int × Int × Int × Int × Int × Int × Int × Int
def cel (t : I10) : Array Value := #[.int .i64 t.1, .int .i64 t.2.1, .int .i64 t.2.2.1, .int .i64 t.2.2.2.1, .int .i64 t.2.2.2.2.1, .int .i64 t.2.2.2.2.2.1, .int .u64 t.2.2.2.2.2.2.1, .int .i64 t.2.2.2.2.2.2.2.1, .int .i64 t.2.2.2.2.2.2.2.2.1, .int .i64 t.2.2.2.2.2.2.2.2.2]
def fsOf (n s : Nat) : List Int := (plc s).map fun p => ((fdN n p : Nat) : Int)
/-- The instruction of a word that has an operation of a shape (a mask told apart). -/
def ofT (n : Nat) (op mk : Int) : Nat → I10
 | 1 => (op, ((fdN n (0, 5)) : Int), 0, 0, 0, ((fdN n (5, 16)) : Int), 0, 0, (16 * ((fdN n (21, 2)) : Int)), 0)
 | 2 => (op, ((fdN n (0, 5)) : Int), ((fdN n (5, 5)) : Int), 0, 0, ((fdN n (10, 12)) : Int), 0, 0, (12 * ((fdN n (22, 1)) : Int)), 0)
 | 3 => (op, ((fdN n (0, 5)) : Int), ((fdN n (5, 5)) : Int), 0, 0, 0, mk, 0, 0, 0)
 | 4 => (op, ((fdN n (0, 5)) : Int), ((fdN n (5, 5)) : Int), ((fdN n (16, 5)) : Int), 0, 0, 0, ((fdN n (22, 2)) : Int), ((fdN n (10, 6)) : Int), 0)
 | 5 => (op, ((fdN n (0, 5)) : Int), ((fdN n (5, 5)) : Int), ((fdN n (16, 5)) : Int), 0, 0, 0, ((fdN n (22, 2)) : Int), ((fdN n (10, 6)) : Int), 0)
 | 6 => (op, ((fdN n (0, 5)) : Int), ((fdN n (5, 5)) : Int), ((fdN n (16, 5)) : Int), ((fdN n (10, 5)) : Int), 0, 0, 0, 0, 0)
 | 7 => (op, ((fdN n (0, 5)) : Int), ((fdN n (5, 5)) : Int), 0, 0, (8 * ((fdN n (10, 12)) : Int)), 0, 0, 0, 0)
 | 8 => (op, ((fdN n (0, 5)) : Int), ((fdN n (5, 5)) : Int), 0, 0, ((fdN n (10, 12)) : Int), 0, 0, 0, 0)
 | 9 => (op, ((fdN n (0, 5)) : Int), 0, 0, 0, (wrap64 (4 * sgn 19 (fdN n (5, 19)))), 0, 0, 0, 0)
 | 10 => (op, ((fdN n (0, 5)) : Int), 0, 0, 0, (sgn 21 (4 * (fdN n (5, 19)) + (fdN n (29, 2)))), 0, 0, 0, 0)
 | 11 => (op, 0, 0, 0, 0, (wrap64 (4 * sgn 26 (fdN n (0, 26)))), 0, 0, 0, 0)
 | 12 => (op, 0, 0, 0, 0, (wrap64 (4 * sgn 19 (fdN n (5, 19)))), 0, 0, 0, ((fdN n (0, 4)) : Int))
 | 13 => (op, 0, ((fdN n (5, 5)) : Int), 0, 0, 0, 0, 0, 0, 0)
 | 14 => (op, 0, 0, 0, 0, ((fdN n (5, 16)) : Int), 0, 0, 0, 0)
 | 15 => (op, 0, 0, 0, 0, 0, 0, 0, 0, 0)
 | 16 => (op, ((fdN n (0, 5)) : Int), ((fdN n (5, 5)) : Int), ((fdN n (16, 5)) : Int), 0, 0, 0, 0, 0, ((fdN n (12, 4)) : Int))
 | _ => (0, 0, 0, 0, 0, 0, 0, 0, 0, 0)
/-- Is it right (a mask let out)? -/
def okT (n : Nat) : Nat → Bool
 | 4 => decide (fdN n (22, 2) ≤ 2)
 | 12 => decide (fdN n (0, 4) ≤ 13)
 | 16 => decide (fdN n (12, 4) ≤ 13)
 | _ => true
theorem of_any (n : Nat) (w : World) (A : Option Addr) (c : Nat) (op : Int) : ∀ s : Nat, 1 ≤ s → s ≤ 16 → P.cleatref04_Shape.f op = some (s : Int) → U32 w A (fsOf n s) →
 ∃ mk, U64 mk ∧ Calls Tryz.prog 109 #[.int .i64 op, .slice A (plc s).length c] w (OfPost (cel (ofT n op mk s)) w)
 | 1, _, _, hs, hf => ⟨0, u64_zero, of_1 w A c op (fdN n (0, 5)) (fdN n (5, 16)) (fdN n (21, 2)) hs hf (fd_lt n (0, 5)) (fd_lt n (5, 16)) (fd_lt n (21, 2))⟩
 | 2, _, _, hs, hf => ⟨0, u64_zero, of_2 w A c op (fdN n (0, 5)) (fdN n (5, 5)) (fdN n (10, 12)) (fdN n (22, 1)) hs hf (fd_lt n (0, 5)) (fd_lt n (5, 5)) (fd_lt n (10, 12)) (fd_lt n (22, 1))⟩
 | 3, _, _, hs, hf => of_3 w A c op (fdN n (0, 5)) (fdN n (5, 5)) (fdN n (10, 6)) (fdN n (16, 6)) (fdN n (22, 1)) hs hf (fd_lt n (0, 5)) (fd_lt n (5, 5)) (fd_lt n (10, 6)) (fd_lt n (16, 6)) (fd_lt n (22, 1))
 | 4, _, _, hs, hf => ⟨0, u64_zero, of_4 w A c op (fdN n (0, 5)) (fdN n (5, 5)) (fdN n (10, 6)) (fdN n (16, 5)) (fdN n (22, 2)) hs hf (fd_lt n (0, 5)) (fd_lt n (5, 5)) (fd_lt n (10, 6)) (fd_lt n (16, 5)) (fd_lt n (22, 2))⟩
 | 5, _, _, hs, hf => ⟨0, u64_zero, of_5 w A c op (fdN n (0, 5)) (fdN n (5, 5)) (fdN n (10, 6)) (fdN n (16, 5)) (fdN n (22, 2)) hs hf (fd_lt n (0, 5)) (fd_lt n (5, 5)) (fd_lt n (10, 6)) (fd_lt n (16, 5)) (fd_lt n (22, 2))⟩
 | 6, _, _, hs, hf => ⟨0, u64_zero, of_6 w A c op (fdN n (0, 5)) (fdN n (5, 5)) (fdN n (10, 5)) (fdN n (16, 5)) hs hf (fd_lt n (0, 5)) (fd_lt n (5, 5)) (fd_lt n (10, 5)) (fd_lt n (16, 5))⟩
 | 7, _, _, hs, hf => ⟨0, u64_zero, of_7 w A c op (fdN n (0, 5)) (fdN n (5, 5)) (fdN n (10, 12)) hs hf (fd_lt n (0, 5)) (fd_lt n (5, 5)) (fd_lt n (10, 12))⟩
 | 8, _, _, hs, hf => ⟨0, u64_zero, of_8 w A c op (fdN n (0, 5)) (fdN n (5, 5)) (fdN n (10, 12)) hs hf (fd_lt n (0, 5)) (fd_lt n (5, 5)) (fd_lt n (10, 12))⟩
 | 9, _, _, hs, hf => ⟨0, u64_zero, of_9 w A c op (fdN n (0, 5)) (fdN n (5, 19)) hs hf (fd_lt n (0, 5)) (fd_lt n (5, 19))⟩
 | 10, _, _, hs, hf => ⟨0, u64_zero, of_10 w A c op (fdN n (0, 5)) (fdN n (5, 19)) (fdN n (29, 2)) hs hf (fd_lt n (0, 5)) (fd_lt n (5, 19)) (fd_lt n (29, 2))⟩
 | 11, _, _, hs, hf => ⟨0, u64_zero, of_11 w A c op (fdN n (0, 26)) hs hf (fd_lt n (0, 26))⟩
 | 12, _, _, hs, hf => ⟨0, u64_zero, of_12 w A c op (fdN n (0, 4)) (fdN n (5, 19)) hs hf (fd_lt n (0, 4)) (fd_lt n (5, 19))⟩
 | 13, _, _, hs, hf => ⟨0, u64_zero, of_13 w A c op (fdN n (5, 5)) hs hf (fd_lt n (5, 5))⟩
 | 14, _, _, hs, hf => ⟨0, u64_zero, of_14 w A c op (fdN n (5, 16)) hs hf (fd_lt n (5, 16))⟩
 | 15, _, _, hs, hf => ⟨0, u64_zero, of_15 w A c op  hs hf ⟩
 | 16, _, _, hs, hf => ⟨0, u64_zero, of_16 w A c op (fdN n (0, 5)) (fdN n (5, 5)) (fdN n (12, 4)) (fdN n (16, 5)) hs hf (fd_lt n (0, 5)) (fd_lt n (5, 5)) (fd_lt n (12, 4)) (fd_lt n (16, 5))⟩
 | 0, h, _, _, _ => absurd h (by decide)
 | s + 17, _, h, _, _ => absurd h (by omega)
theorem ris_any (n : Nat) (op mk : Int) (hU : U64 mk) : ∀ s : Nat, 1 ≤ s → s ≤ 16 → P.cleatref04_Shape.f op = some (s : Int) →
 ∃ b, (s ≠ 3 → b = okT n s) ∧ ∀ w, Calls Tryz.prog 110 #[.agg (cel (ofT n op mk s))] w (IsiPost b w)
 | 1, _, _, hs => ⟨_, fun _ => rfl, fun w => ris_1 w op (fdN n (0, 5)) (fdN n (5, 16)) (fdN n (21, 2)) hs (fd_lt n (0, 5)) (fd_lt n (5, 16)) (fd_lt n (21, 2))⟩
 | 2, _, _, hs => ⟨_, fun _ => rfl, fun w => ris_2 w op (fdN n (0, 5)) (fdN n (5, 5)) (fdN n (10, 12)) (fdN n (22, 1)) hs (fd_lt n (0, 5)) (fd_lt n (5, 5)) (fd_lt n (10, 12)) (fd_lt n (22, 1))⟩
 | 3, _, _, hs => by
  obtain ⟨b, hb⟩ := ris_3 op (fdN n (0, 5)) (fdN n (5, 5)) (fdN n (10, 6)) (fdN n (16, 6)) (fdN n (22, 1)) hs (fd_lt n (0, 5)) (fd_lt n (5, 5)) (fd_lt n (10, 6)) (fd_lt n (16, 6)) (fd_lt n (22, 1)) mk hU
  exact ⟨b, fun h => absurd rfl h, hb⟩
 | 4, _, _, hs => ⟨_, fun _ => rfl, fun w => ris_4 w op (fdN n (0, 5)) (fdN n (5, 5)) (fdN n (10, 6)) (fdN n (16, 5)) (fdN n (22, 2)) hs (fd_lt n (0, 5)) (fd_lt n (5, 5)) (fd_lt n (10, 6)) (fd_lt n (16, 5)) (fd_lt n (22, 2))⟩
 | 5, _, _, hs => ⟨_, fun _ => rfl, fun w => ris_5 w op (fdN n (0, 5)) (fdN n (5, 5)) (fdN n (10, 6)) (fdN n (16, 5)) (fdN n (22, 2)) hs (fd_lt n (0, 5)) (fd_lt n (5, 5)) (fd_lt n (10, 6)) (fd_lt n (16, 5)) (fd_lt n (22, 2))⟩
 | 6, _, _, hs => ⟨_, fun _ => rfl, fun w => ris_6 w op (fdN n (0, 5)) (fdN n (5, 5)) (fdN n (10, 5)) (fdN n (16, 5)) hs (fd_lt n (0, 5)) (fd_lt n (5, 5)) (fd_lt n (10, 5)) (fd_lt n (16, 5))⟩
 | 7, _, _, hs => ⟨_, fun _ => rfl, fun w => ris_7 w op (fdN n (0, 5)) (fdN n (5, 5)) (fdN n (10, 12)) hs (fd_lt n (0, 5)) (fd_lt n (5, 5)) (fd_lt n (10, 12))⟩
 | 8, _, _, hs => ⟨_, fun _ => rfl, fun w => ris_8 w op (fdN n (0, 5)) (fdN n (5, 5)) (fdN n (10, 12)) hs (fd_lt n (0, 5)) (fd_lt n (5, 5)) (fd_lt n (10, 12))⟩
 | 9, _, _, hs => ⟨_, fun _ => rfl, fun w => ris_9 w op (fdN n (0, 5)) (fdN n (5, 19)) hs (fd_lt n (0, 5)) (fd_lt n (5, 19))⟩
 | 10, _, _, hs => ⟨_, fun _ => rfl, fun w => ris_10 w op (fdN n (0, 5)) (fdN n (5, 19)) (fdN n (29, 2)) hs (fd_lt n (0, 5)) (fd_lt n (5, 19)) (fd_lt n (29, 2))⟩
 | 11, _, _, hs => ⟨_, fun _ => rfl, fun w => ris_11 w op (fdN n (0, 26)) hs (fd_lt n (0, 26))⟩
 | 12, _, _, hs => ⟨_, fun _ => rfl, fun w => ris_12 w op (fdN n (0, 4)) (fdN n (5, 19)) hs (fd_lt n (0, 4)) (fd_lt n (5, 19))⟩
 | 13, _, _, hs => ⟨_, fun _ => rfl, fun w => ris_13 w op (fdN n (5, 5)) hs (fd_lt n (5, 5))⟩
 | 14, _, _, hs => ⟨_, fun _ => rfl, fun w => ris_14 w op (fdN n (5, 16)) hs (fd_lt n (5, 16))⟩
 | 15, _, _, hs => ⟨_, fun _ => rfl, fun w => ris_15 w op  hs ⟩
 | 16, _, _, hs => ⟨_, fun _ => rfl, fun w => ris_16 w op (fdN n (0, 5)) (fdN n (5, 5)) (fdN n (12, 4)) (fdN n (16, 5)) hs (fd_lt n (0, 5)) (fd_lt n (5, 5)) (fd_lt n (12, 4)) (fd_lt n (16, 5))⟩
 | 0, h, _, _ => absurd h (by decide)
 | s + 17, _, h, _ => absurd h (by omega)
theorem ofT_mk (n : Nat) (op mk : Int) {s : Nat} (h : s ≠ 3) : ofT n op mk s = ofT n op 0 s := by
 unfold ofT
 split <;> first | rfl | exact absurd rfl h
end Go.Proofs.YtngmipfodjgmmaaGreatDoor.Pure
