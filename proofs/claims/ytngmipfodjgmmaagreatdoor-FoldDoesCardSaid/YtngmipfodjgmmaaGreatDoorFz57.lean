/- Walks and plain laws of this claim, a part. -/
import Derived.Test.YtngmipfodjgmmaaGreatDoorFz55
set_option linter.unusedVariables false
set_option linter.unusedSimpArgs false
section
namespace Go.Proofs.YtngmipfodjgmmaaGreatDoor.Pure
open Go Go.RowKit Go.Lib Go.Shelf Wa Wb Wc
abbrev I10 := Int × Int × Int × Int × Int × Int × Int × Int × Int × Int
def cel (t : I10) : Array Value := #[.int .i64 t.1, .int .i64 t.2.1, .int .i64 t.2.2.1, .int .i64 t.2.2.2.1, .int .i64 t.2.2.2.2.1, .int .i64 t.2.2.2.2.2.1, .int .u64 t.2.2.2.2.2.2.1, .int .i64 t.2.2.2.2.2.2.2.1, .int .i64 t.2.2.2.2.2.2.2.2.1, .int .i64 t.2.2.2.2.2.2.2.2.2]
def fsOf (n s : Nat) : List Int := (plc s).map fun p => ((fdN n p : Nat) : Int)
def ofT (n : Nat) (op mk : Int) : Nat → I10
 | 1 => (op, ((fdN n (0, 5)) : Int), 0, 0, 0, ((fdN n (5, 16)) : Int), 0, 0, (16 * ((fdN n (21, 2)) : Int)), 0)
 | 2 => (op, ((fdN n (0, 5)) : Int), ((fdN n (5, 5)) : Int), 0, 0, ((fdN n (10, 12)) : Int), 0, 0, (12 * ((fdN n (22, 1)) : Int)), 0)
 | 3 => (op, ((fdN n (0, 5)) : Int), ((fdN n (5, 5)) : Int), 0, 0, 0, mk, 0, 0, 0)
 | 4 => (op, ((fdN n (0, 5)) : Int), ((fdN n (5, 5)) : Int), ((fdN n (16, 5)) : Int), 0, 0, 0, ((fdN n (22, 2)) : Int), ((fdN n (10, 6)) : Int), 0)
 | 5 => (op, ((fdN n (0, 5)) : Int), ((fdN n (5, 5)) : Int), ((fdN n (16, 5)) : Int), 0, 0, 0, ((fdN n (22, 2)) : Int), ((fdN n (10, 6)) : Int), 0)
 | 6 => (op, ((fdN n (0, 5)) : Int), ((fdN n (5, 5)) : Int), ((fdN n (16, 5)) : Int), ((fdN n (10, 5)) : Int), 0, 0, 0, 0, 0)
 | 7 => (op, ((fdN n (0, 5)) : Int), ((fdN n (5, 5)) : Int), 0, 0, (8 * ((fdN n (10, 12)) : Int)), 0, 0, 0, 0)
 | 8 => (op, ((fdN n (0, 5)) : Int), ((fdN n (5, 5)) : Int), 0, 0, ((fdN n (10, 12)) : Int), 0, 0, 0, 0)
 | 9 => (op, ((fdN n (0, 5)) : Int), 0, 0, 0, (wrap64 (4 * sgn 19 (fdN n (5, 19)))), 0, 0, 0, 0)
 | 10 => (op, ((fdN n (0, 5)) : Int), 0, 0, 0, (sgn 21 (4 * (fdN n (5, 19)) + (fdN n (29, 2)))), 0, 0, 0, 0)
 | 11 => (op, 0, 0, 0, 0, (wrap64 (4 * sgn 26 (fdN n (0, 26)))), 0, 0, 0, 0)
 | 12 => (op, 0, 0, 0, 0, (wrap64 (4 * sgn 19 (fdN n (5, 19)))), 0, 0, 0, ((fdN n (0, 4)) : Int))
 | 13 => (op, 0, ((fdN n (5, 5)) : Int), 0, 0, 0, 0, 0, 0, 0)
 | 14 => (op, 0, 0, 0, 0, ((fdN n (5, 16)) : Int), 0, 0, 0, 0)
 | 15 => (op, 0, 0, 0, 0, 0, 0, 0, 0, 0)
 | 16 => (op, ((fdN n (0, 5)) : Int), ((fdN n (5, 5)) : Int), ((fdN n (16, 5)) : Int), 0, 0, 0, 0, 0, ((fdN n (12, 4)) : Int))
 | _ => (0, 0, 0, 0, 0, 0, 0, 0, 0, 0)
def okT (n : Nat) : Nat → Bool
 | 4 => decide (fdN n (22, 2) ≤ 2)
 | 12 => decide (fdN n (0, 4) ≤ 13)
 | 16 => decide (fdN n (12, 4) ≤ 13)
 | _ => true
theorem of_any (n : Nat) (w : World) (A : Option Addr) (c : Nat) (op : Int) : ∀ s : Nat, 1 ≤ s → s ≤ 16 → P.cleatref04_Shape.f op = some (s : Int) → U32 w A (fsOf n s) →
 ∃ mk, U64 mk ∧ Calls Tryz.prog 109 #[.int .i64 op, .slice A (plc s).length c] w (OfPost (cel (ofT n op mk s)) w)
 | 1, _, _, hs, hf => ⟨0, u64_zero, of_1 w A c op (fdN n (0, 5)) (fdN n (5, 16)) (fdN n (21, 2)) hs hf (fd_lt n (0, 5)) (fd_lt n (5, 16)) (fd_lt n (21, 2))⟩
 | 2, _, _, hs, hf => ⟨0, u64_zero, of_2 w A c op (fdN n (0, 5)) (fdN n (5, 5)) (fdN n (10, 12)) (fdN n (22, 1)) hs hf (fd_lt n (0, 5)) (fd_lt n (5, 5)) (fd_lt n (10, 12)) (fd_lt n (22, 1))⟩
 | 3, _, _, hs, hf => of_3 w A c op (fdN n (0, 5)) (fdN n (5, 5)) (fdN n (10, 6)) (fdN n (16, 6)) (fdN n (22, 1)) hs hf (fd_lt n (0, 5)) (fd_lt n (5, 5)) (fd_lt n (10, 6)) (fd_lt n (16, 6)) (fd_lt n (22, 1))
 | 4, _, _, hs, hf => ⟨0, u64_zero, of_4 w A c op (fdN n (0, 5)) (fdN n (5, 5)) (fdN n (10, 6)) (fdN n (16, 5)) (fdN n (22, 2)) hs hf (fd_lt n (0, 5)) (fd_lt n (5, 5)) (fd_lt n (10, 6)) (fd_lt n (16, 5)) (fd_lt n (22, 2))⟩
 | 5, _, _, hs, hf => ⟨0, u64_zero, of_5 w A c op (fdN n (0, 5)) (fdN n (5, 5)) (fdN n (10, 6)) (fdN n (16, 5)) (fdN n (22, 2)) hs hf (fd_lt n (0, 5)) (fd_lt n (5, 5)) (fd_lt n (10, 6)) (fd_lt n (16, 5)) (fd_lt n (22, 2))⟩
 | 6, _, _, hs, hf => ⟨0, u64_zero, of_6 w A c op (fdN n (0, 5)) (fdN n (5, 5)) (fdN n (10, 5)) (fdN n (16, 5)) hs hf (fd_lt n (0, 5)) (fd_lt n (5, 5)) (fd_lt n (10, 5)) (fd_lt n (16, 5))⟩
 | 7, _, _, hs, hf => ⟨0, u64_zero, of_7 w A c op (fdN n (0, 5)) (fdN n (5, 5)) (fdN n (10, 12)) hs hf (fd_lt n (0, 5)) (fd_lt n (5, 5)) (fd_lt n (10, 12))⟩
 | 8, _, _, hs, hf => ⟨0, u64_zero, of_8 w A c op (fdN n (0, 5)) (fdN n (5, 5)) (fdN n (10, 12)) hs hf (fd_lt n (0, 5)) (fd_lt n (5, 5)) (fd_lt n (10, 12))⟩
 | 9, _, _, hs, hf => ⟨0, u64_zero, of_9 w A c op (fdN n (0, 5)) (fdN n (5, 19)) hs hf (fd_lt n (0, 5)) (fd_lt n (5, 19))⟩
 | 10, _, _, hs, hf => ⟨0, u64_zero, of_10 w A c op (fdN n (0, 5)) (fdN n (5, 19)) (fdN n (29, 2)) hs hf (fd_lt n (0, 5)) (fd_lt n (5, 19)) (fd_lt n (29, 2))⟩
 | 11, _, _, hs, hf => ⟨0, u64_zero, of_11 w A c op (fdN n (0, 26)) hs hf (fd_lt n (0, 26))⟩
 | 12, _, _, hs, hf => ⟨0, u64_zero, of_12 w A c op (fdN n (0, 4)) (fdN n (5, 19)) hs hf (fd_lt n (0, 4)) (fd_lt n (5, 19))⟩
 | 13, _, _, hs, hf => ⟨0, u64_zero, of_13 w A c op (fdN n (5, 5)) hs hf (fd_lt n (5, 5))⟩
 | 14, _, _, hs, hf => ⟨0, u64_zero, of_14 w A c op (fdN n (5, 16)) hs hf (fd_lt n (5, 16))⟩
 | 15, _, _, hs, hf => ⟨0, u64_zero, of_15 w A c op  hs hf ⟩
 | 16, _, _, hs, hf => ⟨0, u64_zero, of_16 w A c op (fdN n (0, 5)) (fdN n (5, 5)) (fdN n (12, 4)) (fdN n (16, 5)) hs hf (fd_lt n (0, 5)) (fd_lt n (5, 5)) (fd_lt n (12, 4)) (fd_lt n (16, 5))⟩
 | 0, h, _, _, _ => absurd h (by decide)
 | s + 17, _, h, _, _ => absurd h (by omega)
theorem ris_any (n : Nat) (op mk : Int) (hU : U64 mk) : ∀ s : Nat, 1 ≤ s → s ≤ 16 → P.cleatref04_Shape.f op = some (s : Int) →
 ∃ b, (s ≠ 3 → b = okT n s) ∧ ∀ w, Calls Tryz.prog 110 #[.agg (cel (ofT n op mk s))] w (IsiPost b w)
 | 1, _, _, hs => ⟨_, fun _ => rfl, fun w => ris_1 w op (fdN n (0, 5)) (fdN n (5, 16)) (fdN n (21, 2)) hs (fd_lt n (0, 5)) (fd_lt n (5, 16)) (fd_lt n (21, 2))⟩
 | 2, _, _, hs => ⟨_, fun _ => rfl, fun w => ris_2 w op (fdN n (0, 5)) (fdN n (5, 5)) (fdN n (10, 12)) (fdN n (22, 1)) hs (fd_lt n (0, 5)) (fd_lt n (5, 5)) (fd_lt n (10, 12)) (fd_lt n (22, 1))⟩
 | 3, _, _, hs => by
  obtain ⟨b, hb⟩ := ris_3 op (fdN n (0, 5)) (fdN n (5, 5)) (fdN n (10, 6)) (fdN n (16, 6)) (fdN n (22, 1)) hs (fd_lt n (0, 5)) (fd_lt n (5, 5)) (fd_lt n (10, 6)) (fd_lt n (16, 6)) (fd_lt n (22, 1)) mk hU
  exact ⟨b, fun h => absurd rfl h, hb⟩
 | 4, _, _, hs => ⟨_, fun _ => rfl, fun w => ris_4 w op (fdN n (0, 5)) (fdN n (5, 5)) (fdN n (10, 6)) (fdN n (16, 5)) (fdN n (22, 2)) hs (fd_lt n (0, 5)) (fd_lt n (5, 5)) (fd_lt n (10, 6)) (fd_lt n (16, 5)) (fd_lt n (22, 2))⟩
 | 5, _, _, hs => ⟨_, fun _ => rfl, fun w => ris_5 w op (fdN n (0, 5)) (fdN n (5, 5)) (fdN n (10, 6)) (fdN n (16, 5)) (fdN n (22, 2)) hs (fd_lt n (0, 5)) (fd_lt n (5, 5)) (fd_lt n (10, 6)) (fd_lt n (16, 5)) (fd_lt n (22, 2))⟩
 | 6, _, _, hs => ⟨_, fun _ => rfl, fun w => ris_6 w op (fdN n (0, 5)) (fdN n (5, 5)) (fdN n (10, 5)) (fdN n (16, 5)) hs (fd_lt n (0, 5)) (fd_lt n (5, 5)) (fd_lt n (10, 5)) (fd_lt n (16, 5))⟩
 | 7, _, _, hs => ⟨_, fun _ => rfl, fun w => ris_7 w op (fdN n (0, 5)) (fdN n (5, 5)) (fdN n (10, 12)) hs (fd_lt n (0, 5)) (fd_lt n (5, 5)) (fd_lt n (10, 12))⟩
 | 8, _, _, hs => ⟨_, fun _ => rfl, fun w => ris_8 w op (fdN n (0, 5)) (fdN n (5, 5)) (fdN n (10, 12)) hs (fd_lt n (0, 5)) (fd_lt n (5, 5)) (fd_lt n (10, 12))⟩
 | 9, _, _, hs => ⟨_, fun _ => rfl, fun w => ris_9 w op (fdN n (0, 5)) (fdN n (5, 19)) hs (fd_lt n (0, 5)) (fd_lt n (5, 19))⟩
 | 10, _, _, hs => ⟨_, fun _ => rfl, fun w => ris_10 w op (fdN n (0, 5)) (fdN n (5, 19)) (fdN n (29, 2)) hs (fd_lt n (0, 5)) (fd_lt n (5, 19)) (fd_lt n (29, 2))⟩
 | 11, _, _, hs => ⟨_, fun _ => rfl, fun w => ris_11 w op (fdN n (0, 26)) hs (fd_lt n (0, 26))⟩
 | 12, _, _, hs => ⟨_, fun _ => rfl, fun w => ris_12 w op (fdN n (0, 4)) (fdN n (5, 19)) hs (fd_lt n (0, 4)) (fd_lt n (5, 19))⟩
 | 13, _, _, hs => ⟨_, fun _ => rfl, fun w => ris_13 w op (fdN n (5, 5)) hs (fd_lt n (5, 5))⟩
 | 14, _, _, hs => ⟨_, fun _ => rfl, fun w => ris_14 w op (fdN n (5, 16)) hs (fd_lt n (5, 16))⟩
 | 15, _, _, hs => ⟨_, fun _ => rfl, fun w => ris_15 w op  hs ⟩
 | 16, _, _, hs => ⟨_, fun _ => rfl, fun w => ris_16 w op (fdN n (0, 5)) (fdN n (5, 5)) (fdN n (12, 4)) (fdN n (16, 5)) hs (fd_lt n (0, 5)) (fd_lt n (5, 5)) (fd_lt n (12, 4)) (fd_lt n (16, 5))⟩
 | 0, h, _, _ => absurd h (by decide)
 | s + 17, _, h, _ => absurd h (by omega)
theorem ofT_mk (n : Nat) (op mk : Int) {s : Nat} (h : s ≠ 3) : ofT n op mk s = ofT n op 0 s := by
 unfold ofT
 split <;> first | rfl | exact absurd rfl h
theorem or64_r (a b : Nat) (ha : a < 4294967296) (hb : b < 4294967296) : Go.bits .or .i64 (a : Int) (b : Int) = ((a ||| b : Nat) : Int) := by
 show IntKind.i64.wrap ((BitVec.ofInt 64 (a : Int) ||| BitVec.ofInt 64 (b : Int)).toNat : Int) = _
 rw [BitVec.toNat_or, u64_nat a (by omega), u64_nat b (by omega)]
 have := Nat.or_lt_two_pow (n := 32) ha hb
 exact i64_wrap _ (by omega) (by omega)
theorem within_ok (v lo hi by_ q : Int) (hb : by_ ≠ 0) (h1 : lo ≤ v) (h2 : v ≤ hi) (hq : v = by_ * q) : P.inst_within.f v lo hi by_ = some true := by
 have e : Int.tmod v by_ = 0 := by rw [hq]; exact Int.mul_tmod_right _ _
 unfold P.inst_within.f
 rw [if_pos h1, if_pos h2, if_neg hb, e]
 rfl
theorem within_dec (v hi : Int) (h1 : 0 ≤ v) : P.inst_within.f v 0 hi 1 = some (decide (v ≤ hi)) := by
 by_cases h : v ≤ hi
 ·rw [dT_ h]
  exact within_ok v 0 hi 1 v (by decide) h1 h (by omega)
 unfold P.inst_within.f
 rw [if_pos h1, if_neg h, dF_ h]
theorem Ev.nowc {α : Type} {c : Option α} {r : α} (h : c = some r) : Ev (fun _ => c) r := ⟨0, fun _ _ => h⟩
theorem pis_ev (op s d n m a im sh am cd : Int) (bd bn bm ba b1 b2 : Bool) (hs : P.inst_Shape.f op = some s) (h0 : s ≠ 0) (h3 : s ≠ 3) (hh : Ev (fun k => P.inst_has.f k s) (bd, bn, bm, ba))
 (r1 : P.inst_register.f d bd = some true) (r2 : P.inst_register.f n bn = some true) (r3 : P.inst_register.f m bm = some true) (r4 : P.inst_register.f a ba = some true)
 (hn : Ev (fun k => P.inst_number.f k s im) true) (ha : P.inst_amount.f s sh am = some b1) (hc : P.inst_cond.f s cd = some b2) : Ev (fun k => P.inst_Is.f k op d n m a im 0 sh am cd) (b1 && b2) := by
 unfold P.inst_Is.f
 refine Ev.bind (Ev.nowc hs) (Ev.congr (fun k => if_neg h0) (Ev.bind hh (Ev.bind (Ev.nowc r1) (Ev.congr (fun k => if_pos rfl) (Ev.bind (Ev.nowc r2) (Ev.congr (fun k => if_pos rfl) (Ev.bind (Ev.nowc r3) (Ev.congr (fun k => if_pos rfl) (Ev.bind (Ev.nowc r4) ?_)))))))))
 refine Ev.step (fun k => P.inst_Is.j0.eq_2 _ _ _ _ _ _ _ _ _ _ _ _ _) (Ev.congr (fun k => if_neg (by decide)) (Ev.congr (fun k => if_neg h3) (Ev.congr (fun k => if_pos rfl) (Ev.bind hn (Ev.congr (fun k => if_pos rfl) (Ev.bind (Ev.nowc ha) ?_))))))
 cases b1 with
 | false => exact Ev.congr (fun k => if_neg (by decide)) (Ev.now _)
 | true => exact Ev.congr (fun k => if_pos rfl) (Ev.bind (Ev.nowc hc) (Ev.now _))
theorem preg_has (v : Nat) (hv : v < 32) : P.inst_register.f (v : Int) true = some true := by
 unfold P.inst_register.f
 rw [if_pos rfl, if_pos (by omega), dT_ (by omega)]
def r11 (t : I10) (e : Int) : Int × Int × Int × Int × Int × Int × Int × Int × Int × Int × Int := (t.1, t.2.1, t.2.2.1, t.2.2.2.1, t.2.2.2.2.1, t.2.2.2.2.2.1, t.2.2.2.2.2.2.1, t.2.2.2.2.2.2.2.1, t.2.2.2.2.2.2.2.2.1, t.2.2.2.2.2.2.2.2.2, e)
def zero10 : I10 := (0, 0, 0, 0, 0, 0, 0, 0, 0, 0)
theorem pdec_go (n : Nat) (op s : Int) (t : I10) (b : Bool) (ho : P.code_Opcode.f (n : Int) = some op) (hs : P.inst_Shape.f op = some s) (h0 : s ≠ 0) (h3 : s ≠ 3) (hr : ∀ k, P.code_read.of k (n : Int) op s = some t)
 (hi : Ev (fun k => P.inst_Is.f k t.1 t.2.1 t.2.2.1 t.2.2.2.1 t.2.2.2.2.1 t.2.2.2.2.2.1 t.2.2.2.2.2.2.1 t.2.2.2.2.2.2.2.1 t.2.2.2.2.2.2.2.2.1 t.2.2.2.2.2.2.2.2.2) b) :
 Ev (fun k => P.code_Decode.f k (n : Int)) (if b = true then r11 t 0 else r11 zero10 11) := by
 unfold P.code_Decode.f
 have hp : ∀ k, P.code_Decode.pan k (n : Int) s = some false := fun k => by
  unfold P.code_Decode.pan
  rw [if_neg h0, if_neg h3]
 refine Ev.bind (Ev.nowc ho) (Ev.bind (Ev.nowc hs) (Ev.bind (Ev.congr hp (Ev.now false)) (Ev.congr (fun k => if_neg (by decide)) (Ev.bind (Ev.congr hr (Ev.now t)) (Ev.bind hi ?_)))))
 cases b with
 | true => exact Ev.congr (fun k => if_pos rfl) (Ev.now _)
 | false => exact Ev.congr (fun k => if_neg (by decide)) (Ev.now _)
theorem num_1 (v : Int) : P.inst_number.f 9 1 v = (P.inst_within.f v (0) 65535 1).bind fun t => some t := rfl
theorem num_2 (v : Int) : P.inst_number.f 9 2 v = (P.inst_within.f v (0) 4095 1).bind fun t => some t := rfl
theorem num_7 (v : Int) : P.inst_number.f 9 7 v = (P.inst_within.f v (0) 32760 8).bind fun t => some t := rfl
theorem num_8 (v : Int) : P.inst_number.f 9 8 v = (P.inst_within.f v (0) 4095 1).bind fun t => some t := rfl
theorem num_9 (v : Int) : P.inst_number.f 9 9 v = (P.inst_within.f v (-1048576) 1048572 4).bind fun t => some t := rfl
theorem num_10 (v : Int) : P.inst_number.f 9 10 v = (P.inst_within.f v (-1048576) 1048575 1).bind fun t => some t := rfl
theorem num_11 (v : Int) : P.inst_number.f 9 11 v = (P.inst_within.f v (-134217728) 134217724 4).bind fun t => some t := rfl
theorem num_12 (v : Int) : P.inst_number.f 9 12 v = (P.inst_within.f v (-1048576) 1048572 4).bind fun t => some t := rfl
theorem num_14 (v : Int) : P.inst_number.f 9 14 v = (P.inst_within.f v (0) 65535 1).bind fun t => some t := rfl
theorem pdec_1 (n : Nat) (hn : n < 4294967296) (op : Int) (ho : P.code_Opcode.f (n : Int) = some op) (hs : P.inst_Shape.f op = some 1) : Ev (fun k => P.code_Decode.f k (n : Int)) (if okT n 1 = true then r11 (ofT n op 0 1) 0 else r11 zero10 11) := by
 have b0 : fdN n (0, 5) < 32 := fd_lt n (0, 5)
 have q0 : P.fld (n : Int) 0 5 = ((fdN n (0, 5) : Nat) : Int) := fld_ok n 0 5 hn (by decide) (by decide) (by decide)
 have b1 : fdN n (5, 16) < 65536 := fd_lt n (5, 16)
 have q1 : P.fld (n : Int) 5 16 = ((fdN n (5, 16) : Nat) : Int) := fld_ok n 5 16 hn (by decide) (by decide) (by decide)
 have b2 : fdN n (21, 2) < 4 := fd_lt n (21, 2)
 have q2 : P.fld (n : Int) 21 2 = ((fdN n (21, 2) : Nat) : Int) := fld_ok n 21 2 hn (by decide) (by decide) (by decide)
 have ew : wrap64 (P.fld (n : Int) 21 2 * 16) = 16 * ((fdN n (21, 2) : Nat) : Int) := by rw [q2, wrap64_small _ (by omega) (by omega), Int.mul_comm]
 have hr : ∀ k, P.code_read.of k (n : Int) op 1 = some (ofT n op 0 1) := fun k => by
  have : P.code_read.of k (n : Int) op 1 = some (op, P.fld (n : Int) 0 5, 0, 0, 0, P.fld (n : Int) 5 16, 0, 0, wrap64 (P.fld (n : Int) 21 2 * 16), 0) := rfl
  rw [this, ew, q0, q1]
  rfl
 have hnum : Ev (fun k => P.inst_number.f k 1 ((fdN n (5, 16)) : Int)) true := Ev.of (fun k => P.inst_number.mono _ _ k) (k := 9) (by rw [num_1, within_ok ((fdN n (5, 16)) : Int) _ _ 1 ((fdN n (5, 16)) : Int) (by decide) (by omega) (by omega) (by omega)]; rfl)
 have hI := pis_ev op 1 ((fdN n (0, 5)) : Int) 0 0 0 (((fdN n (5, 16)) : Int)) 0 (16 * ((fdN n (21, 2)) : Int)) 0 true false false false true true hs (by decide) (by decide) (Ev.of (fun k => P.inst_has.mono _ k) (k := 9) rfl) (preg_has (fdN n (0, 5)) (by omega)) rfl rfl rfl hnum (by show (P.inst_within.f (16 * ((fdN n (21, 2)) : Int)) 0 48 16).bind _ = _; rw [within_ok _ 0 48 16 ((fdN n (21, 2)) : Int) (by decide) (by omega) (by omega) rfl]; rfl) rfl
 have eb : (true && true) = okT n 1 := rfl
 rw [eb] at hI
 exact pdec_go n op 1 _ _ ho hs (by decide) (by decide) hr hI
theorem pdec_2 (n : Nat) (hn : n < 4294967296) (op : Int) (ho : P.code_Opcode.f (n : Int) = some op) (hs : P.inst_Shape.f op = some 2) : Ev (fun k => P.code_Decode.f k (n : Int)) (if okT n 2 = true then r11 (ofT n op 0 2) 0 else r11 zero10 11) := by
 have b0 : fdN n (0, 5) < 32 := fd_lt n (0, 5)
 have q0 : P.fld (n : Int) 0 5 = ((fdN n (0, 5) : Nat) : Int) := fld_ok n 0 5 hn (by decide) (by decide) (by decide)
 have b1 : fdN n (5, 5) < 32 := fd_lt n (5, 5)
 have q1 : P.fld (n : Int) 5 5 = ((fdN n (5, 5) : Nat) : Int) := fld_ok n 5 5 hn (by decide) (by decide) (by decide)
 have b2 : fdN n (10, 12) < 4096 := fd_lt n (10, 12)
 have q2 : P.fld (n : Int) 10 12 = ((fdN n (10, 12) : Nat) : Int) := fld_ok n 10 12 hn (by decide) (by decide) (by decide)
 have b3 : fdN n (22, 1) < 2 := fd_lt n (22, 1)
 have q3 : P.fld (n : Int) 22 1 = ((fdN n (22, 1) : Nat) : Int) := fld_ok n 22 1 hn (by decide) (by decide) (by decide)
 have ew : wrap64 (P.fld (n : Int) 22 1 * 12) = 12 * ((fdN n (22, 1) : Nat) : Int) := by rw [q3, wrap64_small _ (by omega) (by omega), Int.mul_comm]
 have hr : ∀ k, P.code_read.of k (n : Int) op 2 = some (ofT n op 0 2) := fun k => by
  have : P.code_read.of k (n : Int) op 2 = some (op, P.fld (n : Int) 0 5, P.fld (n : Int) 5 5, 0, 0, P.fld (n : Int) 10 12, 0, 0, wrap64 (P.fld (n : Int) 22 1 * 12), 0) := rfl
  rw [this, ew, q0, q1, q2]
  rfl
 have hnum : Ev (fun k => P.inst_number.f k 2 ((fdN n (10, 12)) : Int)) true := Ev.of (fun k => P.inst_number.mono _ _ k) (k := 9) (by rw [num_2, within_ok ((fdN n (10, 12)) : Int) _ _ 1 ((fdN n (10, 12)) : Int) (by decide) (by omega) (by omega) (by omega)]; rfl)
 have hI := pis_ev op 2 ((fdN n (0, 5)) : Int) ((fdN n (5, 5)) : Int) 0 0 (((fdN n (10, 12)) : Int)) 0 (12 * ((fdN n (22, 1)) : Int)) 0 true true false false true true hs (by decide) (by decide) (Ev.of (fun k => P.inst_has.mono _ k) (k := 9) rfl) (preg_has (fdN n (0, 5)) (by omega)) (preg_has (fdN n (5, 5)) (by omega)) rfl rfl hnum (by show (P.inst_within.f (12 * ((fdN n (22, 1)) : Int)) 0 12 12).bind _ = _; rw [within_ok _ 0 12 12 ((fdN n (22, 1)) : Int) (by decide) (by omega) (by omega) rfl]; rfl) rfl
 have eb : (true && true) = okT n 2 := rfl
 rw [eb] at hI
 exact pdec_go n op 2 _ _ ho hs (by decide) (by decide) hr hI
theorem pdec_4 (n : Nat) (hn : n < 4294967296) (op : Int) (ho : P.code_Opcode.f (n : Int) = some op) (hs : P.inst_Shape.f op = some 4) : Ev (fun k => P.code_Decode.f k (n : Int)) (if okT n 4 = true then r11 (ofT n op 0 4) 0 else r11 zero10 11) := by
 have b0 : fdN n (0, 5) < 32 := fd_lt n (0, 5)
 have q0 : P.fld (n : Int) 0 5 = ((fdN n (0, 5) : Nat) : Int) := fld_ok n 0 5 hn (by decide) (by decide) (by decide)
 have b1 : fdN n (5, 5) < 32 := fd_lt n (5, 5)
 have q1 : P.fld (n : Int) 5 5 = ((fdN n (5, 5) : Nat) : Int) := fld_ok n 5 5 hn (by decide) (by decide) (by decide)
 have b2 : fdN n (10, 6) < 64 := fd_lt n (10, 6)
 have q2 : P.fld (n : Int) 10 6 = ((fdN n (10, 6) : Nat) : Int) := fld_ok n 10 6 hn (by decide) (by decide) (by decide)
 have b3 : fdN n (16, 5) < 32 := fd_lt n (16, 5)
 have q3 : P.fld (n : Int) 16 5 = ((fdN n (16, 5) : Nat) : Int) := fld_ok n 16 5 hn (by decide) (by decide) (by decide)
 have b4 : fdN n (22, 2) < 4 := fd_lt n (22, 2)
 have q4 : P.fld (n : Int) 22 2 = ((fdN n (22, 2) : Nat) : Int) := fld_ok n 22 2 hn (by decide) (by decide) (by decide)
 have hr : ∀ k, P.code_read.of k (n : Int) op 4 = some (ofT n op 0 4) := fun k => by
  have : P.code_read.of k (n : Int) op 4 = some (op, P.fld (n : Int) 0 5, P.fld (n : Int) 5 5, P.fld (n : Int) 16 5, 0, 0, 0, P.fld (n : Int) 22 2, P.fld (n : Int) 10 6, 0) := rfl
  rw [this, q0, q1, q2, q3, q4]
  rfl
 have hnum : Ev (fun k => P.inst_number.f k 4 0) true := Ev.of (fun k => P.inst_number.mono _ _ k) (k := 9) rfl
 have hI := pis_ev op 4 ((fdN n (0, 5)) : Int) ((fdN n (5, 5)) : Int) ((fdN n (16, 5)) : Int) 0 (0) ((fdN n (22, 2)) : Int) ((fdN n (10, 6)) : Int) 0 true true true false (decide (((fdN n (22, 2)) : Int) ≤ 2)) true hs (by decide) (by decide) (Ev.of (fun k => P.inst_has.mono _ k) (k := 9) rfl) (preg_has (fdN n (0, 5)) (by omega)) (preg_has (fdN n (5, 5)) (by omega)) (preg_has (fdN n (16, 5)) (by omega)) rfl hnum (by
  have h1 := within_dec ((fdN n (22, 2)) : Int) 2 (Int.natCast_nonneg _)
  have h2 := within_dec ((fdN n (10, 6)) : Int) 63 (Int.natCast_nonneg _)
  rw [dT_ (show ((fdN n (10, 6)) : Int) ≤ 63 from Int.ofNat_le.mpr (Nat.le_of_lt_succ b2))] at h2
  show (P.inst_within.f ((fdN n (22, 2)) : Int) 0 2 1).bind _ = _
  rw [h1, Option.bind_some]
  cases decide (((fdN n (22, 2)) : Int) ≤ 2)
  ·rfl
  show (P.inst_within.f ((fdN n (10, 6)) : Int) 0 63 1).bind _ = _
  rw [h2]
  rfl) rfl
 have eb : ((decide (((fdN n (22, 2)) : Int) ≤ 2)) && true) = okT n 4 := by
  show _ = decide (fdN n (22, 2) ≤ 2)
  rw [Bool.and_true, Bool.eq_iff_iff, decide_eq_true_iff, decide_eq_true_iff]
  exact Int.ofNat_le
 rw [eb] at hI
 exact pdec_go n op 4 _ _ ho hs (by decide) (by decide) hr hI
theorem pdec_5 (n : Nat) (hn : n < 4294967296) (op : Int) (ho : P.code_Opcode.f (n : Int) = some op) (hs : P.inst_Shape.f op = some 5) : Ev (fun k => P.code_Decode.f k (n : Int)) (if okT n 5 = true then r11 (ofT n op 0 5) 0 else r11 zero10 11) := by
 have b0 : fdN n (0, 5) < 32 := fd_lt n (0, 5)
 have q0 : P.fld (n : Int) 0 5 = ((fdN n (0, 5) : Nat) : Int) := fld_ok n 0 5 hn (by decide) (by decide) (by decide)
 have b1 : fdN n (5, 5) < 32 := fd_lt n (5, 5)
 have q1 : P.fld (n : Int) 5 5 = ((fdN n (5, 5) : Nat) : Int) := fld_ok n 5 5 hn (by decide) (by decide) (by decide)
 have b2 : fdN n (10, 6) < 64 := fd_lt n (10, 6)
 have q2 : P.fld (n : Int) 10 6 = ((fdN n (10, 6) : Nat) : Int) := fld_ok n 10 6 hn (by decide) (by decide) (by decide)
 have b3 : fdN n (16, 5) < 32 := fd_lt n (16, 5)
 have q3 : P.fld (n : Int) 16 5 = ((fdN n (16, 5) : Nat) : Int) := fld_ok n 16 5 hn (by decide) (by decide) (by decide)
 have b4 : fdN n (22, 2) < 4 := fd_lt n (22, 2)
 have q4 : P.fld (n : Int) 22 2 = ((fdN n (22, 2) : Nat) : Int) := fld_ok n 22 2 hn (by decide) (by decide) (by decide)
 have hr : ∀ k, P.code_read.of k (n : Int) op 5 = some (ofT n op 0 5) := fun k => by
  have : P.code_read.of k (n : Int) op 5 = some (op, P.fld (n : Int) 0 5, P.fld (n : Int) 5 5, P.fld (n : Int) 16 5, 0, 0, 0, P.fld (n : Int) 22 2, P.fld (n : Int) 10 6, 0) := rfl
  rw [this, q0, q1, q2, q3, q4]
  rfl
 have hnum : Ev (fun k => P.inst_number.f k 5 0) true := Ev.of (fun k => P.inst_number.mono _ _ k) (k := 9) rfl
 have hI := pis_ev op 5 ((fdN n (0, 5)) : Int) ((fdN n (5, 5)) : Int) ((fdN n (16, 5)) : Int) 0 (0) ((fdN n (22, 2)) : Int) ((fdN n (10, 6)) : Int) 0 true true true false (decide (((fdN n (22, 2)) : Int) ≤ 3)) true hs (by decide) (by decide) (Ev.of (fun k => P.inst_has.mono _ k) (k := 9) rfl) (preg_has (fdN n (0, 5)) (by omega)) (preg_has (fdN n (5, 5)) (by omega)) (preg_has (fdN n (16, 5)) (by omega)) rfl hnum (by
  have h1 := within_dec ((fdN n (22, 2)) : Int) 3 (Int.natCast_nonneg _)
  have h2 := within_dec ((fdN n (10, 6)) : Int) 63 (Int.natCast_nonneg _)
  rw [dT_ (show ((fdN n (10, 6)) : Int) ≤ 63 from Int.ofNat_le.mpr (Nat.le_of_lt_succ b2))] at h2
  show (P.inst_within.f ((fdN n (22, 2)) : Int) 0 3 1).bind _ = _
  rw [h1, Option.bind_some]
  cases decide (((fdN n (22, 2)) : Int) ≤ 3)
  ·rfl
  show (P.inst_within.f ((fdN n (10, 6)) : Int) 0 63 1).bind _ = _
  rw [h2]
  rfl) rfl
 have eb : ((decide (((fdN n (22, 2)) : Int) ≤ 3)) && true) = okT n 5 := by
  show _ = true
  rw [dT_ (show ((fdN n (22, 2)) : Int) ≤ 3 from Int.ofNat_le.mpr (Nat.le_of_lt_succ b4))]
  rfl
 rw [eb] at hI
 exact pdec_go n op 5 _ _ ho hs (by decide) (by decide) hr hI
theorem pdec_6 (n : Nat) (hn : n < 4294967296) (op : Int) (ho : P.code_Opcode.f (n : Int) = some op) (hs : P.inst_Shape.f op = some 6) : Ev (fun k => P.code_Decode.f k (n : Int)) (if okT n 6 = true then r11 (ofT n op 0 6) 0 else r11 zero10 11) := by
 have b0 : fdN n (0, 5) < 32 := fd_lt n (0, 5)
 have q0 : P.fld (n : Int) 0 5 = ((fdN n (0, 5) : Nat) : Int) := fld_ok n 0 5 hn (by decide) (by decide) (by decide)
 have b1 : fdN n (5, 5) < 32 := fd_lt n (5, 5)
 have q1 : P.fld (n : Int) 5 5 = ((fdN n (5, 5) : Nat) : Int) := fld_ok n 5 5 hn (by decide) (by decide) (by decide)
 have b2 : fdN n (10, 5) < 32 := fd_lt n (10, 5)
 have q2 : P.fld (n : Int) 10 5 = ((fdN n (10, 5) : Nat) : Int) := fld_ok n 10 5 hn (by decide) (by decide) (by decide)
 have b3 : fdN n (16, 5) < 32 := fd_lt n (16, 5)
 have q3 : P.fld (n : Int) 16 5 = ((fdN n (16, 5) : Nat) : Int) := fld_ok n 16 5 hn (by decide) (by decide) (by decide)
 have hr : ∀ k, P.code_read.of k (n : Int) op 6 = some (ofT n op 0 6) := fun k => by
  have : P.code_read.of k (n : Int) op 6 = some (op, P.fld (n : Int) 0 5, P.fld (n : Int) 5 5, P.fld (n : Int) 16 5, P.fld (n : Int) 10 5, 0, 0, 0, 0, 0) := rfl
  rw [this, q0, q1, q2, q3]
  rfl
 have hnum : Ev (fun k => P.inst_number.f k 6 0) true := Ev.of (fun k => P.inst_number.mono _ _ k) (k := 9) rfl
 have hI := pis_ev op 6 ((fdN n (0, 5)) : Int) ((fdN n (5, 5)) : Int) ((fdN n (16, 5)) : Int) ((fdN n (10, 5)) : Int) (0) 0 0 0 true true true true true true hs (by decide) (by decide) (Ev.of (fun k => P.inst_has.mono _ k) (k := 9) rfl) (preg_has (fdN n (0, 5)) (by omega)) (preg_has (fdN n (5, 5)) (by omega)) (preg_has (fdN n (16, 5)) (by omega)) (preg_has (fdN n (10, 5)) (by omega)) hnum rfl rfl
 have eb : (true && true) = okT n 6 := rfl
 rw [eb] at hI
 exact pdec_go n op 6 _ _ ho hs (by decide) (by decide) hr hI
theorem pdec_7 (n : Nat) (hn : n < 4294967296) (op : Int) (ho : P.code_Opcode.f (n : Int) = some op) (hs : P.inst_Shape.f op = some 7) : Ev (fun k => P.code_Decode.f k (n : Int)) (if okT n 7 = true then r11 (ofT n op 0 7) 0 else r11 zero10 11) := by
 have b0 : fdN n (0, 5) < 32 := fd_lt n (0, 5)
 have q0 : P.fld (n : Int) 0 5 = ((fdN n (0, 5) : Nat) : Int) := fld_ok n 0 5 hn (by decide) (by decide) (by decide)
 have b1 : fdN n (5, 5) < 32 := fd_lt n (5, 5)
 have q1 : P.fld (n : Int) 5 5 = ((fdN n (5, 5) : Nat) : Int) := fld_ok n 5 5 hn (by decide) (by decide) (by decide)
 have b2 : fdN n (10, 12) < 4096 := fd_lt n (10, 12)
 have q2 : P.fld (n : Int) 10 12 = ((fdN n (10, 12) : Nat) : Int) := fld_ok n 10 12 hn (by decide) (by decide) (by decide)
 have ew : wrap64 (P.fld (n : Int) 10 12 * 8) = 8 * ((fdN n (10, 12) : Nat) : Int) := by rw [q2, wrap64_small _ (by omega) (by omega), Int.mul_comm]
 have hr : ∀ k, P.code_read.of k (n : Int) op 7 = some (ofT n op 0 7) := fun k => by
  have : P.code_read.of k (n : Int) op 7 = some (op, P.fld (n : Int) 0 5, P.fld (n : Int) 5 5, 0, 0, wrap64 (P.fld (n : Int) 10 12 * 8), 0, 0, 0, 0) := rfl
  rw [this, ew, q0, q1]
  rfl
 have hnum : Ev (fun k => P.inst_number.f k 7 (8 * ((fdN n (10, 12)) : Int))) true := Ev.of (fun k => P.inst_number.mono _ _ k) (k := 9) (by rw [num_7, within_ok (8 * ((fdN n (10, 12)) : Int)) _ _ 8 ((fdN n (10, 12)) : Int) (by decide) (by omega) (by omega) (by omega)]; rfl)
 have hI := pis_ev op 7 ((fdN n (0, 5)) : Int) ((fdN n (5, 5)) : Int) 0 0 ((8 * ((fdN n (10, 12)) : Int))) 0 0 0 true true false false true true hs (by decide) (by decide) (Ev.of (fun k => P.inst_has.mono _ k) (k := 9) rfl) (preg_has (fdN n (0, 5)) (by omega)) (preg_has (fdN n (5, 5)) (by omega)) rfl rfl hnum rfl rfl
 have eb : (true && true) = okT n 7 := rfl
 rw [eb] at hI
 exact pdec_go n op 7 _ _ ho hs (by decide) (by decide) hr hI
theorem pdec_8 (n : Nat) (hn : n < 4294967296) (op : Int) (ho : P.code_Opcode.f (n : Int) = some op) (hs : P.inst_Shape.f op = some 8) : Ev (fun k => P.code_Decode.f k (n : Int)) (if okT n 8 = true then r11 (ofT n op 0 8) 0 else r11 zero10 11) := by
 have b0 : fdN n (0, 5) < 32 := fd_lt n (0, 5)
 have q0 : P.fld (n : Int) 0 5 = ((fdN n (0, 5) : Nat) : Int) := fld_ok n 0 5 hn (by decide) (by decide) (by decide)
 have b1 : fdN n (5, 5) < 32 := fd_lt n (5, 5)
 have q1 : P.fld (n : Int) 5 5 = ((fdN n (5, 5) : Nat) : Int) := fld_ok n 5 5 hn (by decide) (by decide) (by decide)
 have b2 : fdN n (10, 12) < 4096 := fd_lt n (10, 12)
 have q2 : P.fld (n : Int) 10 12 = ((fdN n (10, 12) : Nat) : Int) := fld_ok n 10 12 hn (by decide) (by decide) (by decide)
 have hr : ∀ k, P.code_read.of k (n : Int) op 8 = some (ofT n op 0 8) := fun k => by
  have : P.code_read.of k (n : Int) op 8 = some (op, P.fld (n : Int) 0 5, P.fld (n : Int) 5 5, 0, 0, P.fld (n : Int) 10 12, 0, 0, 0, 0) := rfl
  rw [this, q0, q1, q2]
  rfl
 have hnum : Ev (fun k => P.inst_number.f k 8 ((fdN n (10, 12)) : Int)) true := Ev.of (fun k => P.inst_number.mono _ _ k) (k := 9) (by rw [num_8, within_ok ((fdN n (10, 12)) : Int) _ _ 1 ((fdN n (10, 12)) : Int) (by decide) (by omega) (by omega) (by omega)]; rfl)
 have hI := pis_ev op 8 ((fdN n (0, 5)) : Int) ((fdN n (5, 5)) : Int) 0 0 (((fdN n (10, 12)) : Int)) 0 0 0 true true false false true true hs (by decide) (by decide) (Ev.of (fun k => P.inst_has.mono _ k) (k := 9) rfl) (preg_has (fdN n (0, 5)) (by omega)) (preg_has (fdN n (5, 5)) (by omega)) rfl rfl hnum rfl rfl
 have eb : (true && true) = okT n 8 := rfl
 rw [eb] at hI
 exact pdec_go n op 8 _ _ ho hs (by decide) (by decide) hr hI
theorem pdec_9 (n : Nat) (hn : n < 4294967296) (op : Int) (ho : P.code_Opcode.f (n : Int) = some op) (hs : P.inst_Shape.f op = some 9) : Ev (fun k => P.code_Decode.f k (n : Int)) (if okT n 9 = true then r11 (ofT n op 0 9) 0 else r11 zero10 11) := by
 have b0 : fdN n (0, 5) < 32 := fd_lt n (0, 5)
 have q0 : P.fld (n : Int) 0 5 = ((fdN n (0, 5) : Nat) : Int) := fld_ok n 0 5 hn (by decide) (by decide) (by decide)
 have b1 : fdN n (5, 19) < 524288 := fd_lt n (5, 19)
 have q1 : P.fld (n : Int) 5 19 = ((fdN n (5, 19) : Nat) : Int) := fld_ok n 5 19 hn (by decide) (by decide) (by decide)
 have q9 : P.sfl (n : Int) 5 19 = sgn 19 (fdN n (5, 19)) := sfl_ok n 5 19 hn (by decide) (by decide) (by decide)
 have hr : ∀ k, P.code_read.of k (n : Int) op 9 = some (ofT n op 0 9) := fun k => by
  have : P.code_read.of k (n : Int) op 9 = some (op, P.fld (n : Int) 0 5, 0, 0, 0, wrap64 (P.sfl (n : Int) 5 19 * 4), 0, 0, 0, 0) := rfl
  rw [this, q9, Int.mul_comm, q0]
  rfl
 have hsg := sgn19 (fdN n (5, 19)) b1
 have ew2 : wrap64 (4 * sgn 19 (fdN n (5, 19))) = 4 * sgn 19 (fdN n (5, 19)) := wrap64_small _ (by omega) (by omega)
 have hnum : Ev (fun k => P.inst_number.f k 9 (wrap64 (4 * sgn 19 (fdN n (5, 19))))) true := Ev.of (fun k => P.inst_number.mono _ _ k) (k := 9) (by rw [ew2, num_9, within_ok (4 * sgn 19 (fdN n (5, 19))) _ _ 4 (sgn 19 (fdN n (5, 19))) (by decide) (by omega) (by omega) rfl]; rfl)
 have hI := pis_ev op 9 ((fdN n (0, 5)) : Int) 0 0 0 ((wrap64 (4 * sgn 19 (fdN n (5, 19))))) 0 0 0 true false false false true true hs (by decide) (by decide) (Ev.of (fun k => P.inst_has.mono _ k) (k := 9) rfl) (preg_has (fdN n (0, 5)) (by omega)) rfl rfl rfl hnum rfl rfl
 have eb : (true && true) = okT n 9 := rfl
 rw [eb] at hI
 exact pdec_go n op 9 _ _ ho hs (by decide) (by decide) hr hI
theorem pdec_10 (n : Nat) (hn : n < 4294967296) (op : Int) (ho : P.code_Opcode.f (n : Int) = some op) (hs : P.inst_Shape.f op = some 10) : Ev (fun k => P.code_Decode.f k (n : Int)) (if okT n 10 = true then r11 (ofT n op 0 10) 0 else r11 zero10 11) := by
 have b0 : fdN n (0, 5) < 32 := fd_lt n (0, 5)
 have q0 : P.fld (n : Int) 0 5 = ((fdN n (0, 5) : Nat) : Int) := fld_ok n 0 5 hn (by decide) (by decide) (by decide)
 have b1 : fdN n (5, 19) < 524288 := fd_lt n (5, 19)
 have q1 : P.fld (n : Int) 5 19 = ((fdN n (5, 19) : Nat) : Int) := fld_ok n 5 19 hn (by decide) (by decide) (by decide)
 have b2 : fdN n (29, 2) < 4 := fd_lt n (29, 2)
 have q2 : P.fld (n : Int) 29 2 = ((fdN n (29, 2) : Nat) : Int) := fld_ok n 29 2 hn (by decide) (by decide) (by decide)
 have e4 : wrap64 (P.fld (n : Int) 5 19 * 4) = ((2 ^ 2 * fdN n (5, 19) : Nat) : Int) := by rw [q1, wrap64_small _ (by omega) (by omega)]; omega
 have e5 : (Go.bits .or .i64 (wrap64 (P.fld (n : Int) 5 19 * 4)) (P.fld (n : Int) 29 2)) % 4294967296 = ((4 * fdN n (5, 19) + fdN n (29, 2) : Nat) : Int) := by
  rw [e4, q2, or64_r _ _ (by omega) (by omega), Nat.or_comm, or_add 2 _ _ b2]
  omega
 have e6 : P.bits_Signed.f 1 ((4 * fdN n (5, 19) + fdN n (29, 2) : Nat) : Int) 21 = some (sgn 21 (4 * fdN n (5, 19) + fdN n (29, 2)), 0) := signed_ok (4 * fdN n (5, 19) + fdN n (29, 2)) 21 (by decide) (by decide) (by show _ < 2097152; omega)
 have hr : ∀ k, P.code_read.of k (n : Int) op 10 = some (ofT n op 0 10) := fun k => by
  have : P.code_read.of k (n : Int) op 10 = (P.bits_Signed.f 1 ((Go.bits .or .i64 (wrap64 (P.fld (n : Int) 5 19 * 4)) (P.fld (n : Int) 29 2)) % 4294967296) 21).bind fun t => some (op, P.fld (n : Int) 0 5, 0, 0, 0, t.1, 0, 0, 0, 0) := rfl
  rw [this, e5, e6, q0]
  rfl
 have hsg := sgn21 (4 * (fdN n (5, 19)) + (fdN n (29, 2))) (by omega)
 have hnum : Ev (fun k => P.inst_number.f k 10 (sgn 21 (4 * (fdN n (5, 19)) + (fdN n (29, 2))))) true := Ev.of (fun k => P.inst_number.mono _ _ k) (k := 9) (by rw [num_10, within_ok (sgn 21 (4 * (fdN n (5, 19)) + (fdN n (29, 2)))) _ _ 1 (sgn 21 (4 * (fdN n (5, 19)) + (fdN n (29, 2)))) (by decide) (by omega) (by omega) (by omega)]; rfl)
 have hI := pis_ev op 10 ((fdN n (0, 5)) : Int) 0 0 0 ((sgn 21 (4 * (fdN n (5, 19)) + (fdN n (29, 2))))) 0 0 0 true false false false true true hs (by decide) (by decide) (Ev.of (fun k => P.inst_has.mono _ k) (k := 9) rfl) (preg_has (fdN n (0, 5)) (by omega)) rfl rfl rfl hnum rfl rfl
 have eb : (true && true) = okT n 10 := rfl
 rw [eb] at hI
 exact pdec_go n op 10 _ _ ho hs (by decide) (by decide) hr hI
theorem pdec_11 (n : Nat) (hn : n < 4294967296) (op : Int) (ho : P.code_Opcode.f (n : Int) = some op) (hs : P.inst_Shape.f op = some 11) : Ev (fun k => P.code_Decode.f k (n : Int)) (if okT n 11 = true then r11 (ofT n op 0 11) 0 else r11 zero10 11) := by
 have b0 : fdN n (0, 26) < 67108864 := fd_lt n (0, 26)
 have q0 : P.fld (n : Int) 0 26 = ((fdN n (0, 26) : Nat) : Int) := fld_ok n 0 26 hn (by decide) (by decide) (by decide)
 have q9 : P.sfl (n : Int) 0 26 = sgn 26 (fdN n (0, 26)) := sfl_ok n 0 26 hn (by decide) (by decide) (by decide)
 have hr : ∀ k, P.code_read.of k (n : Int) op 11 = some (ofT n op 0 11) := fun k => by
  have : P.code_read.of k (n : Int) op 11 = some (op, 0, 0, 0, 0, wrap64 (P.sfl (n : Int) 0 26 * 4), 0, 0, 0, 0) := rfl
  rw [this, q9, Int.mul_comm]
  rfl
 have hsg := sgn26 (fdN n (0, 26)) b0
 have ew2 : wrap64 (4 * sgn 26 (fdN n (0, 26))) = 4 * sgn 26 (fdN n (0, 26)) := wrap64_small _ (by omega) (by omega)
 have hnum : Ev (fun k => P.inst_number.f k 11 (wrap64 (4 * sgn 26 (fdN n (0, 26))))) true := Ev.of (fun k => P.inst_number.mono _ _ k) (k := 9) (by rw [ew2, num_11, within_ok (4 * sgn 26 (fdN n (0, 26))) _ _ 4 (sgn 26 (fdN n (0, 26))) (by decide) (by omega) (by omega) rfl]; rfl)
 have hI := pis_ev op 11 0 0 0 0 ((wrap64 (4 * sgn 26 (fdN n (0, 26))))) 0 0 0 false false false false true true hs (by decide) (by decide) (Ev.of (fun k => P.inst_has.mono _ k) (k := 9) rfl) rfl rfl rfl rfl hnum rfl rfl
 have eb : (true && true) = okT n 11 := rfl
 rw [eb] at hI
 exact pdec_go n op 11 _ _ ho hs (by decide) (by decide) hr hI
theorem pdec_12 (n : Nat) (hn : n < 4294967296) (op : Int) (ho : P.code_Opcode.f (n : Int) = some op) (hs : P.inst_Shape.f op = some 12) : Ev (fun k => P.code_Decode.f k (n : Int)) (if okT n 12 = true then r11 (ofT n op 0 12) 0 else r11 zero10 11) := by
 have b0 : fdN n (0, 4) < 16 := fd_lt n (0, 4)
 have q0 : P.fld (n : Int) 0 4 = ((fdN n (0, 4) : Nat) : Int) := fld_ok n 0 4 hn (by decide) (by decide) (by decide)
 have b1 : fdN n (5, 19) < 524288 := fd_lt n (5, 19)
 have q1 : P.fld (n : Int) 5 19 = ((fdN n (5, 19) : Nat) : Int) := fld_ok n 5 19 hn (by decide) (by decide) (by decide)
 have q9 : P.sfl (n : Int) 5 19 = sgn 19 (fdN n (5, 19)) := sfl_ok n 5 19 hn (by decide) (by decide) (by decide)
 have hr : ∀ k, P.code_read.of k (n : Int) op 12 = some (ofT n op 0 12) := fun k => by
  have : P.code_read.of k (n : Int) op 12 = some (op, 0, 0, 0, 0, wrap64 (P.sfl (n : Int) 5 19 * 4), 0, 0, 0, P.fld (n : Int) 0 4) := rfl
  rw [this, q9, Int.mul_comm, q0]
  rfl
 have hsg := sgn19 (fdN n (5, 19)) b1
 have ew2 : wrap64 (4 * sgn 19 (fdN n (5, 19))) = 4 * sgn 19 (fdN n (5, 19)) := wrap64_small _ (by omega) (by omega)
 have hnum : Ev (fun k => P.inst_number.f k 12 (wrap64 (4 * sgn 19 (fdN n (5, 19))))) true := Ev.of (fun k => P.inst_number.mono _ _ k) (k := 9) (by rw [ew2, num_12, within_ok (4 * sgn 19 (fdN n (5, 19))) _ _ 4 (sgn 19 (fdN n (5, 19))) (by decide) (by omega) (by omega) rfl]; rfl)
 have hI := pis_ev op 12 0 0 0 0 ((wrap64 (4 * sgn 19 (fdN n (5, 19))))) 0 0 ((fdN n (0, 4)) : Int) false false false false true (decide (((fdN n (0, 4)) : Int) ≤ 13)) hs (by decide) (by decide) (Ev.of (fun k => P.inst_has.mono _ k) (k := 9) rfl) rfl rfl rfl rfl hnum rfl (by show (P.inst_within.f ((fdN n (0, 4)) : Int) 0 13 1).bind _ = _; rw [within_dec _ 13 (Int.natCast_nonneg _)]; rfl)
 have eb : (true && (decide (((fdN n (0, 4)) : Int) ≤ 13))) = okT n 12 := by
  show _ = decide (fdN n (0, 4) ≤ 13)
  rw [Bool.true_and, Bool.eq_iff_iff, decide_eq_true_iff, decide_eq_true_iff]
  exact Int.ofNat_le
 rw [eb] at hI
 exact pdec_go n op 12 _ _ ho hs (by decide) (by decide) hr hI
theorem pdec_13 (n : Nat) (hn : n < 4294967296) (op : Int) (ho : P.code_Opcode.f (n : Int) = some op) (hs : P.inst_Shape.f op = some 13) : Ev (fun k => P.code_Decode.f k (n : Int)) (if okT n 13 = true then r11 (ofT n op 0 13) 0 else r11 zero10 11) := by
 have b0 : fdN n (5, 5) < 32 := fd_lt n (5, 5)
 have q0 : P.fld (n : Int) 5 5 = ((fdN n (5, 5) : Nat) : Int) := fld_ok n 5 5 hn (by decide) (by decide) (by decide)
 have hr : ∀ k, P.code_read.of k (n : Int) op 13 = some (ofT n op 0 13) := fun k => by
  have : P.code_read.of k (n : Int) op 13 = some (op, 0, P.fld (n : Int) 5 5, 0, 0, 0, 0, 0, 0, 0) := rfl
  rw [this, q0]
  rfl
 have hnum : Ev (fun k => P.inst_number.f k 13 0) true := Ev.of (fun k => P.inst_number.mono _ _ k) (k := 9) rfl
 have hI := pis_ev op 13 0 ((fdN n (5, 5)) : Int) 0 0 (0) 0 0 0 false true false false true true hs (by decide) (by decide) (Ev.of (fun k => P.inst_has.mono _ k) (k := 9) rfl) rfl (preg_has (fdN n (5, 5)) (by omega)) rfl rfl hnum rfl rfl
 have eb : (true && true) = okT n 13 := rfl
 rw [eb] at hI
 exact pdec_go n op 13 _ _ ho hs (by decide) (by decide) hr hI
theorem pdec_14 (n : Nat) (hn : n < 4294967296) (op : Int) (ho : P.code_Opcode.f (n : Int) = some op) (hs : P.inst_Shape.f op = some 14) : Ev (fun k => P.code_Decode.f k (n : Int)) (if okT n 14 = true then r11 (ofT n op 0 14) 0 else r11 zero10 11) := by
 have b0 : fdN n (5, 16) < 65536 := fd_lt n (5, 16)
 have q0 : P.fld (n : Int) 5 16 = ((fdN n (5, 16) : Nat) : Int) := fld_ok n 5 16 hn (by decide) (by decide) (by decide)
 have hr : ∀ k, P.code_read.of k (n : Int) op 14 = some (ofT n op 0 14) := fun k => by
  have : P.code_read.of k (n : Int) op 14 = some (op, 0, 0, 0, 0, P.fld (n : Int) 5 16, 0, 0, 0, 0) := rfl
  rw [this, q0]
  rfl
 have hnum : Ev (fun k => P.inst_number.f k 14 ((fdN n (5, 16)) : Int)) true := Ev.of (fun k => P.inst_number.mono _ _ k) (k := 9) (by rw [num_14, within_ok ((fdN n (5, 16)) : Int) _ _ 1 ((fdN n (5, 16)) : Int) (by decide) (by omega) (by omega) (by omega)]; rfl)
 have hI := pis_ev op 14 0 0 0 0 (((fdN n (5, 16)) : Int)) 0 0 0 false false false false true true hs (by decide) (by decide) (Ev.of (fun k => P.inst_has.mono _ k) (k := 9) rfl) rfl rfl rfl rfl hnum rfl rfl
 have eb : (true && true) = okT n 14 := rfl
 rw [eb] at hI
 exact pdec_go n op 14 _ _ ho hs (by decide) (by decide) hr hI
theorem pdec_15 (n : Nat) (hn : n < 4294967296) (op : Int) (ho : P.code_Opcode.f (n : Int) = some op) (hs : P.inst_Shape.f op = some 15) : Ev (fun k => P.code_Decode.f k (n : Int)) (if okT n 15 = true then r11 (ofT n op 0 15) 0 else r11 zero10 11) := by
 have hr : ∀ k, P.code_read.of k (n : Int) op 15 = some (ofT n op 0 15) := fun k => by
  have : P.code_read.of k (n : Int) op 15 = some (op, 0, 0, 0, 0, 0, 0, 0, 0, 0) := rfl
  rw [this]
  rfl
 have hnum : Ev (fun k => P.inst_number.f k 15 0) true := Ev.of (fun k => P.inst_number.mono _ _ k) (k := 9) rfl
 have hI := pis_ev op 15 0 0 0 0 (0) 0 0 0 false false false false true true hs (by decide) (by decide) (Ev.of (fun k => P.inst_has.mono _ k) (k := 9) rfl) rfl rfl rfl rfl hnum rfl rfl
 have eb : (true && true) = okT n 15 := rfl
 rw [eb] at hI
 exact pdec_go n op 15 _ _ ho hs (by decide) (by decide) hr hI
theorem pdec_16 (n : Nat) (hn : n < 4294967296) (op : Int) (ho : P.code_Opcode.f (n : Int) = some op) (hs : P.inst_Shape.f op = some 16) : Ev (fun k => P.code_Decode.f k (n : Int)) (if okT n 16 = true then r11 (ofT n op 0 16) 0 else r11 zero10 11) := by
 have b0 : fdN n (0, 5) < 32 := fd_lt n (0, 5)
 have q0 : P.fld (n : Int) 0 5 = ((fdN n (0, 5) : Nat) : Int) := fld_ok n 0 5 hn (by decide) (by decide) (by decide)
 have b1 : fdN n (5, 5) < 32 := fd_lt n (5, 5)
 have q1 : P.fld (n : Int) 5 5 = ((fdN n (5, 5) : Nat) : Int) := fld_ok n 5 5 hn (by decide) (by decide) (by decide)
 have b2 : fdN n (12, 4) < 16 := fd_lt n (12, 4)
 have q2 : P.fld (n : Int) 12 4 = ((fdN n (12, 4) : Nat) : Int) := fld_ok n 12 4 hn (by decide) (by decide) (by decide)
 have b3 : fdN n (16, 5) < 32 := fd_lt n (16, 5)
 have q3 : P.fld (n : Int) 16 5 = ((fdN n (16, 5) : Nat) : Int) := fld_ok n 16 5 hn (by decide) (by decide) (by decide)
 have hr : ∀ k, P.code_read.of k (n : Int) op 16 = some (ofT n op 0 16) := fun k => by
  have : P.code_read.of k (n : Int) op 16 = some (op, P.fld (n : Int) 0 5, P.fld (n : Int) 5 5, P.fld (n : Int) 16 5, 0, 0, 0, 0, 0, P.fld (n : Int) 12 4) := rfl
  rw [this, q0, q1, q2, q3]
  rfl
 have hnum : Ev (fun k => P.inst_number.f k 16 0) true := Ev.of (fun k => P.inst_number.mono _ _ k) (k := 9) rfl
 have hI := pis_ev op 16 ((fdN n (0, 5)) : Int) ((fdN n (5, 5)) : Int) ((fdN n (16, 5)) : Int) 0 (0) 0 0 ((fdN n (12, 4)) : Int) true true true false true (decide (((fdN n (12, 4)) : Int) ≤ 13)) hs (by decide) (by decide) (Ev.of (fun k => P.inst_has.mono _ k) (k := 9) rfl) (preg_has (fdN n (0, 5)) (by omega)) (preg_has (fdN n (5, 5)) (by omega)) (preg_has (fdN n (16, 5)) (by omega)) rfl hnum rfl (by show (P.inst_within.f ((fdN n (12, 4)) : Int) 0 13 1).bind _ = _; rw [within_dec _ 13 (Int.natCast_nonneg _)]; rfl)
 have eb : (true && (decide (((fdN n (12, 4)) : Int) ≤ 13))) = okT n 16 := by
  show _ = decide (fdN n (12, 4) ≤ 13)
  rw [Bool.true_and, Bool.eq_iff_iff, decide_eq_true_iff, decide_eq_true_iff]
  exact Int.ofNat_le
 rw [eb] at hI
 exact pdec_go n op 16 _ _ ho hs (by decide) (by decide) hr hI
theorem pdec_any (n : Nat) (hn : n < 4294967296) (op : Int) (ho : P.code_Opcode.f (n : Int) = some op) : ∀ s : Nat, 1 ≤ s → s ≤ 16 → s ≠ 3 → P.inst_Shape.f op = some (s : Int) → Ev (fun k => P.code_Decode.f k (n : Int)) (if okT n s = true then r11 (ofT n op 0 s) 0 else r11 zero10 11)
 | 1, _, _, _, hs => pdec_1 n hn op ho hs
 | 2, _, _, _, hs => pdec_2 n hn op ho hs
 | 3, _, _, h, _ => absurd rfl h
 | 4, _, _, _, hs => pdec_4 n hn op ho hs
 | 5, _, _, _, hs => pdec_5 n hn op ho hs
 | 6, _, _, _, hs => pdec_6 n hn op ho hs
 | 7, _, _, _, hs => pdec_7 n hn op ho hs
 | 8, _, _, _, hs => pdec_8 n hn op ho hs
 | 9, _, _, _, hs => pdec_9 n hn op ho hs
 | 10, _, _, _, hs => pdec_10 n hn op ho hs
 | 11, _, _, _, hs => pdec_11 n hn op ho hs
 | 12, _, _, _, hs => pdec_12 n hn op ho hs
 | 13, _, _, _, hs => pdec_13 n hn op ho hs
 | 14, _, _, _, hs => pdec_14 n hn op ho hs
 | 15, _, _, _, hs => pdec_15 n hn op ho hs
 | 16, _, _, _, hs => pdec_16 n hn op ho hs
 | 0, h, _, _, _ => absurd h (by decide)
 | s + 17, _, h, _, _ => absurd h (by omega)
end Go.Proofs.YtngmipfodjgmmaaGreatDoor.Pure
end
