/- Walks and plain laws of this claim, a part. -/
import Derived.Test.YtngmipfodjgmmaaGreatDoorEs62
import Derived.Test.YtngmipfodjgmmaaGreatDoorEs70
section
namespace Go.Proofs.YtngmipfodjgmmaaGreatDoor.Pure
open Go Go.RowKit Go.Lib Go.Shelf Go.Proofs.YtngmipfodjgmmaaGreatDoorW.PrintWords Go.Proofs.YtngmipfodjgmmaaGreatDoorW.PrintLast Go.Proofs.YtngmipfodjgmmaaGreatDoorW.PrintMore
open P (Glob)
set_option linter.unusedVariables false
set_option linter.unusedSimpArgs false
theorem run_make0 (n : Nat) (hn : n ≤ 100000) (W : World) : (Instr.makeSlice 26 (.int .i64 0) (.int .i64 (n : Int))).run Tryz.prog W = .ok (.slice (some ⟨W.heap.size, 0, none⟩) 0 n) (W.alloc (.cells (madeCells #[.int .i64 0] n) 3)) := by
 obtain ⟨i, hi, hzz⟩ := Option.map_eq_some_iff.1 P.info_int
 simp only [Prod.mk.injEq] at hzz
 obtain ⟨hz, hs, hb⟩ := hzz
 have hr := Go.run_make (P := Tryz.prog) W 26 3 i (.int .i64 0) Tryz.underlying26 hi hz .i64 .i64 0 n (by omega) (by omega) (by rw [hb]; omega) (by omega)
 have hc : (Value.int .i64 0).cells = #[.int .i64 0] := rfl
 simpa [hs, hc] using hr
/-- How many sections stand in the first i objects. -/
def fsN (os : List Ob) : Nat → Nat
 | 0 => 0
 | i + 1 => fsN os i + (obN os i).f0.length
def fsL (os : List Ob) (i : Nat) : List Int := (List.range i).map fun j => (fsN os j : Int)
theorem fsL_succ (os : List Ob) (i : Nat) : fsL os (i + 1) = fsL os i ++ [(fsN os i : Int)] := by
 unfold fsL
 rw [List.range_succ, List.map_append]
 rfl
theorem fsL_len (os : List Ob) (i : Nat) : (fsL os i).length = i := by simp [fsL]
theorem fsN_le {os : List Ob} (hf : FewL os) : ∀ i, i ≤ os.length → fsN os i ≤ 40 * i := by
 intro i
 induction i with
 | zero => intro _; exact Nat.le_refl _
 | succ i ih =>
  intro h
  have := ih (by omega)
  have := (hf.2 i (by omega)).secs
  show fsN os i + (obN os i).f0.length ≤ _
  omega
def FirPost (os : List Ob) (w : World) (e : Ending) (w' : World) : Prop := ∃ A c, e = .returned (.slice A os.length c) ∧ os.length ≤ c ∧ Kd.C (Kd.int .i64) w' A os.length (fsL os os.length) ∧ Below w.heap.size w w'
set_option maxRecDepth 100000 in
set_option maxHeartbeats 4000000 in
theorem firsts_any (w : World) (A : Option Addr) (c : Nat) (os : List Ob) (hos : OA w A os) (hf : FewL os) :
 Calls Tryz.prog 61 #[.slice A os.length c] w (FirPost os w) := by
 have HO := Azz.mk hos
 have HF := Azz.mk hf
 have hol := hf.1
 have hmk := run_make0 os.length (by omega)
 clear hos hf
 go_enter Tryz.func61, Tryz.ntmps61
 go_wp2
 clear hmk
 have hb1 := (Below.refl w.heap.size w).alloc (Nat.le_refl _) (.cells (madeCells #[.int .i64 0] os.length) 3)
 have HB1 := Azz.mk hb1
 have HR1 := Azz.mk (show Kd.R (Kd.int .i64) 3 (w.alloc (.cells (madeCells #[.int .i64 0] os.length) 3)) w.heap.size (fun _ => True) (.slice (some ⟨w.heap.size, 0, none⟩) 0 os.length) [] from ⟨fun _ _ => trivial, [], World.ownsRow_made w _ os.length (Nat.le_refl _) (by simp [maxLen]; omega) (by simp [madeCells, Kd.int, Kd.scalar]), Reps.none _ _⟩)
 clear hb1
 go_loopw [3, 4, 12] (fun v3 v4 v wr => ∃ i : Nat, i ≤ os.length ∧ v = .int .i64 i ∧ v4 = .int .i64 (fsN os i) ∧ Azz (Kd.R (Kd.int .i64) 3 wr w.heap.size (fun _ => True) v3 (fsL os i)) ∧ Azz (Below w.heap.size w wr)) (fun _ _ v _ => os.length - (RowKit.intOf v).toNat)
 case atStart => exact ⟨0, Nat.zero_le _, rfl, rfl, HR1, HB1⟩
 case round =>
  clear HR1 HB1
  obtain ⟨i, hi, rfl, rfl, HR, HB⟩ := hrel
  by_cases hlt : i < os.length
  ·obtain ⟨ad, A0, c0, A1, c1, e, x0, x1, l0, C0, l1, C1⟩ := P.at_T68 (Kd.C_below HO.out HB.out) i (by omega) (by omega)
   cases e
   rw [Int.toNat_natCast] at x0 x1
   have i0 : (0 : Int) ≤ (i : Int) := by omega
   have i1 : (i : Int) < os.length := by omega
   obtain ⟨o, ho⟩ : ∃ o, P.rd_T68 os (i : Int) = o := ⟨_, rfl⟩
   rw [ho] at x0 x1
   have hle : fsN os i + o.f0.length ≤ 40 * os.length := by
    have h1 := fsN_le HF.out (i + 1) (by omega)
    have h2 : fsN os (i + 1) = fsN os i + o.f0.length := by rw [← ho]; rfl
    omega
   have HS := Azz.mk (show fsN os (i + 1) = fsN os i + o.f0.length by rw [← ho]; rfl)
   clear ho l0 C0 l1 C1
   go_wp2_with (at_builtin; refine Kd.R_append_rows (Kd.int .i64) (w0 := w) w.heap.size rfl _ _ 26 3 (.int .i64 0) 8 rfl Tryz.underlying26 P.info_int rfl (by decide) (by decide) _ (fsL os i) [(fsN os i : Int)] (some ⟨wr.heap.size + 1, 0, none⟩) 1 1 (fun _ => True) (fun _ => False) rfl rfl (Kd.R_alloc (Kd.R_alloc HR.out _) _) (C_blkH (d := Kd.int .i64) (xs := [(fsN os i : Int)]) (inner := ([] : List Value) ++ [.int .i64 (fsN os i : Int)]) (blk_n2 wr _ (.cells #[.int .i64 (fsN os i : Int)] 3 (0, 0))) ((Reps.none ((Kd.int .i64).K _) 1).snoc (by simp [Kd.int, Kd.scalar]) rfl) (by simp [maxLen])) (fun _ _ h => h) (fun _ h => h.elim) (fun _ _ => trivial) (bAA (bAA HB.out _) _) (bAA (bAA HB.out _) _).size (by rw [fsL_len]; omega) ?_; intro v1 w7 ho1 hb1 hg1 _; have HO1 := Azz.mk ho1; have HB1 := Azz.mk hb1; obtain ⟨z0, z1⟩ := (show w7.cell? ⟨wr.heap.size, 0, none⟩ = some (.slice A0 o.f0.length c0) ∧ w7.cell? ⟨wr.heap.size, 1, none⟩ = some (.slice A1 o.f1.length c1) from by have h := blk_grown (kAA (blk_new wr (.cells #[.slice A0 o.f0.length c0, .slice A1 o.f1.length c1] 68)) (.cells #[.int .i64 (fsN os i : Int)] 3)) hg1 (Kd.R_ne (Kd.R_alloc (Kd.R_alloc HR.out _) _) (kAA (blk_new wr (.cells #[.slice A0 o.f0.length c0, .slice A1 o.f1.length c1] 68)) (.cells #[.int .i64 (fsN os i : Int)] 3)) (by decide)); exact ⟨kCC h 0, kCC h 1⟩); clear ho1 hb1 hg1)
   go_roundw
   case rel => exact ⟨i + 1, by omega, by go_num, by rw [HS.out]; go_num, ⟨by rw [fsL_succ]; exact HO1.out⟩, HB1⟩
   case measure => simp [RowKit.intOf]; omega
  ·obtain rfl : i = os.length := by omega
   obtain ⟨Aa, ca, rfl, hla, hC⟩ := Kd.R_reads HR.out
   rw [fsL_len] at hla hC
   have HC := Azz.mk hC
   rw [fsL_len]
   clear hC
   go_wp2
   go_ret
   exact ⟨Aa, ca, rfl, hla, HC.out, HB.out⟩
end Go.Proofs.YtngmipfodjgmmaaGreatDoor.Pure
end
section
namespace Go.Proofs.YtngmipfodjgmmaaGreatDoor.Pure
open Go Go.RowKit Go.Lib Go.Shelf Go.Proofs.YtngmipfodjgmmaaGreatDoorW.PrintWords Go.Proofs.YtngmipfodjgmmaaGreatDoorW.PrintLast Go.Proofs.YtngmipfodjgmmaaGreatDoorW.PrintMore
set_option linter.unusedVariables false
set_option linter.unusedSimpArgs false
/-- A place that is there. -/
def PlIn (os : List Ob) (p : Pl) : Prop := ∃ i k : Nat, p.f0 = (i : Int) ∧ p.f1 = (k : Int) ∧ i < os.length ∧ k < (obN os i).f0.length ∧ 0 ≤ p.f2
theorem PlIn.sym {os : List Ob} (hok : AllOkO os) {i j : Nat} (hi : i < os.length) (hj : j < nsy os i) (hs : 0 ≤ (syN os i j).f2) : PlIn os ⟨i, (syN os i j).f2, (syN os i j).f3⟩ := by
 have h := ((hok.2 i hi).sym j hj).2.1
 change Stands (obN os i) (syN os i j) at h
 rcases h with h | ⟨_, _, h2, h3, _⟩
 ·have := h.1
  omega
 ·exact ⟨i, (syN os i j).f2.toNat, rfl, (Int.toNat_of_nonneg hs).symm, hi, by omega, h3⟩
theorem placeS_in {os : List Ob} (hok : AllOkO os) {n : ByteArray} {p : Pl} (h : placeS os n = some p) : PlIn os p := by
 unfold placeS at h
 obtain ⟨t, ht, rfl⟩ := Option.map_eq_some_iff.1 h
 obtain ⟨hm, _, hs, _⟩ := placeT_some ht
 obtain ⟨i, j, hi, hj, rfl⟩ := mem_all.1 hm
 exact PlIn.sym hok hi hj hs
theorem plS_in {os : List Ob} (hok : AllOkO os) (hl : NoLost os os.length 0) {i j : Nat} (hi : i < os.length) (hj : j < nsy os i) : PlIn os (plS os i j) := by
 unfold plS
 by_cases c : (syN os i j).f1 = 1
 ·rw [if_pos c]
  refine PlIn.sym hok hi hj ?_
  have h := ((hok.2 i hi).sym j hj).2.1
  change Stands (obN os i) (syN os i j) at h
  rcases h with h | h
  ·exact absurd c h.2.1
  ·exact h.2.1
 ·rw [if_neg c]
  cases h : placeS os (syN os i j).f0 with
  | some p => exact placeS_in hok h
  | none =>
   refine absurd ⟨c, ?_⟩ (lex_all hl i j hi hj)
   unfold placeS at h
   simpa using h
/-- The units of the first objects: names and kinds. -/
def skOf (s : Se) : ByteArray × Int := (s.f0, s.f1)
def fk (os : List Ob) : Nat → List (ByteArray × Int)
 | 0 => []
 | i + 1 => fk os i ++ (obN os i).f0.map skOf
theorem fk_len (os : List Ob) : ∀ i, (fk os i).length = fsN os i
 | 0 => rfl
 | i + 1 => by
  show (fk os i ++ (obN os i).f0.map skOf).length = fsN os i + (obN os i).f0.length
  rw [List.length_append, List.length_map, fk_len os i]
theorem fk_get (os : List Ob) {i k : Nat} : ∀ n, i < n → k < (obN os i).f0.length → (fk os n)[fsN os i + k]? = some (skOf (seN (obN os i) k))
 | 0, h, _ => absurd h (Nat.not_lt_zero _)
 | n + 1, h, hk => by
  show (fk os n ++ (obN os n).f0.map skOf)[fsN os i + k]? = _
  rcases Nat.eq_or_lt_of_le (Nat.le_of_lt_succ h) with rfl | h
  ·rw [List.getElem?_append_right (by rw [fk_len]; omega), fk_len, Nat.add_sub_cancel_left, List.getElem?_map, List.getElem?_eq_getElem hk]
   show some (skOf _) = some (skOf (P.rd_T64 (obN os i).f0 (k : Int)))
   have e : P.rd_T64 (obN os i).f0 (k : Int) = (obN os i).f0[k] := rd_get _ _ _ hk
   rw [e]
  ·have := fk_get os n h hk
   rw [List.getElem?_append_left]
   ·exact this
   ·exact (List.getElem?_eq_some_iff.1 this).1
end Go.Proofs.YtngmipfodjgmmaaGreatDoor.Pure
end
section
namespace Go.Proofs.YtngmipfodjgmmaaGreatDoor.Pure
open Go Go.RowKit Go.Lib Go.Shelf Go.Proofs.YtngmipfodjgmmaaGreatDoorW.PrintWords Go.Proofs.YtngmipfodjgmmaaGreatDoorW.PrintLast Go.Proofs.YtngmipfodjgmmaaGreatDoorW.PrintMore
open P (Glob root_at)
set_option linter.unusedVariables false
set_option linter.unusedSimpArgs false
/-- An entry is told: a section of Kind 1, and a place in it that is a multiple of four. -/
def EntOk (os : List Ob) (i k : Nat) (f : Int) : Prop := i < os.length ∧ k < (obN os i).f0.length ∧ 0 ≤ f ∧ (seN (obN os i) k).f1 = 1 ∧ Int.tmod f 4 = 0
def EntV (os : List Ob) (r : Option Pl) (a f er : Int) : Prop := (a = 0 ∧ f = 0 ∧ er = 8 ∧ ∀ i k : Nat, ∀ g, r = some ⟨i, k, g⟩ → ¬ EntOk os i k g) ∨ (∃ i k : Nat, r = some ⟨i, k, f⟩ ∧ EntOk os i k f ∧ a = fsN os i + k ∧ er = 0)
def EntPost (os : List Ob) (n : ByteArray) (w : World) (e : Ending) (w' : World) : Prop := ∃ r a f er, findS os n r ∧ EntV os r a f er ∧ e = .returned (.tuple #[.int .i64 a, .int .i64 f, .int .i64 er]) ∧ Below w.heap.size w w'
theorem ent_no {os n r} (hr : findS os n r) (h : ∀ i k : Nat, ∀ g, r = some ⟨i, k, g⟩ → ¬ EntOk os i k g) {w w' : World} (hb : Below w.heap.size w w') : EntPost os n w (.returned (.tuple #[.int .i64 0, .int .i64 0, .int .i64 8])) w' := ⟨r, 0, 0, 8, hr, .inl ⟨rfl, rfl, rfl, h⟩, rfl, hb⟩
theorem findS_in {os n p} (h : findS os n (some p)) : PlIn os p := by
 rcases h with ⟨a, _, e⟩ | ⟨_, e⟩
 ·exact placeS_in a e.symm
 ·cases e
theorem kp3 {w w1 : World} {p0 p1 p2 : Addr} {v0 v1 v2 : Value} (h : w.cell? p0 = some v0 ∧ w.cell? p1 = some v1 ∧ w.cell? p2 = some v2) (hb : Below w.heap.size w w1) : w1.cell? p0 = some v0 ∧ w1.cell? p1 = some v1 ∧ w1.cell? p2 = some v2 :=
 ⟨kp1 h.1 hb, kp1 h.2.1 hb, kp1 h.2.2 hb⟩
theorem fsL_get (os : List Ob) {n i : Nat} (h : i < n) : (fsL os n).getD i 0 = fsN os i := by
 unfold fsL
 rw [List.getD_eq_getElem?_getD, List.getElem?_map, List.getElem?_range h]
 rfl
theorem first_at {os : List Ob} {W : World} {A : Option Addr} (hC : Kd.C (Kd.int .i64) W A os.length (fsL os os.length)) {i : Nat} (hi : i < os.length) : ∃ ad, A = some ad ∧ W.cell? (ad.add i) = some (.int .i64 (fsN os i : Int)) := by
 have h := root_at W A (fsL os os.length) (by rw [fsL_len]; exact hC) i (by rw [fsL_len]; exact hi)
 rwa [fsL_get os hi] at h
set_option maxRecDepth 100000 in
set_option maxHeartbeats 4000000 in
theorem entry_any (w : World) (A : Option Addr) (c : Nat) (os : List Ob) (n : ByteArray) (hG : Glob w) (hos : OA w A os) (hc : os.length ≤ c) (hf : FewL os) (hn : n.size ≤ 100) :
 Calls Tryz.prog 35 #[.slice A os.length c, .string n] w (EntPost os n w) := by
 have HFi := Azz.mk (find_any w A c os n hG hos hc hf hn)
 have HO := Azz.mk hos
 have HF := Azz.mk hf
 clear hG hos hf hn
 go_enter Tryz.func35, Tryz.ntmps35
 go_wp2_with fail
 (with_reducible refine HFi.out.mono ?_)
 rintro en w1 ⟨r, hr, he, hb⟩
 have HB := Azz.mk hb
 have HR := Azz.mk hr
 clear hb HFi
 cases r with
 | none =>
  have he : en = .returned (.tuple #[.agg #[.int .i64 0, .int .i64 0, .int .i64 0], .bool false]) := he
  subst he
  clear hr
  go_wp2
  go_quiet (first | fail)
  go_wp2
  refine bodyPost_ret (v := .tuple #[.int .i64 0, .int .i64 0, .int .i64 8]) (by simp [results, Tryz.results35, go_sem]) rfl ?_
  exact ent_no HR.out (fun i k g e => by cases e) (bNN (bAA HB.out _) _)
 | some p =>
  obtain ⟨i, k, e0, e1, hi, hk, hf0⟩ := findS_in hr
  obtain ⟨p0, p1, f⟩ := p
  have e0 : p0 = (i : Int) := e0
  have e1 : p1 = (k : Int) := e1
  have hf0 : (0 : Int) ≤ f := hf0
  subst e0 e1
  have he : en = .returned (.tuple #[.agg #[.int .i64 (i : Int), .int .i64 (k : Int), .int .i64 f], .bool true]) := he
  subst he
  clear hr
  have hol := HF.out.1
  have hsl := (HF.out.2 i hi).secs
  obtain ⟨ad, A0, c0, A1, c1, e, x0, x1, l0, C0, l1, C1⟩ := P.at_T68 (Kd.C_below HO.out HB.out) i (by omega) (by omega)
  cases e
  rw [Int.toNat_natCast] at x0 x1
  obtain ⟨o, ho⟩ : ∃ o, obN os i = o := ⟨_, rfl⟩
  have HOe := Azz.mk ho
  unfold obN at ho
  rw [ho] at x0 x1 l0 C0
  rw [HOe.out] at hk hsl
  obtain ⟨ae, A5, c5, e, y0, y1, y2, y3, y4, y5, l5, g5⟩ := P.at_T64 C0 k (by omega) (by omega)
  cases e
  rw [Int.toNat_natCast] at y1
  obtain ⟨kd, hkd⟩ : ∃ z, (P.rd_T64 o.f0 (k : Int)).f1 = z := ⟨_, rfl⟩
  rw [hkd] at y1
  have HKd := Azz.mk (show (seN (obN os i) k).f1 = kd by rw [HOe.out]; exact hkd)
  obtain ⟨m, hm⟩ : ∃ m, Int.tmod f 4 = m := ⟨_, rfl⟩
  have HM := Azz.mk hm
  have i0 : (0 : Int) ≤ (i : Int) := by omega
  have i1 : (i : Int) < os.length := by omega
  have k0 : (0 : Int) ≤ (k : Int) := by omega
  have k1 : (k : Int) < o.f0.length := by omega
  have HI := Azz.mk hi
  have HK := Azz.mk (show k < (obN os i).f0.length by rw [HOe.out]; exact hk)
  have HF0 := Azz.mk hf0
  have hba := bAA (Below.refl _ w1) (.cells #[.int .i64 (i : Int), .int .i64 (k : Int), .int .i64 f] 49)
  have HBa := Azz.mk hba
  have hp := blk_new w1 (.cells #[.int .i64 (i : Int), .int .i64 (k : Int), .int .i64 f] 49)
  have q0 := kCC hp 0
  have q1 := kCC hp 1
  have q2 := kCC hp 2
  replace x0 := kp1 x0 hba
  replace y1 := kp1 y1 hba
  clear hkd ho l0 C0 l1 C1 l5 g5 x1 y0 y2 y3 y4 y5 hi hk hf0 hba hp
  by_cases h1 : kd = 1
  ·have b1 : (kd != 1) = false := by simp [h1]
   by_cases h2 : m = 0
   ·have b2 : (m != 0) = false := by simp [h2]
    have H12 := Azz.mk (And.intro h1 h2)
    clear h1 h2
    go_wp2
    go_quiet (first | fail)
    go_wp2
    have hz1 := fsN_le HF.out i (by have := HI.out; omega)
    obtain ⟨z, hz⟩ : ∃ z, fsN os i = z := ⟨_, rfl⟩
    rw [hz] at hz1
    have HZ := Azz.mk hz
    clear hz
    refine start_ (n := 14) (S := fun w' => w'.cell? ⟨w1.heap.size, 0, none⟩ = some (.int .i64 (i : Int)) ∧ w'.cell? ⟨w1.heap.size, 1, none⟩ = some (.int .i64 (k : Int)) ∧ w'.cell? ⟨w1.heap.size, 2, none⟩ = some (.int .i64 f)) (ds := []) #[false, false, false, false, false, false, false, false, false, false, false, false, false, false] (by kernel_rfl) rfl rfl ⟨q0.trans rfl, q1.trans rfl, q2.trans rfl⟩ (fun hHeld => ?_)
    refine pure_ (i := 0) (N := some 37) (v := ?_) (a' := ?_) #[true, false, false, false, false, false, false, false, false, false, false, false, false, false] rfl rfl (by kernel_rfl) (fun _ _ _ h => h) (Or.inl ⟨by rfl, ?_⟩) ?_ ?_
    rotate_left
    · intro w'
      go_simp
      with_reducible rfl
    rotate_left
    · simp only [Act.put, List.setIfInBounds_toArray, List.set_cons_zero, List.set_cons_succ, i64_w, i32_w]
      rfl
    refine pure_ (i := 2) (N := some 39) (v := ?_) (a' := ?_) #[true, false, true, false, false, false, false, false, false, false, false, false, false, false] rfl rfl (by kernel_rfl) (fun _ _ _ h => h) (Or.inl ⟨by rfl, ?_⟩) ?_ ?_
    rotate_left
    · intro w'
      go_simp
      with_reducible rfl
    rotate_left
    · simp only [Act.put, List.setIfInBounds_toArray, List.set_cons_zero, List.set_cons_succ, i64_w, i32_w]
      rfl
    refine take_ (i := 3) (N := some 40) (v := ?_) (a' := ?_) #[true, false, true, true, false, false, false, false, false, false, false, false, false, false] rfl rfl (by kernel_rfl) (fun _ _ _ h => h) (Or.inl ⟨by rfl, ?_⟩) hHeld ?_ ?_
    rotate_left
    · rintro w' ⟨s0_, s1_, s2_⟩
      go_simp
      with_reducible rfl
    rotate_left
    · simp only [Act.put, List.setIfInBounds_toArray, List.set_cons_zero, List.set_cons_succ, i64_w, i32_w]
      rfl
    refine pure_ (i := 6) (N := some 43) (v := ?_) (a' := ?_) #[true, false, true, true, false, false, true, false, false, false, false, false, false, false] rfl rfl (by kernel_rfl) (fun _ _ _ h => h) (Or.inl ⟨by rfl, ?_⟩) ?_ ?_
    rotate_left
    · intro w'
      go_simp
      with_reducible rfl
    rotate_left
    · simp only [Act.put, List.setIfInBounds_toArray, List.set_cons_zero, List.set_cons_succ, i64_w, i32_w]
      rfl
    refine take_ (i := 7) (N := some 44) (v := ?_) (a' := ?_) #[true, false, true, true, false, false, true, true, false, false, false, false, false, false] rfl rfl (by kernel_rfl) (fun _ _ _ h => h) (Or.inl ⟨by rfl, ?_⟩) hHeld ?_ ?_
    rotate_left
    · rintro w' ⟨s0_, s1_, s2_⟩
      go_simp
      with_reducible rfl
    rotate_left
    · simp only [Act.put, List.setIfInBounds_toArray, List.set_cons_zero, List.set_cons_succ, i64_w, i32_w]
      rfl
    refine pure_ (i := 9) (N := some 46) (v := ?_) (a' := ?_) #[true, false, true, true, false, false, true, true, false, true, false, false, false, false] rfl rfl (by kernel_rfl) (fun _ _ _ h => h) (Or.inl ⟨by rfl, ?_⟩) ?_ ?_
    rotate_left
    · intro w'
      go_simp
      with_reducible rfl
    rotate_left
    · simp only [Act.put, List.setIfInBounds_toArray, List.set_cons_zero, List.set_cons_succ, i64_w, i32_w]
      rfl
    refine take_ (i := 10) (N := some 47) (v := ?_) (a' := ?_) #[true, false, true, true, false, false, true, true, false, true, true, false, false, false] rfl rfl (by kernel_rfl) (fun _ _ _ h => h) (Or.inl ⟨by rfl, ?_⟩) hHeld ?_ ?_
    rotate_left
    · rintro w' ⟨s0_, s1_, s2_⟩
      go_simp
      with_reducible rfl
    rotate_left
    · simp only [Act.put, List.setIfInBounds_toArray, List.set_cons_zero, List.set_cons_succ, i64_w, i32_w]
      rfl
    refine one_ (i := 1) (N := some 38) #[true, true, true, true, false, false, true, true, false, true, true, false, false, false] rfl rfl (by kernel_rfl) (by decide) (fun K hK => ?_)
    refine goes_ Tryz.func61 (by kernel_rfl) rfl #[.slice (some ad) os.length c] (by kernel_rfl) rfl rfl (by kernel_rfl) ?_
    (with_reducible refine (firsts_any _ (some ad) c os (Kd.C_below HO.out (bTT HB.out ?d1)) HF.out).mono ?_)
    (case d1 => repeat (first | exact Below.refl _ _ | exact HBa.out | apply bDD | apply bNN))
    rintro en w2 ⟨A', c', rfl, hl', hC, hb⟩
    obtain ⟨ad', rfl, z0⟩ := first_at hC (HI.out : i < os.length)
    rw [HZ.out] at z0
    refine ⟨_, rfl, ?_⟩
    refine hK.out _ _ (kp3 hHeld hb) (fun hHeld => ?_)
    clear hK K
    refine norm_ (a' := ?_) ?_ ?_
    rotate_left
    · show Act.put _ (some 38) _ = _
      simp only [Act.put, List.setIfInBounds_toArray, List.set_cons_zero, List.set_cons_succ, i64_w, i32_w]
      rfl
    refine pure_ (i := 4) (N := some 41) (v := ?_) (a' := ?_) #[true, true, true, true, true, false, true, true, false, true, true, false, false, false] rfl rfl (by kernel_rfl) (fun _ _ _ h => h) (Or.inl ⟨by rfl, ?_⟩) ?_ ?_
    rotate_left
    · intro w'
      go_simp
      with_reducible rfl
    rotate_left
    · simp only [Act.put, List.setIfInBounds_toArray, List.set_cons_zero, List.set_cons_succ, i64_w, i32_w]
      rfl
    refine one_ (i := 5) (N := some 42) #[true, true, true, true, true, true, true, true, false, true, true, false, false, false] rfl rfl (by kernel_rfl) (by decide) (fun K hK => ?_)
    refine value_ (w1 := ?_) (v := ?_) (by rfl) rfl ?_ ?_
    rotate_left 2
    · go_simp
      constructor
      · rfl
      · rfl
    refine hK.out _ _ hHeld (fun hHeld => ?_)
    clear hK K
    refine norm_ (a' := ?_) ?_ ?_
    rotate_left
    · show Act.put _ (some 42) _ = _
      simp only [Act.put, List.setIfInBounds_toArray, List.set_cons_zero, List.set_cons_succ, i64_w, i32_w]
      rfl
    refine pure_ (i := 8) (N := some 45) (v := ?_) (a' := ?_) #[true, true, true, true, true, true, true, true, true, true, true, false, false, false] rfl rfl (by kernel_rfl) (fun _ _ _ h => h) (Or.inl ⟨by rfl, ?_⟩) ?_ ?_
    rotate_left
    · intro w'
      go_simp
      with_reducible rfl
    rotate_left
    · simp only [Act.put, List.setIfInBounds_toArray, List.set_cons_zero, List.set_cons_succ, i64_w, i32_w]
      rfl
    refine pure_ (i := 11) (N := some 4) (v := ?_) (a' := ?_) #[true, true, true, true, true, true, true, true, true, true, true, true, false, false] rfl rfl (by kernel_rfl) (fun _ _ _ h => h) (Or.inl ⟨by rfl, ?_⟩) ?_ ?_
    rotate_left
    · intro w'
      go_simp
      with_reducible rfl
    rotate_left
    · simp only [Act.put, List.setIfInBounds_toArray, List.set_cons_zero, List.set_cons_succ, i64_w, i32_w]
      rfl
    refine pure_ (i := 12) (N := some 5) (v := ?_) (a' := ?_) #[true, true, true, true, true, true, true, true, true, true, true, true, true, false] rfl rfl (by kernel_rfl) (fun _ _ _ h => h) (Or.inl ⟨by rfl, ?_⟩) ?_ ?_
    rotate_left
    · intro w'
      go_simp
      with_reducible rfl
    rotate_left
    · simp only [Act.put, List.setIfInBounds_toArray, List.set_cons_zero, List.set_cons_succ, i64_w, i32_w]
      rfl
    refine pure_ (i := 13) (N := some 6) (v := ?_) (a' := ?_) #[true, true, true, true, true, true, true, true, true, true, true, true, true, true] rfl rfl (by kernel_rfl) (fun _ _ _ h => h) (Or.inl ⟨by rfl, ?_⟩) ?_ ?_
    rotate_left
    · intro w'
      go_simp
      with_reducible rfl
    rotate_left
    · simp only [Act.put, List.setIfInBounds_toArray, List.set_cons_zero, List.set_cons_succ, i64_w, i32_w]
      rfl
    refine done_ (by kernel_rfl) ?_
    have HW := Azz.mk (show wrap64 ((z : Int) + (k : Int)) = (z : Int) + k from wrap64_small _ (by omega) (by have := HI.out; omega))
    have HB2 := Azz.mk (bTT HB.out (by repeat (first | exact Below.refl _ _ | exact HBa.out | apply bDD | apply bNN | (refine bTT ?_ hb)) : Below w1.heap.size w1 w2))
    clear hb z0 hC
    go_wp2
    refine bodyPost_ret (v := .tuple #[.int .i64 (wrap64 ((z : Int) + (k : Int))), .int .i64 f, .int .i64 0]) (by simp [results, Tryz.results35, go_sem]) rfl ?_
    exact ⟨_, _, _, _, HR.out, .inr ⟨i, k, rfl, ⟨HI.out, HK.out, HF0.out, HKd.out.trans H12.out.1, HM.out.trans H12.out.2⟩, by rw [HW.out, HZ.out], rfl⟩, rfl, by first | exact HB2.out | exact bNN HB2.out _ | exact bDD HB2.out⟩
   ·have b2 : (m != 0) = true := by simpa using h2
    have H2 := Azz.mk h2
    clear h2
    go_wp2
    go_quiet (first | fail)
    go_wp2
    refine bodyPost_ret (v := .tuple #[.int .i64 0, .int .i64 0, .int .i64 8]) (by simp [results, Tryz.results35, go_sem]) rfl ?_
    exact ent_no HR.out (fun i' k' g e hx => by cases e; exact H2.out (HM.out.symm.trans hx.2.2.2.2)) (bNN (bAA HB.out _) _)
  ·have b1 : (kd != 1) = true := by simpa using h1
   have H1 := Azz.mk h1
   clear h1
   go_wp2
   go_quiet (first | fail)
   go_wp2
   refine bodyPost_ret (v := .tuple #[.int .i64 0, .int .i64 0, .int .i64 8]) (by simp [results, Tryz.results35, go_sem]) rfl ?_
   exact ent_no HR.out (fun i' k' g e hx => by cases e; exact H1.out (HKd.out.symm.trans hx.2.2.2.1)) (bNN (bAA HB.out _) _)
end Go.Proofs.YtngmipfodjgmmaaGreatDoor.Pure
end
