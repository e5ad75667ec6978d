/- Maps keyed by names, of one's own: which names are there, and the place of each. -/
import Derived.Test.YtngmipfodjgmmaaGreatDoorSw72
import Derived.Maps.RangeWalk
import Derived.Maps.OwnSet
import Derived.Laws.CopyOwn
set_option linter.unusedVariables false
set_option linter.unusedSimpArgs false
namespace Go.Proofs.YtngmipfodjgmmaaGreatDoor.Pure
open Go Go.RowKit Go.Maps YtngmipfodjgmmaaGreatDoorW.PrintWords YtngmipfodjgmmaaGreatDoorW.PrintLast YtngmipfodjgmmaaGreatDoorW.PrintMore
theorem keepS {w w1 : World} {p : Addr} {v : Value} (h : w.cell? p = some v) (hb : Below w.heap.size w w1) : w1.cell? p = some v := (hb.cell (World.block_lt_of_cell? _ _ h)).trans h
theorem strK : Keyed Tryz.prog 9 := string_keyed Tryz.underlying9
def klS (s : ByteArray) : Lit := .string s.data.toList
theorem klS_inj {a b : ByteArray} (h : klS a = klS b) : a = b := by
 unfold klS at h
 injection h with h
 exact ByteArray.ext (Array.ext' h)
theorem small {s : ByteArray} (h : s.size ≤ 100) : s.size ≤ maxLen := Nat.le_trans h (by decide)
theorem key_s {s : ByteArray} (h : s.size ≤ 100) : keyOf Tryz.prog 9 (.string s) = some (klS s) := WideMaps.keyOf_string_mk Tryz.underlying9 (small h)
theorem key_inv {key : Value} {l : Lit} (h : keyOf Tryz.prog 9 key = some l) : ∃ s, key = .string s := by
 cases key <;> simp [keyOf, Tryz.underlying9, mapKey] at h
 exact ⟨_, rfl⟩
/-- Block b is a map whose keys are just the names of S. -/
def NMap (w : World) (b n : Nat) (S : ByteArray → Prop) : Prop := ∃ D, w.ownsMap Tryz.prog 9 (plainElem (H := Unit) Tryz.prog 3) b n D ∧ ∀ s, s.size ≤ 100 → (Maps.has D (klS s) = true ↔ S s)
theorem NMap.made (w : World) : NMap (w.alloc (.map #[] 0)) w.heap.size 0 (fun _ => False) := ⟨_, World.ownsMap_made (H := Unit) w Tryz.prog 9 (plainElem (H := Unit) Tryz.prog 3), fun s _ => ⟨fun h => (by cases h), fun h => h.elim⟩⟩
theorem NMap.congr {w : World} {b n : Nat} {S T : ByteArray → Prop} (h : NMap w b n S) (e : ∀ s, S s ↔ T s) : NMap w b n T := by
 obtain ⟨D, h1, h2⟩ := h
 exact ⟨D, h1, fun s hs => (h2 s hs).trans (e s)⟩
theorem NMap.mono {w : World} {b n m : Nat} {S : ByteArray → Prop} (h : NMap w b n S) (hm : n ≤ m) : NMap w b m S := by
 obtain ⟨D, h1, h2⟩ := h
 exact ⟨D, h1.mono hm, h2⟩
theorem NMap.lt {w : World} {b n : Nat} {S : ByteArray → Prop} (h : NMap w b n S) : b < w.heap.size := h.choose_spec.1.lt
theorem NMap.kept {w w' : World} {b n : Nat} {S : ByteArray → Prop} {row : Option Nat} (h : NMap w b n S) (hg : w.grownBy w' row) (hne : some b ≠ row) : NMap w' b n S := by
 obtain ⟨D, h1, h2⟩ := h
 exact ⟨D, h1.kept hg hne, h2⟩
theorem NMap.alloc {w : World} {b n : Nat} {S : ByteArray → Prop} (h : NMap w b n S) (o : Obj) : NMap (w.alloc o) b n S := h.kept (World.grownBy_alloc w o none) (by simp)
theorem NMap.drew {w : World} {b n : Nat} {S : ByteArray → Prop} (h : NMap w b n S) : NMap w.drew b n S := h
theorem NMap.setCell {w : World} {b n : Nat} {S : ByteArray → Prop} (h : NMap w b n S) {a : Addr} (ha : b ≠ a.block) (v : Value) : NMap (w.setCell a v) b n S := by
 obtain ⟨D, h1, h2⟩ := h
 exact ⟨D, h1.setCell ha v, h2⟩
theorem NMap.below {w w' : World} {b n B : Nat} {S : ByteArray → Prop} (h : NMap w b n S) (hb : Below B w w') (hl : b < B) : NMap w' b n S := by
 obtain ⟨D, ⟨es, clock, h1, h3, h4, h5⟩, h2⟩ := h
 exact ⟨D, ⟨es, clock, (hb.block b hl).trans h1, h3, h4, h5⟩, h2⟩
theorem zero_int (W : World) : (zeroValue 3).run Tryz.prog W = .ok (.int .i64 0) W := by kernel_rfl
section
variable (w : World) {ops : Array Oper} {rest : List Oper} {o : Oper} {a : Act} {Q : Exit → Act → World → Prop}
theorem wpl_nlook (hg : o.guard = none) (m x : Operand) (hop : o.op = Op.lookup 82 m x true) (b n : Nat) (S : ByteArray → Prop) (s : ByteArray) (hm : a.eval m = .map (some b)) (hN : NMap w b n S) (hx : a.eval x = .string s) (hs : s.size ≤ 100)
 (hK : ∀ (c : Int) (y : Bool), (y = true ↔ S s) → wpList Tryz.prog ops Q rest (a.put o.dst (.tuple #[.int .i64 c, .bool y])) w) : wpList Tryz.prog ops Q (o :: rest) a w := by
 obtain ⟨D, h1, h2⟩ := hN
 exact wpList_lookup_own_ok_int w hg m x 82 hop 9 3 .i64 strK Tryz.underlying82 Tryz.underlying3 (zero_int w) b n D hm h1 _ (klS s) hx (key_s hs) fun c _ _ => hK c _ (h2 s hs)
theorem wpl_nstore (hg : o.guard = none) (m x v : Operand) (hop : o.op = Op.mapUpdate 82 m x v) (b n : Nat) (S : ByteArray → Prop) (s : ByteArray) (z : Int) (hm : a.eval m = .map (some b)) (hN : NMap w b n S) (hn : n < maxLen) (hx : a.eval x = .string s) (hv : a.eval v = .int .i64 z) (hs : s.size ≤ 100) (hz : (Lit.int .i64 z).wf = true)
 (hK : ∀ w', NMap w' b (n + 1) (fun t => t = s ∨ S t) → w.mapTurned w' b → wpList Tryz.prog ops Q rest (a.put o.dst undef) w') : wpList Tryz.prog ops Q (o :: rest) a w := by
 obtain ⟨D, h1, h2⟩ := hN
 refine wpList_mapUpdate_in w hg m x v 82 hop 9 3 strK Tryz.underlying82 (plainElem (H := Unit) Tryz.prog 3) b n D hm h1 hn _ _ (klS s) hx hv (key_s hs) _ [] (plainElem_int Tryz.underlying3 hz) fun w' h3 h4 => hK w' ⟨_, h3, fun t ht => ?_⟩ h4
 by_cases e : t = s
 ·subst e
  rw [has_put_same h1.isMap (strK.key (key_s hs))]
  simp
 ·rw [has_put_other (fun h => e (klS_inj h)), h2 t ht]
  simp [e]
end
def plV (p : Pl) : Value := .agg #[.int .i64 p.f0, .int .i64 p.f1, .int .i64 p.f2]
def plD (p : Pl) : DataW Unit := .agg [.lit (.int .i64 p.f0), .lit (.int .i64 p.f1), .lit (.int .i64 p.f2)]
theorem plD_inj {p q : Pl} (h : plD p = plD q) : p = q := by
 obtain ⟨a, b, c⟩ := p
 obtain ⟨a', b', c'⟩ := q
 simp [plD] at h
 simp [h]
def rpL : List Value → Option (DataW Unit × List MemPlace)
 | [.int .i64 a, .int .i64 b, .int .i64 c] => some (plD ⟨a, b, c⟩, [])
 | _ => none
def RP : Value → Option (DataW Unit × List MemPlace)
 | .agg cs => rpL cs.toList
 | _ => none
theorem rp_mk (p : Pl) : RP (plV p) = some (plD p, []) := rfl
theorem rp_inv {v : Value} {z : DataW Unit × List MemPlace} (h : RP v = some z) : ∃ p, v = plV p ∧ z = (plD p, []) := by
 cases v with
 | agg cs =>
  obtain ⟨l⟩ := cs
  have h : rpL l = some z := h
  unfold rpL at h
  split at h
  ·exact ⟨_, rfl, (Option.some.inj h).symm⟩
  ·cases h
 | _ => cases h
/-- The keys are just the names that f places, each at its place. -/
def PDat (D : DataW Unit) (f : ByteArray → Option Pl) : Prop := (∀ l, Maps.has D l = true → ∃ s p, l = klS s ∧ f s = some p) ∧ ∀ s p, f s = some p → s.size ≤ 100 ∧ Maps.has D (klS s) = true ∧ ∀ z, D.atKey (klS s) z = plD p
theorem PDat.none {D : DataW Unit} {f : ByteArray → Option Pl} (h : PDat D f) {s : ByteArray} (e : f s = none) : Maps.has D (klS s) = false := by
 cases c : Maps.has D (klS s) with
 | false => rfl
 | true =>
  obtain ⟨s', p, h1, h2⟩ := h.1 _ c
  obtain rfl := klS_inj h1
  rw [e] at h2
  cases h2
def upP (f : ByteArray → Option Pl) (s : ByteArray) (p : Pl) : ByteArray → Option Pl := fun t => if t = s then some p else f t
theorem PDat.put {D : DataW Unit} {f : ByteArray → Option Pl} (h : PDat D f) (hD : IsMap D) {s : ByteArray} (hs : s.size ≤ 100) (p : Pl) : PDat (D.put (klS s) (plD p)) (upP f s p) := by
 have hk := strK.key (key_s hs)
 refine ⟨fun l hl => ?_, fun t q hq => ?_⟩
 ·by_cases e : l = klS s
  ·exact ⟨s, p, e, by simp [upP]⟩
  ·rw [has_put_other e] at hl
   obtain ⟨t, q, h1, h2⟩ := h.1 l hl
   refine ⟨t, q, h1, ?_⟩
   unfold upP
   rw [if_neg (fun c => e (by rw [h1, c]))]
   exact h2
 ·unfold upP at hq
  by_cases e : t = s
  ·subst e
   rw [if_pos rfl] at hq
   obtain rfl := Option.some.inj hq
   exact ⟨hs, has_put_same hD hk _, fun z => atKey_put_same hD hk _ z⟩
  ·rw [if_neg e] at hq
   obtain ⟨a, b, c⟩ := h.2 t q hq
   have e2 : klS t ≠ klS s := fun h => e (klS_inj h)
   exact ⟨a, (has_put_other e2 _).trans b, fun z => (atKey_put_other e2 _ z).trans (c z)⟩
def PMap (w : World) (b n : Nat) (f : ByteArray → Option Pl) : Prop := ∃ D, w.ownsMap Tryz.prog 9 RP b n D ∧ PDat D f
theorem PMap.made (w : World) : PMap (w.alloc (.map #[] 0)) w.heap.size 0 (fun _ => none) := ⟨_, World.ownsMap_made (H := Unit) w Tryz.prog 9 RP, ⟨fun l h => (by cases h), fun s p h => (by cases h)⟩⟩
theorem PMap.congr {w : World} {b n : Nat} {f g : ByteArray → Option Pl} (h : PMap w b n f) (e : ∀ s, f s = g s) : PMap w b n g := by
 obtain rfl : f = g := funext e
 exact h
theorem PMap.mono {w : World} {b n m : Nat} {f : ByteArray → Option Pl} (h : PMap w b n f) (hm : n ≤ m) : PMap w b m f := by
 obtain ⟨D, h1, h2⟩ := h
 exact ⟨D, h1.mono hm, h2⟩
theorem PMap.lt {w : World} {b n : Nat} {f : ByteArray → Option Pl} (h : PMap w b n f) : b < w.heap.size := h.choose_spec.1.lt
theorem PMap.kept {w w' : World} {b n : Nat} {f : ByteArray → Option Pl} {row : Option Nat} (h : PMap w b n f) (hg : w.grownBy w' row) (hne : some b ≠ row) : PMap w' b n f := by
 obtain ⟨D, h1, h2⟩ := h
 exact ⟨D, h1.kept hg hne, h2⟩
theorem PMap.alloc {w : World} {b n : Nat} {f : ByteArray → Option Pl} (h : PMap w b n f) (o : Obj) : PMap (w.alloc o) b n f := h.kept (World.grownBy_alloc w o none) (by simp)
theorem PMap.drew {w : World} {b n : Nat} {f : ByteArray → Option Pl} (h : PMap w b n f) : PMap w.drew b n f := h
theorem PMap.setCell {w : World} {b n : Nat} {f : ByteArray → Option Pl} (h : PMap w b n f) {a : Addr} (ha : b ≠ a.block) (v : Value) : PMap (w.setCell a v) b n f := by
 obtain ⟨D, h1, h2⟩ := h
 exact ⟨D, h1.setCell ha v, h2⟩
theorem PMap.below {w w' : World} {b n B : Nat} {f : ByteArray → Option Pl} (h : PMap w b n f) (hb : Below B w w') (hl : b < B) : PMap w' b n f := by
 obtain ⟨D, ⟨es, clock, h1, h3, h4, h5⟩, h2⟩ := h
 exact ⟨D, ⟨es, clock, (hb.block b hl).trans h1, h3, h4, h5⟩, h2⟩
theorem PMap.look {w : World} {b n : Nat} {f : ByteArray → Option Pl} (h : PMap w b n f) {s : ByteArray} (hs : s.size ≤ 100) : (Instr.lookup 88 (.map (some b)) (.string s) true).run Tryz.prog w = .ok (.tuple #[plV ((f s).getD ⟨0, 0, 0⟩), .bool (f s).isSome]) w := by
 obtain ⟨D, h1, h2⟩ := h
 obtain ⟨v, ps, hrun, hv⟩ := h1.look_ok strK Tryz.underlying88 (zero_pl w) (rp_mk ⟨0, 0, 0⟩) (key_s hs)
 obtain ⟨p, rfl, hz⟩ := rp_inv hv
 have hz1 : D.atKey (klS s) (plD ⟨0, 0, 0⟩) = plD p := congrArg Prod.fst hz
 rw [hrun]
 cases e : f s with
 | none =>
  have hn := h2.none e
  rw [atKey_of_not_has hn] at hz1
  obtain rfl := plD_inj hz1
  rw [hn]
  rfl
 | some q =>
  obtain ⟨_, a, c⟩ := h2.2 s q e
  rw [c] at hz1
  obtain rfl := plD_inj hz1
  rw [a]
  rfl
section
variable (w : World) {ops : Array Oper} {rest : List Oper} {o : Oper} {a : Act} {Q : Exit → Act → World → Prop}
theorem wpl_plook (hg : o.guard = none) (m x : Operand) (hop : o.op = Op.lookup 88 m x true) (b n : Nat) (f : ByteArray → Option Pl) (s : ByteArray) (x1 x2 x3 : Int) (y : Bool) (hm : a.eval m = .map (some b)) (hN : PMap w b n f) (hx : a.eval x = .string s) (hs : s.size ≤ 100) (hp : (f s).getD ⟨0, 0, 0⟩ = ⟨x1, x2, x3⟩) (hy : (f s).isSome = y)
 (hK : wpList Tryz.prog ops Q rest (a.put o.dst (.tuple #[.agg #[.int .i64 x1, .int .i64 x2, .int .i64 x3], .bool y])) w) : wpList Tryz.prog ops Q (o :: rest) a w := by
 have hrun := hN.look hs
 rw [hp, hy] at hrun
 refine wpList_plain hg fun K' hK' => ?_
 unfold Oper.wp
 simp [execOp, hop, hm, hx, hrun, Result.andThen]
 exact hK' _ _ hK
theorem wpl_pstore (hg : o.guard = none) (m x v : Operand) (hop : o.op = Op.mapUpdate 88 m x v) (b n : Nat) (f : ByteArray → Option Pl) (s : ByteArray) (x1 x2 x3 : Int) (hm : a.eval m = .map (some b)) (hN : PMap w b n f) (hn : n < maxLen) (hx : a.eval x = .string s) (hv : a.eval v = .agg #[.int .i64 x1, .int .i64 x2, .int .i64 x3]) (hs : s.size ≤ 100)
 (hK : ∀ w', PMap w' b (n + 1) (upP f s ⟨x1, x2, x3⟩) → w.mapTurned w' b → wpList Tryz.prog ops Q rest (a.put o.dst undef) w') : wpList Tryz.prog ops Q (o :: rest) a w := by
 obtain ⟨D, h1, h2⟩ := hN
 exact wpList_mapUpdate_in w hg m x v 88 hop 9 49 strK Tryz.underlying88 RP b n D hm h1 hn _ _ (klS s) hx hv (key_s hs) _ [] (rp_mk ⟨x1, x2, x3⟩) fun w' h3 h4 => hK w' ⟨_, h3, h2.put h1.isMap hs _⟩ h4
end
def PRan (w : World) (b r n : Nat) (f : ByteArray → Option Pl) (left : Lit → Bool) (cnt : Nat) : Prop := ∃ D, w.ranges Tryz.prog 9 RP b r n D left cnt ∧ PDat D f ∧ ∀ l, left l = true → Maps.has D l = true
theorem PRan.left_eq {w : World} {b r n : Nat} {f : ByteArray → Option Pl} {left : Lit → Bool} {cnt : Nat} (h : PRan w b r n f left cnt) : w.rangeLeft b r = cnt := h.choose_spec.1.left_eq
theorem PRan.kept {w w' : World} {b r n : Nat} {f : ByteArray → Option Pl} {left : Lit → Bool} {cnt : Nat} {row : Option Nat} (h : PRan w b r n f left cnt) (hg : w.grownBy w' row) (hb : some b ≠ row) (hr : some r ≠ row) : PRan w' b r n f left cnt := by
 obtain ⟨D, h1, h2⟩ := h
 exact ⟨D, h1.kept hg hb hr, h2⟩
section
variable (w : World) {ops : Array Oper} {rest : List Oper} {o : Oper} {a : Act} {Q : Exit → Act → World → Prop}
theorem wpl_prange (hg : o.guard = none) (m : Operand) (hop : o.op = Op.range 88 m) (b n : Nat) (f : ByteArray → Option Pl) (hm : a.eval m = .map (some b)) (hN : PMap w b n f)
 (hK : ∀ w' left cnt, PRan w' b w.heap.size n f left cnt → (∀ s, s.size ≤ 100 → (left (klS s) = true ↔ (f s).isSome = true)) → cnt ≤ n → w.grownBy w' none → w'.heap.size = w.heap.size + 1 → wpList Tryz.prog ops Q rest (a.put o.dst (.pointer (some ⟨w.heap.size, 0, none⟩))) w') : wpList Tryz.prog ops Q (o :: rest) a w := by
 obtain ⟨D, h1, h2⟩ := hN
 refine wpList_range_own w hg m 88 hop 9 49 strK Tryz.underlying88 RP b n D hm h1 fun w' h3 h4 h5 => hK w' _ _ ⟨D, h3, h2, fun l h => h⟩ (fun s hs => ?_) h1.size_le h4 h5
 cases e : f s with
 | none => rw [h2.none e]; simp
 | some p => rw [(h2.2 s p e).2.1]; simp
theorem wpl_pnext (hg : o.guard = none) (it : Operand) (hop : o.op = Op.next it false) (b r n : Nat) (f : ByteArray → Option Pl) (left : Lit → Bool) (cnt : Nat) (hit : a.eval it = .pointer (some ⟨r, 0, none⟩)) (h : PRan w b r n f left cnt)
 (hDone : (∀ l, left l = false) → wpList Tryz.prog ops Q rest (a.put o.dst (.tuple #[.bool false])) w)
 (hMore : ∀ (s : ByteArray) (x1 x2 x3 : Int) (w' : World) (left' : Lit → Bool) (cnt' : Nat), f s = some ⟨x1, x2, x3⟩ → s.size ≤ 100 → left (klS s) = true → (left' (klS s) = false ∧ ∀ t, t ≠ s → left' (klS t) = left (klS t)) → PRan w' b r n f left' cnt' → cnt' < cnt → w.grownBy w' (some r) → w'.heap.size = w.heap.size →
  (Instr.entry (.pointer (some ⟨r, 0, none⟩))).run Tryz.prog w' = .ok (.tuple #[.string s, .agg #[.int .i64 x1, .int .i64 x2, .int .i64 x3]]) w' → wpList Tryz.prog ops Q rest (a.put o.dst (.tuple #[.bool true, .string s, .agg #[.int .i64 x1, .int .i64 x2, .int .i64 x3]])) w') :
 wpList Tryz.prog ops Q (o :: rest) a w := by
 obtain ⟨D, h1, h2, h3⟩ := h
 refine wpList_next_ranges w hg it hop 9 strK RP Value.string plV (fun key kl hk => key_inv hk) (fun v y hv => (rp_inv hv).imp fun _ h => h.1) b r n D left cnt hit h1 (fun _ hl => hDone hl) fun s p kl y w' cnt' hkey hlk hv hat hrg hlt hgr hsz hen => ?_
 obtain ⟨s', p', e1, e2⟩ := h2.1 kl (h3 kl hlk)
 have hs' := (h2.2 s' p' e2).1
 have hkl : klS s = kl := by
  have : keyOf Tryz.prog 9 (.string s) = some kl := hkey
  simp [keyOf, Tryz.underlying9, mapKey] at this
  exact this.2
 subst hkl
 obtain rfl := klS_inj e1
 obtain ⟨_, b1, c1⟩ := h2.2 s p' e2
 have hp : p = p' := by
  rw [rp_mk] at hv
  have h4 : plD p = y.1 := congrArg Prod.fst (Option.some.inj hv)
  have h5 := hat .nil
  rw [c1, ← h4] at h5
  exact (plD_inj h5).symm
 subst hp
 have hk := strK.key (key_s hs')
 refine hMore s p.f0 p.f1 p.f2 w' _ cnt' e2 hs' hlk ⟨?_, fun t ht => ?_⟩ ⟨D, hrg, h2, fun l hl => ?_⟩ hlt hgr hsz hen
 ·simp [WideAt.sameKey_self hk]
 ·have : (klS t).sameKey (klS s) = false := sameKey_ne fun h => ht (klS_inj h)
  simp [this]
 ·simp only [Bool.and_eq_true] at hl
  exact h3 l hl.1
end
end Go.Proofs.YtngmipfodjgmmaaGreatDoor.Pure
