/- The regions' row, sorted: 'sort.Slice' with New's own closure. -/
import Derived.Test.YtjllhcfcdimbfaaMp34
import Derived.Shelf.SlSortFuncK.WholeK
import Derived.Shelf.GgSortFunc.Tiny
namespace Go.Proofs.Ytjllhcfcdimbfaa.P
open Go Go.RowKit Go.Lib Go.Shelf Go.Proofs.YtjllhcfcdimbfaaW.PrintWords Go.Proofs.YtjllhcfcdimbfaaW.PrintLast Go.Proofs.YtjllhcfcdimbfaaW.PrintMore
set_option linter.unusedVariables false
set_option linter.unusedSimpArgs false
instance : Inhabited S37 := ⟨z37⟩
def encR (r : S37) : List Value := [.int .u64 r.f0, .int .i64 r.f1, .string r.f2, .slice none 0 0]
def ltR (a b : S37) : Bool := decide (a.f0 < b.f0)
theorem swo_ltR : Sort.SWO ltR := ⟨fun x => by simp [ltR], fun x y z h1 h2 => by simp [ltR] at *; omega, fun x y z h1 h2 => by simp [ltR] at *; omega⟩
noncomputable def svT : TypeInfo := (Try.prog.info? 44).get (by kernel_rfl)
noncomputable def svE : TypeInfo := (Try.prog.info? 47).get (by kernel_rfl)
theorem svK (n : Nat) (h2 : 2 ≤ n) : Lib.swapperK n svE 25 = 9 := by
  have a : svE.hasPointers = true := by kernel_rfl
  have b : (svE.bytes == 8) = false := by kernel_rfl
  have c : (n == 0) = false := by simp; omega
  have d : (n == 1) = false := by simp; omega
  simp [Lib.swapperK, a, b, c, d]
set_option maxHeartbeats 2000000 in
theorem new1_any (bp c pb n : Nat) (W : World) (G : Nat → Int) (hs : W.cell? ⟨pb, 0, none⟩ = some (.slice (some ⟨bp, 0, none⟩) n c))
    (hc : ∀ t, t < n → W.cell? ⟨bp, t * 4, none⟩ = some (.int .u64 (G t))) (i j : Nat) (hi : i < n) (hj : j < n) (hsz : n < 4611686018427387904) :
    Calls Try.prog 15 #[.int .i64 i, .int .i64 j, .pointer (some ⟨pb, 0, none⟩)] W fun e w' => e = .returned (.bool (decide (G i < G j))) ∧ ∃ q, w' = W.drewN q := by
  have ci := hc i hi
  have cj := hc j hj
  go_enter Try.func15, Try.ntmps15
  go_wp2
  go_quiet (fail)
  go_wp2
  go_ret
  exact ⟨rfl, nq, rfl⟩
/-- What the call of sort.Slice leaves: the same regions, rising. -/
def Sorted (w : World) (pb bp : Nat) (D D' : Array S37) (w' : World) : Prop :=
  D'.size = D.size ∧ D'.toList.Perm D.toList ∧ (∀ i j, i < j → j < D.size → D'[i]!.f0 ≤ D'[j]!.f0) ∧ Sort.HoldsK encR 4 w' bp 0 D' ∧ (∀ k, k < w.heap.size → k ≠ bp → w'.heap[k]? = w.heap[k]?) ∧ w.heap.size ≤ w'.heap.size ∧ (∀ B, B ≤ bp → B ≤ w.heap.size → RowKit.Below B w w')
theorem below_sorted (B : Nat) (w : World) (bp : Nat) (D : Array S37) (n : Nat) (os : Array Obj) (hB : B ≤ bp) (hW : B ≤ w.heap.size) : RowKit.Below B w (Sort.grow (Sort.putRowK encR 4 (Sort.ahead w n) bp 0 D) os) := by
  refine ⟨rfl, rfl, rfl, ?_, fun k hk => ?_⟩
  · show w.heap.size ≤ ((w.heap.modify bp _) ++ os).size
    simp
  · show ((w.heap.modify bp _) ++ os)[k]? = _
    rw [Array.getElem?_append_left (by simp; omega), Array.getElem?_modify]
    rw [if_neg (by omega)]
theorem far_sorted (w : World) (bp : Nat) (D : Array S37) (n : Nat) (os : Array Obj) (k : Nat) (hk : k < w.heap.size) (hb : k ≠ bp) : (Sort.grow (Sort.putRowK encR 4 (Sort.ahead w n) bp 0 D) os).heap[k]? = w.heap[k]? := by
  show ((w.heap.modify bp _) ++ os)[k]? = _
  rw [Array.getElem?_append_left (by simp; omega), Array.getElem?_modify]
  rw [if_neg (by omega)]
theorem sort_any (w : World) (pb bp c : Nat) (D : Array S37) (hsz : D.size ≤ 100000) (hH : Sort.HoldsK encR 4 w bp 0 D) (hblk : bp < w.heap.size)
    (hs : w.cell? ⟨pb, 0, none⟩ = some (.slice (some ⟨bp, 0, none⟩) D.size c)) (h1 : pb < w.heap.size) (h2 : pb ≠ bp) :
    Calls Try.prog 14 #[.iface 44 (.slice (some ⟨bp, 0, none⟩) D.size c), .func (.func 15) #[] #[.pointer (some ⟨pb, 0, none⟩)]] w fun e w' => e = .returned (.tuple #[]) ∧ ∃ D', Sorted w pb bp D D' w' := by
  by_cases hn : D.size ≤ 1
  · have hsw : ∃ f, Try.prog.funcs.findIdx? (·.name == "internal/reflectlite" ++ ".Swapper$" ++ toString (swapperK D.size svE 25)) = some f := by
      obtain h | h : D.size = 0 ∨ D.size = 1 := by omega
      · rw [h]; exact ⟨27, by kernel_rfl⟩
      · rw [h]; exact ⟨28, by kernel_rfl⟩
    obtain ⟨f, hf⟩ := hsw
    refine (Any.sort_Slice_tiny Try.slice6 44 47 svT svE (by kernel_rfl) (by kernel_rfl) (by kernel_rfl) (by kernel_rfl) 25 (fun _ => by kernel_rfl) (some ⟨bp, 0, none⟩) D.size c hn f hf _ _ _ w).mono ?_
    rintro e w' ⟨rfl, os, rfl⟩
    refine ⟨rfl, D, rfl, List.Perm.refl _, fun i j h1 h2 => by omega, Sort.holdsK_grow _ _ _ _ _ _ _ hblk hH, fun k hk _ => ?_, ?_, fun B hB hW => ?_⟩
    · show (w.heap ++ os)[k]? = _
      rw [Array.getElem?_append_left hk]
    · show w.heap.size ≤ (w.heap ++ os).size
      simp
    · refine ⟨rfl, rfl, rfl, ?_, fun k hk => ?_⟩
      · show w.heap.size ≤ (w.heap ++ os).size
        simp
      · show (w.heap ++ os)[k]? = _
        rw [Array.getElem?_append_left (by omega)]
  · have hless : LessReadsK Try.prog 15 #[.pointer (some ⟨pb, 0, none⟩)] encR 4 ltR bp 0 D.size w := by
      intro m os dk hs' i j hi hj
      have e : sortWorldK encR 4 w bp 0 m dk os = Sort.putRowK encR 4 (Sort.grow (Sort.ahead w m) os) bp 0 dk := by
        unfold sortWorldK; rw [Sort.putRowK_grow _ _ (Sort.ahead w m) _ bp 0 _ hblk]
      have hHg : Sort.HoldsK encR 4 (Sort.grow (Sort.ahead w m) os) bp 0 D := Sort.holdsK_grow _ _ _ _ bp 0 D hblk (Sort.holdsK_ahead _ _ _ _ _ _ _ hH)
      refine new1_any bp c pb D.size _ (fun t => dk[t]!.f0) ?_ (fun t ht => ?_) i j hi hj (by omega)
      · rw [e, Sort.cell?_putRowK_other _ _ _ bp 0 dk _ (by exact h2), Sort.cell?_grow _ _ _ (by exact h1)]; exact hs
      · rw [e]
        have := ((Sort.holdsK_putRowK _ _ _ bp 0 D dk hHg hs').cell (i := t) (c := 0) (by omega) (by omega)).1
        simpa [encR] using this
    refine (Any.sort_Slice_cells_sorted Try.slice6 44 47 svT svE (by kernel_rfl) (by kernel_rfl) (by kernel_rfl) (by kernel_rfl) 25 (fun _ => by kernel_rfl) encR 4 (fun _ => rfl) (by kernel_rfl) (fun _ => by kernel_rfl)
      (fun x v hv => by simp [encR] at hv; rcases hv with rfl | rfl | rfl | rfl <;> rfl) ltR swo_ltR 15 _
      (enters_of Try.func15 (by kernel_rfl) rfl) bp 0 c D (by omega) (by omega) 35 (by rw [svK _ (by omega)]; kernel_rfl) false
      (fun args W => run_callFunc_extern Try.func35 (by kernel_rfl) (by kernel_rfl) (by kernel_rfl) (e := Extern.ReflectliteSwapper.swap false) (by kernel_rfl) args W) w hless hH hblk).mono ?_
    rintro e w' ⟨rfl, D', n, os, ⟨hp1, hp2, hp3⟩, hsr, rfl⟩
    have hHa : Sort.HoldsK encR 4 (Sort.ahead w n) bp 0 D := Sort.holdsK_ahead _ _ _ _ _ _ _ hH
    refine ⟨rfl, D', hp1, ?_, fun i j hij hj => ?_, ?_, fun k hk hb => far_sorted w bp D' n os k hk hb, ?_, fun B hB hW => below_sorted B w bp D' n os hB hW⟩
    · have e1 : (D'.extract 0 D.size) = D' := by rw [← hp1]; simp
      have e2 : (D.extract 0 D.size) = D := by simp
      rw [e1, e2] at hp3
      exact hp3
    · have := hsr i j (Nat.zero_le _) hij hj
      simp [ltR] at this
      exact this
    · exact Sort.holdsK_grow _ _ _ _ _ _ _ (by simpa [Sort.putRowK] using hblk) (Sort.holdsK_putRowK _ _ _ bp 0 D D' hHa hp1)
    · show w.heap.size ≤ ((w.heap.modify bp _) ++ os).size
      simp
end Go.Proofs.Ytjllhcfcdimbfaa.P
