/- The document's instruction of an operation and its fields, by shape. -/
import Derived.Test.YtngmipfodjgmmaaGreatDoorFz52
set_option maxRecDepth 100000
set_option maxHeartbeats 4000000
set_option linter.unusedVariables false
set_option linter.unusedSimpArgs false
namespace Go.Proofs.YtngmipfodjgmmaaGreatDoor.Pure
open Go Go.RowKit Go.Lib Go.Shelf Wa Wb Wc
abbrev U32 (w : World) (A : Option Addr) (fs : List Int) : Prop := Kd.C (Kd.int .u32) w A fs.length fs
theorem u32_at (w : World) (A : Option Addr) (fs : List Int) (hr : U32 w A fs) (i : Nat) (hi : i < fs.length) : ∃ ad, A = some ad ∧ w.cell? (ad.add i) = some (.int .u32 (fs.getD i 0)) := by
 obtain ⟨ad, c, e, hc, hK, hat⟩ := Kd.C_get hr 0 i (by omega) (by omega)
 have hK : c = [.int .u32 (fs.getD i 0)] := by simpa [Kd.int, Kd.scalar] using hK
 subst hK
 have := hat 0 _ rfl
 exact ⟨ad, e, by simpa [Kd.int, Kd.scalar] using this⟩
theorem blk_new2 (w : World) (o o' : Obj) : ((w.alloc o).alloc o').heap[w.heap.size + 1]? = some o' := by
 have := blk_new (w.alloc o) o'
 rwa [World.size_alloc] at this
abbrev Z10 : Array Value := #[.int .i64 0, .int .i64 0, .int .i64 0, .int .i64 0, .int .i64 0, .int .i64 0, .int .u64 0, .int .i64 0, .int .i64 0, .int .i64 0]
abbrev E10 (op v : Int) : Array Value := #[.int .i64 op, .int .i64 v, .int .i64 0, .int .i64 0, .int .i64 0, .int .i64 0, .int .u64 0, .int .i64 0, .int .i64 0, .int .i64 0]
abbrev At (w1 : World) (g : Nat) (r : Array Value) : Prop := w1.heap[g]? = some (.cells r 135 (0, 0))
theorem cel10 {w : World} {g t : Nat} {v0 v1 v2 v3 v4 v5 v6 v7 v8 v9 : Value} (h : w.heap[g]? = some (.cells #[v0, v1, v2, v3, v4, v5, v6, v7, v8, v9] t (0, 0))) : w.cell? ⟨g, 0, none⟩ = some v0 ∧ w.cell? ⟨g, 1, none⟩ = some v1 ∧ w.cell? ⟨g, 2, none⟩ = some v2 ∧ w.cell? ⟨g, 3, none⟩ = some v3 ∧ w.cell? ⟨g, 4, none⟩ = some v4 ∧ w.cell? ⟨g, 5, none⟩ = some v5 ∧ w.cell? ⟨g, 6, none⟩ = some v6 ∧ w.cell? ⟨g, 7, none⟩ = some v7 ∧ w.cell? ⟨g, 8, none⟩ = some v8 ∧ w.cell? ⟨g, 9, none⟩ = some v9 :=
 ⟨kCC h 0, kCC h 1, kCC h 2, kCC h 3, kCC h 4, kCC h 5, kCC h 6, kCC h 7, kCC h 8, kCC h 9⟩
theorem of_s1 {w w1 : World} {op : Int} (hb : Below ((w.alloc (.cells Z10 135)).alloc (.cells (E10 op 0) 135)).heap.size ((w.alloc (.cells Z10 135)).alloc (.cells (E10 op 0) 135)) w1) : Azz (At w1 w.heap.size Z10) ∧ Azz (At w1 (w.heap.size + 1) (E10 op 0)) ∧ Azz (Below w.heap.size w w1) :=
 ⟨⟨kBB (kAA (blk_new w _) _) hb⟩, ⟨kBB (blk_new2 w _ _) hb⟩, ⟨bTT (((Below.refl _ w).alloc (Nat.le_refl _) _).alloc (by simp) _) hb⟩⟩
theorem of_s2 {w w1 w2 : World} {op : Int} (HI : Azz (At w1 w.heap.size Z10)) (HE : Azz (At w1 (w.heap.size + 1) (E10 op 0))) (HB : Azz (Below w.heap.size w w1)) (hb : Below w1.heap.size w1 w2) : Azz (At w2 w.heap.size Z10) ∧ Azz (At w2 (w.heap.size + 1) (E10 op 0)) ∧ Azz (Below w.heap.size w w2) :=
 ⟨⟨kBB HI.out hb⟩, ⟨kBB HE.out hb⟩, ⟨bTT HB.out hb⟩⟩
theorem of_s3 {w w1 w2 : World} {op v : Int} (HI : Azz (At w1 w.heap.size Z10)) (HE : Azz (At w1 (w.heap.size + 1) (E10 op 0))) (HB : Azz (Below w.heap.size w w1)) (hb : Below (w1.setCell ⟨w.heap.size + 1, 1, none⟩ (.int .i64 v)).heap.size (w1.setCell ⟨w.heap.size + 1, 1, none⟩ (.int .i64 v)) w2) : Azz (At w2 w.heap.size Z10) ∧ Azz (At w2 (w.heap.size + 1) (E10 op v)) ∧ Azz (Below w.heap.size w w2) :=
 ⟨⟨kBB (blk_far HI.out (Nat.succ_ne_self _).symm _) hb⟩, ⟨kBB (blk_put HE.out 1 _ rfl) hb⟩, ⟨bTT (bSS HB.out (Nat.le_succ _)) hb⟩⟩
theorem u32_some {w : World} {A : Option Addr} {f : Int} {fs : List Int} (h : U32 w A (f :: fs)) : ∃ ad, A = some ad ∧ ad.block ≠ w.heap.size + 1 ∧ w.heap.size + 1 ≠ ad.block := by
 obtain ⟨ad, e, y⟩ := u32_at w A _ h 0 (by simp)
 have : ad.block < w.heap.size := World.block_lt_of_cell? _ _ y
 exact ⟨ad, e, by omega, by omega⟩
theorem u32_get {w w1 : World} {ad : Addr} {fs : List Int} (HF : Azz (U32 w (some ad) fs)) (HB : Azz (Below w.heap.size w w1)) (i : Nat) (hi : i < fs.length) : w1.cell? (ad.add i) = some (.int .u32 (fs.getD i 0)) := by
 obtain ⟨ad', e, y⟩ := u32_at w1 _ _ (Kd.C_below HF.out HB.out) i hi
 cases e
 exact y
theorem u32_1 {w w1 : World} {ad : Addr} {f0 : Int} (HF : Azz (U32 w (some ad) [f0])) (HB : Azz (Below w.heap.size w w1)) : w1.cell? ad = some (.int .u32 f0) :=
 u32_get HF HB 0 (by simp)
theorem u32_2 {w w1 : World} {ad : Addr} {f0 f1 : Int} (HF : Azz (U32 w (some ad) [f0, f1])) (HB : Azz (Below w.heap.size w w1)) : w1.cell? ad = some (.int .u32 f0) ∧ w1.cell? ⟨ad.block, ad.off + 1, none⟩ = some (.int .u32 f1) :=
 ⟨u32_get HF HB 0 (by simp), u32_get HF HB 1 (by simp)⟩
theorem u32_3 {w w1 : World} {ad : Addr} {f0 f1 f2 : Int} (HF : Azz (U32 w (some ad) [f0, f1, f2])) (HB : Azz (Below w.heap.size w w1)) : w1.cell? ad = some (.int .u32 f0) ∧ w1.cell? ⟨ad.block, ad.off + 1, none⟩ = some (.int .u32 f1) ∧ w1.cell? ⟨ad.block, ad.off + 2, none⟩ = some (.int .u32 f2) :=
 ⟨u32_get HF HB 0 (by simp), u32_get HF HB 1 (by simp), u32_get HF HB 2 (by simp)⟩
theorem u32_4 {w w1 : World} {ad : Addr} {f0 f1 f2 f3 : Int} (HF : Azz (U32 w (some ad) [f0, f1, f2, f3])) (HB : Azz (Below w.heap.size w w1)) : w1.cell? ad = some (.int .u32 f0) ∧ w1.cell? ⟨ad.block, ad.off + 1, none⟩ = some (.int .u32 f1) ∧ w1.cell? ⟨ad.block, ad.off + 2, none⟩ = some (.int .u32 f2) ∧ w1.cell? ⟨ad.block, ad.off + 3, none⟩ = some (.int .u32 f3) :=
 ⟨u32_get HF HB 0 (by simp), u32_get HF HB 1 (by simp), u32_get HF HB 2 (by simp), u32_get HF HB 3 (by simp)⟩
theorem u32_5 {w w1 : World} {ad : Addr} {f0 f1 f2 f3 f4 : Int} (HF : Azz (U32 w (some ad) [f0, f1, f2, f3, f4])) (HB : Azz (Below w.heap.size w w1)) : w1.cell? ad = some (.int .u32 f0) ∧ w1.cell? ⟨ad.block, ad.off + 1, none⟩ = some (.int .u32 f1) ∧ w1.cell? ⟨ad.block, ad.off + 2, none⟩ = some (.int .u32 f2) ∧ w1.cell? ⟨ad.block, ad.off + 3, none⟩ = some (.int .u32 f3) ∧ w1.cell? ⟨ad.block, ad.off + 4, none⟩ = some (.int .u32 f4) :=
 ⟨u32_get HF HB 0 (by simp), u32_get HF HB 1 (by simp), u32_get HF HB 2 (by simp), u32_get HF HB 3 (by simp), u32_get HF HB 4 (by simp)⟩
theorem row10Z {W : World} {b : Nat} (h : At W b Z10) (v0 v1 v2 v3 v4 v5 v6 v7 v8 v9 : Value) : ((((((((((W.setCell ⟨b, 0, none⟩ v0).setCell ⟨b, 1, none⟩ v1).setCell ⟨b, 2, none⟩ v2).setCell ⟨b, 3, none⟩ v3).setCell ⟨b, 4, none⟩ v4).setCell ⟨b, 5, none⟩ v5).setCell ⟨b, 6, none⟩ v6).setCell ⟨b, 7, none⟩ v7).setCell ⟨b, 8, none⟩ v8).setCell ⟨b, 9, none⟩ v9).heap[b]? = some (.cells #[v0, v1, v2, v3, v4, v5, v6, v7, v8, v9] 135 (0, 0)) := P.row10 h v0 v1 v2 v3 v4 v5 v6 v7 v8 v9
theorem rsigned_calls (v n : Nat) (hn : 1 ≤ n) (hn2 : n < 32) (hv : v < 2 ^ n) (W : World) : Calls Tryz.prog 135 #[.int .u32 (v : Int), .int .i64 (n : Int)] W fun e w' => e = .returned (.int .i64 (sgn n v)) ∧ Drawn0 W w' := by
 obtain ⟨K, hK⟩ := rsigned_ev v n hn hn2 hv
 exact P.cleatref05_signed.calls K _ _ _ W (hK K (Nat.le_refl _))
def OfPost (r : Array Value) (w : World) (e : Ending) (w' : World) : Prop := e = .returned (.agg r) ∧ Below w.heap.size w w'
theorem of_1 (w : World) (A : Option Addr) (c : Nat) (op : Int) (f0 f1 f2 : Nat) (hs : P.cleatref04_Shape.f op = some 1) (hf : U32 w A [(f0 : Int), (f1 : Int), (f2 : Int)]) (hf0 : f0 < 32) (hf1 : f1 < 65536) (hf2 : f2 < 4) :
 Calls Tryz.prog 109 #[.int .i64 op, .slice A 3 c] w (OfPost #[.int .i64 op, .int .i64 (f0 : Int), .int .i64 0, .int .i64 0, .int .i64 0, .int .i64 (f1 : Int), .int .u64 0, .int .i64 0, .int .i64 (16 * (f2 : Int)), .int .i64 0] w) := by
 have HSh := Azz.mk (fun W => P.cleatref04_Shape.calls op _ W hs)
 have HHd := Azz.mk (fun W => P.cleatref04_Has.calls 20 1 ⟨#[100]⟩ true W (by kernel_rfl))
 have HHn := Azz.mk (fun W => P.cleatref04_Has.calls 20 1 ⟨#[110]⟩ false W (by kernel_rfl))
 obtain ⟨ad, rfl, nb1, nb2⟩ := u32_some hf
 have HF := Azz.mk hf
 clear hs hf
 go_enter Tryz.func109, Tryz.ntmps109
 go_wp2_with fail
 (with_reducible refine (HSh.out _).mono ?_)
 rintro e w1 ⟨rfl, hb⟩
 obtain ⟨HI, HE, HB⟩ := of_s1 hb
 clear hb HSh
 go_wp2_with fail
 (with_reducible refine (HHd.out _).mono ?_)
 rintro e w2 ⟨rfl, hb⟩
 obtain ⟨HI, HE, HB⟩ := of_s2 HI HE HB hb
 clear hb HHd
 have x0 := (u32_3 HF HB).1
 obtain ⟨e0, e1, e2, e3, e4, e5, e6, e7, e8, e9⟩ := cel10 HE.out
 have ef := fun i => kFF HE.out i
 go_wp2_with fail
 (with_reducible refine (HHn.out _).mono ?_)
 rintro e w3 ⟨rfl, hb⟩
 clear e0 e1 e2 e3 e4 e5 e6 e7 e8 e9 ef x0
 obtain ⟨HI, HE, HB⟩ := of_s3 HI HE HB hb
 clear hb HHn
 obtain ⟨i0, i1, i2, i3, i4, i5, i6, i7, i8, i9⟩ := cel10 HI.out
 have if_ := fun i => kFF HI.out i
 obtain ⟨e0, e1, e2, e3, e4, e5, e6, e7, e8, e9⟩ := cel10 HE.out
 have ef := fun i => kFF HE.out i
 obtain ⟨x0, x1, x2⟩ := u32_3 HF HB
 go_wp2
 refine bodyPost_ret (results_cell_row rfl _ _ w.heap.size 135 _ (0, 0) _ rfl (row10Z ?blk _ _ _ _ _ _ _ _ _ _) Tryz.underlying135 rfl (by kernel_rfl)) rfl ⟨rfl, ?bel⟩
 all_goals repeat (first | (with_reducible exact HI.out) | (with_reducible exact HB.out) | (with_reducible refine kNN ?_ _) | (with_reducible refine kAA ?_ _) | (with_reducible refine blk_far ?_ (Nat.succ_ne_self _).symm _) | (with_reducible apply bAA) | (with_reducible apply bNN) | (with_reducible apply bDD) | (with_reducible refine bSS ?_ (Nat.le_refl _)) | (with_reducible refine bSS ?_ (Nat.le_succ _)))
theorem of_2 (w : World) (A : Option Addr) (c : Nat) (op : Int) (f0 f1 f2 f3 : Nat) (hs : P.cleatref04_Shape.f op = some 2) (hf : U32 w A [(f0 : Int), (f1 : Int), (f2 : Int), (f3 : Int)]) (hf0 : f0 < 32) (hf1 : f1 < 32) (hf2 : f2 < 4096) (hf3 : f3 < 2) :
 Calls Tryz.prog 109 #[.int .i64 op, .slice A 4 c] w (OfPost #[.int .i64 op, .int .i64 (f0 : Int), .int .i64 (f1 : Int), .int .i64 0, .int .i64 0, .int .i64 (f2 : Int), .int .u64 0, .int .i64 0, .int .i64 (12 * (f3 : Int)), .int .i64 0] w) := by
 have HSh := Azz.mk (fun W => P.cleatref04_Shape.calls op _ W hs)
 have HHd := Azz.mk (fun W => P.cleatref04_Has.calls 20 2 ⟨#[100]⟩ true W (by kernel_rfl))
 have HHn := Azz.mk (fun W => P.cleatref04_Has.calls 20 2 ⟨#[110]⟩ true W (by kernel_rfl))
 obtain ⟨ad, rfl, nb1, nb2⟩ := u32_some hf
 have HF := Azz.mk hf
 clear hs hf
 go_enter Tryz.func109, Tryz.ntmps109
 go_wp2_with fail
 (with_reducible refine (HSh.out _).mono ?_)
 rintro e w1 ⟨rfl, hb⟩
 obtain ⟨HI, HE, HB⟩ := of_s1 hb
 clear hb HSh
 go_wp2_with fail
 (with_reducible refine (HHd.out _).mono ?_)
 rintro e w2 ⟨rfl, hb⟩
 obtain ⟨HI, HE, HB⟩ := of_s2 HI HE HB hb
 clear hb HHd
 have x0 := (u32_4 HF HB).1
 obtain ⟨e0, e1, e2, e3, e4, e5, e6, e7, e8, e9⟩ := cel10 HE.out
 have ef := fun i => kFF HE.out i
 go_wp2_with fail
 (with_reducible refine (HHn.out _).mono ?_)
 rintro e w3 ⟨rfl, hb⟩
 clear e0 e1 e2 e3 e4 e5 e6 e7 e8 e9 ef x0
 obtain ⟨HI, HE, HB⟩ := of_s3 HI HE HB hb
 clear hb HHn
 obtain ⟨i0, i1, i2, i3, i4, i5, i6, i7, i8, i9⟩ := cel10 HI.out
 have if_ := fun i => kFF HI.out i
 obtain ⟨e0, e1, e2, e3, e4, e5, e6, e7, e8, e9⟩ := cel10 HE.out
 have ef := fun i => kFF HE.out i
 obtain ⟨x0, x1, x2, x3⟩ := u32_4 HF HB
 go_wp2
 refine bodyPost_ret (results_cell_row rfl _ _ w.heap.size 135 _ (0, 0) _ rfl (row10Z ?blk _ _ _ _ _ _ _ _ _ _) Tryz.underlying135 rfl (by kernel_rfl)) rfl ⟨rfl, ?bel⟩
 all_goals repeat (first | (with_reducible exact HI.out) | (with_reducible exact HB.out) | (with_reducible refine kNN ?_ _) | (with_reducible refine kAA ?_ _) | (with_reducible refine blk_far ?_ (Nat.succ_ne_self _).symm _) | (with_reducible apply bAA) | (with_reducible apply bNN) | (with_reducible apply bDD) | (with_reducible refine bSS ?_ (Nat.le_refl _)) | (with_reducible refine bSS ?_ (Nat.le_succ _)))
theorem of_3 (w : World) (A : Option Addr) (c : Nat) (op : Int) (f0 f1 f2 f3 f4 : Nat) (hs : P.cleatref04_Shape.f op = some 3) (hf : U32 w A [(f0 : Int), (f1 : Int), (f2 : Int), (f3 : Int), (f4 : Int)]) (hf0 : f0 < 32) (hf1 : f1 < 32) (hf2 : f2 < 64) (hf3 : f3 < 64) (hf4 : f4 < 2) :
 ∃ mk, U64 mk ∧ Calls Tryz.prog 109 #[.int .i64 op, .slice A 5 c] w (OfPost #[.int .i64 op, .int .i64 (f0 : Int), .int .i64 (f1 : Int), .int .i64 0, .int .i64 0, .int .i64 0, .int .u64 mk, .int .i64 0, .int .i64 0, .int .i64 0] w) := by
 obtain ⟨⟨mk, em⟩, ⟨K, hK⟩, hU⟩ := rdec_ends (IntKind.i64.wrap (f4 : Int)) (IntKind.i64.wrap (f3 : Int)) (IntKind.i64.wrap (f2 : Int))
 have HDc := Azz.mk (fun W => P.cleatref02_Decode.calls K _ _ _ mk em W (hK K (Nat.le_refl _)))
 refine ⟨mk, hU, ?_⟩
 clear hK hU
 have HSh := Azz.mk (fun W => P.cleatref04_Shape.calls op _ W hs)
 have HHd := Azz.mk (fun W => P.cleatref04_Has.calls 20 3 ⟨#[100]⟩ true W (by kernel_rfl))
 have HHn := Azz.mk (fun W => P.cleatref04_Has.calls 20 3 ⟨#[110]⟩ true W (by kernel_rfl))
 obtain ⟨ad, rfl, nb1, nb2⟩ := u32_some hf
 have HF := Azz.mk hf
 clear hs hf
 go_enter Tryz.func109, Tryz.ntmps109
 go_wp2_with fail
 (with_reducible refine (HSh.out _).mono ?_)
 rintro e w1 ⟨rfl, hb⟩
 obtain ⟨HI, HE, HB⟩ := of_s1 hb
 clear hb HSh
 go_wp2_with fail
 (with_reducible refine (HHd.out _).mono ?_)
 rintro e w2 ⟨rfl, hb⟩
 obtain ⟨HI, HE, HB⟩ := of_s2 HI HE HB hb
 clear hb HHd
 have x0 := (u32_5 HF HB).1
 obtain ⟨e0, e1, e2, e3, e4, e5, e6, e7, e8, e9⟩ := cel10 HE.out
 have ef := fun i => kFF HE.out i
 go_wp2_with fail
 (with_reducible refine (HHn.out _).mono ?_)
 rintro e w3 ⟨rfl, hb⟩
 clear e0 e1 e2 e3 e4 e5 e6 e7 e8 e9 ef x0
 obtain ⟨HI, HE, HB⟩ := of_s3 HI HE HB hb
 clear hb HHn
 obtain ⟨i0, i1, i2, i3, i4, i5, i6, i7, i8, i9⟩ := cel10 HI.out
 have if_ := fun i => kFF HI.out i
 obtain ⟨e0, e1, e2, e3, e4, e5, e6, e7, e8, e9⟩ := cel10 HE.out
 have ef := fun i => kFF HE.out i
 obtain ⟨x0, x1, x2, x3, x4⟩ := u32_5 HF HB
 go_wp2
 go_region_held3 (fun w' => w'.cell? ⟨ad.block, ad.off + 4, none⟩ = some (.int .u32 (f4 : Int)) ∧ w'.cell? ⟨ad.block, ad.off + 3, none⟩ = some (.int .u32 (f3 : Int)) ∧ w'.cell? ⟨ad.block, ad.off + 2, none⟩ = some (.int .u32 (f2 : Int))) (go_keep) (first | (go_at_call 134; (with_reducible refine (HDc.out _).mono ?_); rintro e w' ⟨rfl, ⟨nd, rfl⟩⟩))
 go_wp2
 refine bodyPost_ret (results_cell_row rfl _ _ w.heap.size 135 _ (0, 0) _ rfl (row10Z ?blk _ _ _ _ _ _ _ _ _ _) Tryz.underlying135 rfl (by kernel_rfl)) rfl ⟨rfl, ?bel⟩
 all_goals repeat (first | (with_reducible exact HI.out) | (with_reducible exact HB.out) | (with_reducible refine kNN ?_ _) | (with_reducible refine kAA ?_ _) | (with_reducible refine blk_far ?_ (Nat.succ_ne_self _).symm _) | (with_reducible apply bAA) | (with_reducible apply bNN) | (with_reducible apply bDD) | (with_reducible refine bSS ?_ (Nat.le_refl _)) | (with_reducible refine bSS ?_ (Nat.le_succ _)))
theorem of_4 (w : World) (A : Option Addr) (c : Nat) (op : Int) (f0 f1 f2 f3 f4 : Nat) (hs : P.cleatref04_Shape.f op = some 4) (hf : U32 w A [(f0 : Int), (f1 : Int), (f2 : Int), (f3 : Int), (f4 : Int)]) (hf0 : f0 < 32) (hf1 : f1 < 32) (hf2 : f2 < 64) (hf3 : f3 < 32) (hf4 : f4 < 4) :
 Calls Tryz.prog 109 #[.int .i64 op, .slice A 5 c] w (OfPost #[.int .i64 op, .int .i64 (f0 : Int), .int .i64 (f1 : Int), .int .i64 (f3 : Int), .int .i64 0, .int .i64 0, .int .u64 0, .int .i64 (f4 : Int), .int .i64 (f2 : Int), .int .i64 0] w) := by
 have HSh := Azz.mk (fun W => P.cleatref04_Shape.calls op _ W hs)
 have HHd := Azz.mk (fun W => P.cleatref04_Has.calls 20 4 ⟨#[100]⟩ true W (by kernel_rfl))
 have HHn := Azz.mk (fun W => P.cleatref04_Has.calls 20 4 ⟨#[110]⟩ true W (by kernel_rfl))
 obtain ⟨ad, rfl, nb1, nb2⟩ := u32_some hf
 have HF := Azz.mk hf
 clear hs hf
 go_enter Tryz.func109, Tryz.ntmps109
 go_wp2_with fail
 (with_reducible refine (HSh.out _).mono ?_)
 rintro e w1 ⟨rfl, hb⟩
 obtain ⟨HI, HE, HB⟩ := of_s1 hb
 clear hb HSh
 go_wp2_with fail
 (with_reducible refine (HHd.out _).mono ?_)
 rintro e w2 ⟨rfl, hb⟩
 obtain ⟨HI, HE, HB⟩ := of_s2 HI HE HB hb
 clear hb HHd
 have x0 := (u32_5 HF HB).1
 obtain ⟨e0, e1, e2, e3, e4, e5, e6, e7, e8, e9⟩ := cel10 HE.out
 have ef := fun i => kFF HE.out i
 go_wp2_with fail
 (with_reducible refine (HHn.out _).mono ?_)
 rintro e w3 ⟨rfl, hb⟩
 clear e0 e1 e2 e3 e4 e5 e6 e7 e8 e9 ef x0
 obtain ⟨HI, HE, HB⟩ := of_s3 HI HE HB hb
 clear hb HHn
 obtain ⟨i0, i1, i2, i3, i4, i5, i6, i7, i8, i9⟩ := cel10 HI.out
 have if_ := fun i => kFF HI.out i
 obtain ⟨e0, e1, e2, e3, e4, e5, e6, e7, e8, e9⟩ := cel10 HE.out
 have ef := fun i => kFF HE.out i
 obtain ⟨x0, x1, x2, x3, x4⟩ := u32_5 HF HB
 go_wp2
 refine bodyPost_ret (results_cell_row rfl _ _ w.heap.size 135 _ (0, 0) _ rfl (row10Z ?blk _ _ _ _ _ _ _ _ _ _) Tryz.underlying135 rfl (by kernel_rfl)) rfl ⟨rfl, ?bel⟩
 all_goals repeat (first | (with_reducible exact HI.out) | (with_reducible exact HB.out) | (with_reducible refine kNN ?_ _) | (with_reducible refine kAA ?_ _) | (with_reducible refine blk_far ?_ (Nat.succ_ne_self _).symm _) | (with_reducible apply bAA) | (with_reducible apply bNN) | (with_reducible apply bDD) | (with_reducible refine bSS ?_ (Nat.le_refl _)) | (with_reducible refine bSS ?_ (Nat.le_succ _)))
theorem of_5 (w : World) (A : Option Addr) (c : Nat) (op : Int) (f0 f1 f2 f3 f4 : Nat) (hs : P.cleatref04_Shape.f op = some 5) (hf : U32 w A [(f0 : Int), (f1 : Int), (f2 : Int), (f3 : Int), (f4 : Int)]) (hf0 : f0 < 32) (hf1 : f1 < 32) (hf2 : f2 < 64) (hf3 : f3 < 32) (hf4 : f4 < 4) :
 Calls Tryz.prog 109 #[.int .i64 op, .slice A 5 c] w (OfPost #[.int .i64 op, .int .i64 (f0 : Int), .int .i64 (f1 : Int), .int .i64 (f3 : Int), .int .i64 0, .int .i64 0, .int .u64 0, .int .i64 (f4 : Int), .int .i64 (f2 : Int), .int .i64 0] w) := by
 have HSh := Azz.mk (fun W => P.cleatref04_Shape.calls op _ W hs)
 have HHd := Azz.mk (fun W => P.cleatref04_Has.calls 20 5 ⟨#[100]⟩ true W (by kernel_rfl))
 have HHn := Azz.mk (fun W => P.cleatref04_Has.calls 20 5 ⟨#[110]⟩ true W (by kernel_rfl))
 obtain ⟨ad, rfl, nb1, nb2⟩ := u32_some hf
 have HF := Azz.mk hf
 clear hs hf
 go_enter Tryz.func109, Tryz.ntmps109
 go_wp2_with fail
 (with_reducible refine (HSh.out _).mono ?_)
 rintro e w1 ⟨rfl, hb⟩
 obtain ⟨HI, HE, HB⟩ := of_s1 hb
 clear hb HSh
 go_wp2_with fail
 (with_reducible refine (HHd.out _).mono ?_)
 rintro e w2 ⟨rfl, hb⟩
 obtain ⟨HI, HE, HB⟩ := of_s2 HI HE HB hb
 clear hb HHd
 have x0 := (u32_5 HF HB).1
 obtain ⟨e0, e1, e2, e3, e4, e5, e6, e7, e8, e9⟩ := cel10 HE.out
 have ef := fun i => kFF HE.out i
 go_wp2_with fail
 (with_reducible refine (HHn.out _).mono ?_)
 rintro e w3 ⟨rfl, hb⟩
 clear e0 e1 e2 e3 e4 e5 e6 e7 e8 e9 ef x0
 obtain ⟨HI, HE, HB⟩ := of_s3 HI HE HB hb
 clear hb HHn
 obtain ⟨i0, i1, i2, i3, i4, i5, i6, i7, i8, i9⟩ := cel10 HI.out
 have if_ := fun i => kFF HI.out i
 obtain ⟨e0, e1, e2, e3, e4, e5, e6, e7, e8, e9⟩ := cel10 HE.out
 have ef := fun i => kFF HE.out i
 obtain ⟨x0, x1, x2, x3, x4⟩ := u32_5 HF HB
 go_wp2
 refine bodyPost_ret (results_cell_row rfl _ _ w.heap.size 135 _ (0, 0) _ rfl (row10Z ?blk _ _ _ _ _ _ _ _ _ _) Tryz.underlying135 rfl (by kernel_rfl)) rfl ⟨rfl, ?bel⟩
 all_goals repeat (first | (with_reducible exact HI.out) | (with_reducible exact HB.out) | (with_reducible refine kNN ?_ _) | (with_reducible refine kAA ?_ _) | (with_reducible refine blk_far ?_ (Nat.succ_ne_self _).symm _) | (with_reducible apply bAA) | (with_reducible apply bNN) | (with_reducible apply bDD) | (with_reducible refine bSS ?_ (Nat.le_refl _)) | (with_reducible refine bSS ?_ (Nat.le_succ _)))
theorem of_6 (w : World) (A : Option Addr) (c : Nat) (op : Int) (f0 f1 f2 f3 : Nat) (hs : P.cleatref04_Shape.f op = some 6) (hf : U32 w A [(f0 : Int), (f1 : Int), (f2 : Int), (f3 : Int)]) (hf0 : f0 < 32) (hf1 : f1 < 32) (hf2 : f2 < 32) (hf3 : f3 < 32) :
 Calls Tryz.prog 109 #[.int .i64 op, .slice A 4 c] w (OfPost #[.int .i64 op, .int .i64 (f0 : Int), .int .i64 (f1 : Int), .int .i64 (f3 : Int), .int .i64 (f2 : Int), .int .i64 0, .int .u64 0, .int .i64 0, .int .i64 0, .int .i64 0] w) := by
 have HSh := Azz.mk (fun W => P.cleatref04_Shape.calls op _ W hs)
 have HHd := Azz.mk (fun W => P.cleatref04_Has.calls 20 6 ⟨#[100]⟩ true W (by kernel_rfl))
 have HHn := Azz.mk (fun W => P.cleatref04_Has.calls 20 6 ⟨#[110]⟩ true W (by kernel_rfl))
 obtain ⟨ad, rfl, nb1, nb2⟩ := u32_some hf
 have HF := Azz.mk hf
 clear hs hf
 go_enter Tryz.func109, Tryz.ntmps109
 go_wp2_with fail
 (with_reducible refine (HSh.out _).mono ?_)
 rintro e w1 ⟨rfl, hb⟩
 obtain ⟨HI, HE, HB⟩ := of_s1 hb
 clear hb HSh
 go_wp2_with fail
 (with_reducible refine (HHd.out _).mono ?_)
 rintro e w2 ⟨rfl, hb⟩
 obtain ⟨HI, HE, HB⟩ := of_s2 HI HE HB hb
 clear hb HHd
 have x0 := (u32_4 HF HB).1
 obtain ⟨e0, e1, e2, e3, e4, e5, e6, e7, e8, e9⟩ := cel10 HE.out
 have ef := fun i => kFF HE.out i
 go_wp2_with fail
 (with_reducible refine (HHn.out _).mono ?_)
 rintro e w3 ⟨rfl, hb⟩
 clear e0 e1 e2 e3 e4 e5 e6 e7 e8 e9 ef x0
 obtain ⟨HI, HE, HB⟩ := of_s3 HI HE HB hb
 clear hb HHn
 obtain ⟨i0, i1, i2, i3, i4, i5, i6, i7, i8, i9⟩ := cel10 HI.out
 have if_ := fun i => kFF HI.out i
 obtain ⟨e0, e1, e2, e3, e4, e5, e6, e7, e8, e9⟩ := cel10 HE.out
 have ef := fun i => kFF HE.out i
 obtain ⟨x0, x1, x2, x3⟩ := u32_4 HF HB
 go_wp2
 refine bodyPost_ret (results_cell_row rfl _ _ w.heap.size 135 _ (0, 0) _ rfl (row10Z ?blk _ _ _ _ _ _ _ _ _ _) Tryz.underlying135 rfl (by kernel_rfl)) rfl ⟨rfl, ?bel⟩
 all_goals repeat (first | (with_reducible exact HI.out) | (with_reducible exact HB.out) | (with_reducible refine kNN ?_ _) | (with_reducible refine kAA ?_ _) | (with_reducible refine blk_far ?_ (Nat.succ_ne_self _).symm _) | (with_reducible apply bAA) | (with_reducible apply bNN) | (with_reducible apply bDD) | (with_reducible refine bSS ?_ (Nat.le_refl _)) | (with_reducible refine bSS ?_ (Nat.le_succ _)))
theorem of_7 (w : World) (A : Option Addr) (c : Nat) (op : Int) (f0 f1 f2 : Nat) (hs : P.cleatref04_Shape.f op = some 7) (hf : U32 w A [(f0 : Int), (f1 : Int), (f2 : Int)]) (hf0 : f0 < 32) (hf1 : f1 < 32) (hf2 : f2 < 4096) :
 Calls Tryz.prog 109 #[.int .i64 op, .slice A 3 c] w (OfPost #[.int .i64 op, .int .i64 (f0 : Int), .int .i64 (f1 : Int), .int .i64 0, .int .i64 0, .int .i64 (8 * (f2 : Int)), .int .u64 0, .int .i64 0, .int .i64 0, .int .i64 0] w) := by
 have HSh := Azz.mk (fun W => P.cleatref04_Shape.calls op _ W hs)
 have HHd := Azz.mk (fun W => P.cleatref04_Has.calls 20 7 ⟨#[100]⟩ true W (by kernel_rfl))
 have HHn := Azz.mk (fun W => P.cleatref04_Has.calls 20 7 ⟨#[110]⟩ true W (by kernel_rfl))
 obtain ⟨ad, rfl, nb1, nb2⟩ := u32_some hf
 have HF := Azz.mk hf
 clear hs hf
 go_enter Tryz.func109, Tryz.ntmps109
 go_wp2_with fail
 (with_reducible refine (HSh.out _).mono ?_)
 rintro e w1 ⟨rfl, hb⟩
 obtain ⟨HI, HE, HB⟩ := of_s1 hb
 clear hb HSh
 go_wp2_with fail
 (with_reducible refine (HHd.out _).mono ?_)
 rintro e w2 ⟨rfl, hb⟩
 obtain ⟨HI, HE, HB⟩ := of_s2 HI HE HB hb
 clear hb HHd
 have x0 := (u32_3 HF HB).1
 obtain ⟨e0, e1, e2, e3, e4, e5, e6, e7, e8, e9⟩ := cel10 HE.out
 have ef := fun i => kFF HE.out i
 go_wp2_with fail
 (with_reducible refine (HHn.out _).mono ?_)
 rintro e w3 ⟨rfl, hb⟩
 clear e0 e1 e2 e3 e4 e5 e6 e7 e8 e9 ef x0
 obtain ⟨HI, HE, HB⟩ := of_s3 HI HE HB hb
 clear hb HHn
 obtain ⟨i0, i1, i2, i3, i4, i5, i6, i7, i8, i9⟩ := cel10 HI.out
 have if_ := fun i => kFF HI.out i
 obtain ⟨e0, e1, e2, e3, e4, e5, e6, e7, e8, e9⟩ := cel10 HE.out
 have ef := fun i => kFF HE.out i
 obtain ⟨x0, x1, x2⟩ := u32_3 HF HB
 go_wp2
 refine bodyPost_ret (results_cell_row rfl _ _ w.heap.size 135 _ (0, 0) _ rfl (row10Z ?blk _ _ _ _ _ _ _ _ _ _) Tryz.underlying135 rfl (by kernel_rfl)) rfl ⟨rfl, ?bel⟩
 all_goals repeat (first | (with_reducible exact HI.out) | (with_reducible exact HB.out) | (with_reducible refine kNN ?_ _) | (with_reducible refine kAA ?_ _) | (with_reducible refine blk_far ?_ (Nat.succ_ne_self _).symm _) | (with_reducible apply bAA) | (with_reducible apply bNN) | (with_reducible apply bDD) | (with_reducible refine bSS ?_ (Nat.le_refl _)) | (with_reducible refine bSS ?_ (Nat.le_succ _)))
theorem of_8 (w : World) (A : Option Addr) (c : Nat) (op : Int) (f0 f1 f2 : Nat) (hs : P.cleatref04_Shape.f op = some 8) (hf : U32 w A [(f0 : Int), (f1 : Int), (f2 : Int)]) (hf0 : f0 < 32) (hf1 : f1 < 32) (hf2 : f2 < 4096) :
 Calls Tryz.prog 109 #[.int .i64 op, .slice A 3 c] w (OfPost #[.int .i64 op, .int .i64 (f0 : Int), .int .i64 (f1 : Int), .int .i64 0, .int .i64 0, .int .i64 (f2 : Int), .int .u64 0, .int .i64 0, .int .i64 0, .int .i64 0] w) := by
 have HSh := Azz.mk (fun W => P.cleatref04_Shape.calls op _ W hs)
 have HHd := Azz.mk (fun W => P.cleatref04_Has.calls 20 8 ⟨#[100]⟩ true W (by kernel_rfl))
 have HHn := Azz.mk (fun W => P.cleatref04_Has.calls 20 8 ⟨#[110]⟩ true W (by kernel_rfl))
 obtain ⟨ad, rfl, nb1, nb2⟩ := u32_some hf
 have HF := Azz.mk hf
 clear hs hf
 go_enter Tryz.func109, Tryz.ntmps109
 go_wp2_with fail
 (with_reducible refine (HSh.out _).mono ?_)
 rintro e w1 ⟨rfl, hb⟩
 obtain ⟨HI, HE, HB⟩ := of_s1 hb
 clear hb HSh
 go_wp2_with fail
 (with_reducible refine (HHd.out _).mono ?_)
 rintro e w2 ⟨rfl, hb⟩
 obtain ⟨HI, HE, HB⟩ := of_s2 HI HE HB hb
 clear hb HHd
 have x0 := (u32_3 HF HB).1
 obtain ⟨e0, e1, e2, e3, e4, e5, e6, e7, e8, e9⟩ := cel10 HE.out
 have ef := fun i => kFF HE.out i
 go_wp2_with fail
 (with_reducible refine (HHn.out _).mono ?_)
 rintro e w3 ⟨rfl, hb⟩
 clear e0 e1 e2 e3 e4 e5 e6 e7 e8 e9 ef x0
 obtain ⟨HI, HE, HB⟩ := of_s3 HI HE HB hb
 clear hb HHn
 obtain ⟨i0, i1, i2, i3, i4, i5, i6, i7, i8, i9⟩ := cel10 HI.out
 have if_ := fun i => kFF HI.out i
 obtain ⟨e0, e1, e2, e3, e4, e5, e6, e7, e8, e9⟩ := cel10 HE.out
 have ef := fun i => kFF HE.out i
 obtain ⟨x0, x1, x2⟩ := u32_3 HF HB
 go_wp2
 refine bodyPost_ret (results_cell_row rfl _ _ w.heap.size 135 _ (0, 0) _ rfl (row10Z ?blk _ _ _ _ _ _ _ _ _ _) Tryz.underlying135 rfl (by kernel_rfl)) rfl ⟨rfl, ?bel⟩
 all_goals repeat (first | (with_reducible exact HI.out) | (with_reducible exact HB.out) | (with_reducible refine kNN ?_ _) | (with_reducible refine kAA ?_ _) | (with_reducible refine blk_far ?_ (Nat.succ_ne_self _).symm _) | (with_reducible apply bAA) | (with_reducible apply bNN) | (with_reducible apply bDD) | (with_reducible refine bSS ?_ (Nat.le_refl _)) | (with_reducible refine bSS ?_ (Nat.le_succ _)))
theorem of_9 (w : World) (A : Option Addr) (c : Nat) (op : Int) (f0 f1 : Nat) (hs : P.cleatref04_Shape.f op = some 9) (hf : U32 w A [(f0 : Int), (f1 : Int)]) (hf0 : f0 < 32) (hf1 : f1 < 524288) :
 Calls Tryz.prog 109 #[.int .i64 op, .slice A 2 c] w (OfPost #[.int .i64 op, .int .i64 (f0 : Int), .int .i64 0, .int .i64 0, .int .i64 0, .int .i64 (wrap64 (4 * sgn 19 f1)), .int .u64 0, .int .i64 0, .int .i64 0, .int .i64 0] w) := by
 have HSg : Azz (∀ W, Calls Tryz.prog 135 #[.int .u32 (f1 : Int), .int .i64 19] W fun e w' => e = .returned (.int .i64 (sgn 19 f1)) ∧ Drawn0 W w') := ⟨fun W => rsigned_calls f1 19 (by decide) (by decide) hf1 W⟩
 have HSh := Azz.mk (fun W => P.cleatref04_Shape.calls op _ W hs)
 have HHd := Azz.mk (fun W => P.cleatref04_Has.calls 20 9 ⟨#[100]⟩ true W (by kernel_rfl))
 have HHn := Azz.mk (fun W => P.cleatref04_Has.calls 20 9 ⟨#[110]⟩ false W (by kernel_rfl))
 obtain ⟨ad, rfl, nb1, nb2⟩ := u32_some hf
 have HF := Azz.mk hf
 clear hs hf
 go_enter Tryz.func109, Tryz.ntmps109
 go_wp2_with fail
 (with_reducible refine (HSh.out _).mono ?_)
 rintro e w1 ⟨rfl, hb⟩
 obtain ⟨HI, HE, HB⟩ := of_s1 hb
 clear hb HSh
 go_wp2_with fail
 (with_reducible refine (HHd.out _).mono ?_)
 rintro e w2 ⟨rfl, hb⟩
 obtain ⟨HI, HE, HB⟩ := of_s2 HI HE HB hb
 clear hb HHd
 have x0 := (u32_2 HF HB).1
 obtain ⟨e0, e1, e2, e3, e4, e5, e6, e7, e8, e9⟩ := cel10 HE.out
 have ef := fun i => kFF HE.out i
 go_wp2_with fail
 (with_reducible refine (HHn.out _).mono ?_)
 rintro e w3 ⟨rfl, hb⟩
 clear e0 e1 e2 e3 e4 e5 e6 e7 e8 e9 ef x0
 obtain ⟨HI, HE, HB⟩ := of_s3 HI HE HB hb
 clear hb HHn
 obtain ⟨i0, i1, i2, i3, i4, i5, i6, i7, i8, i9⟩ := cel10 HI.out
 have if_ := fun i => kFF HI.out i
 obtain ⟨e0, e1, e2, e3, e4, e5, e6, e7, e8, e9⟩ := cel10 HE.out
 have ef := fun i => kFF HE.out i
 obtain ⟨x0, x1⟩ := u32_2 HF HB
 go_wp2_with (first | (go_at_call 135; (with_reducible refine (HSg.out _).mono ?_); rintro e w' ⟨rfl, ⟨nd, rfl⟩⟩))
 refine bodyPost_ret (results_cell_row rfl _ _ w.heap.size 135 _ (0, 0) _ rfl (row10Z ?blk _ _ _ _ _ _ _ _ _ _) Tryz.underlying135 rfl (by kernel_rfl)) rfl ⟨rfl, ?bel⟩
 all_goals repeat (first | (with_reducible exact HI.out) | (with_reducible exact HB.out) | (with_reducible refine kNN ?_ _) | (with_reducible refine kAA ?_ _) | (with_reducible refine blk_far ?_ (Nat.succ_ne_self _).symm _) | (with_reducible apply bAA) | (with_reducible apply bNN) | (with_reducible apply bDD) | (with_reducible refine bSS ?_ (Nat.le_refl _)) | (with_reducible refine bSS ?_ (Nat.le_succ _)))
theorem of_10 (w : World) (A : Option Addr) (c : Nat) (op : Int) (f0 f1 f2 : Nat) (hs : P.cleatref04_Shape.f op = some 10) (hf : U32 w A [(f0 : Int), (f1 : Int), (f2 : Int)]) (hf0 : f0 < 32) (hf1 : f1 < 524288) (hf2 : f2 < 4) :
 Calls Tryz.prog 109 #[.int .i64 op, .slice A 3 c] w (OfPost #[.int .i64 op, .int .i64 (f0 : Int), .int .i64 0, .int .i64 0, .int .i64 0, .int .i64 (sgn 21 (4 * f1 + f2)), .int .u64 0, .int .i64 0, .int .i64 0, .int .i64 0] w) := by
 have ew : IntKind.u32.wrap (IntKind.u32.wrap (4 * (f1 : Int)) + (f2 : Int)) = ((4 * f1 + f2 : Nat) : Int) := by
  show (4 * (f1 : Int) % 4294967296 + (f2 : Int)) % 4294967296 = _
  omega
 have HSg : Azz (∀ W, Calls Tryz.prog 135 #[.int .u32 (IntKind.u32.wrap (IntKind.u32.wrap (4 * (f1 : Int)) + (f2 : Int))), .int .i64 21] W fun e w' => e = .returned (.int .i64 (sgn 21 (4 * f1 + f2))) ∧ Drawn0 W w') := ⟨fun W => by rw [ew]; exact rsigned_calls (4 * f1 + f2) 21 (by decide) (by decide) (by show _ < 2097152; omega) W⟩
 clear ew
 have HSh := Azz.mk (fun W => P.cleatref04_Shape.calls op _ W hs)
 have HHd := Azz.mk (fun W => P.cleatref04_Has.calls 20 10 ⟨#[100]⟩ true W (by kernel_rfl))
 have HHn := Azz.mk (fun W => P.cleatref04_Has.calls 20 10 ⟨#[110]⟩ false W (by kernel_rfl))
 obtain ⟨ad, rfl, nb1, nb2⟩ := u32_some hf
 have HF := Azz.mk hf
 clear hs hf
 go_enter Tryz.func109, Tryz.ntmps109
 go_wp2_with fail
 (with_reducible refine (HSh.out _).mono ?_)
 rintro e w1 ⟨rfl, hb⟩
 obtain ⟨HI, HE, HB⟩ := of_s1 hb
 clear hb HSh
 go_wp2_with fail
 (with_reducible refine (HHd.out _).mono ?_)
 rintro e w2 ⟨rfl, hb⟩
 obtain ⟨HI, HE, HB⟩ := of_s2 HI HE HB hb
 clear hb HHd
 have x0 := (u32_3 HF HB).1
 obtain ⟨e0, e1, e2, e3, e4, e5, e6, e7, e8, e9⟩ := cel10 HE.out
 have ef := fun i => kFF HE.out i
 go_wp2_with fail
 (with_reducible refine (HHn.out _).mono ?_)
 rintro e w3 ⟨rfl, hb⟩
 clear e0 e1 e2 e3 e4 e5 e6 e7 e8 e9 ef x0
 obtain ⟨HI, HE, HB⟩ := of_s3 HI HE HB hb
 clear hb HHn
 obtain ⟨i0, i1, i2, i3, i4, i5, i6, i7, i8, i9⟩ := cel10 HI.out
 have if_ := fun i => kFF HI.out i
 obtain ⟨e0, e1, e2, e3, e4, e5, e6, e7, e8, e9⟩ := cel10 HE.out
 have ef := fun i => kFF HE.out i
 obtain ⟨x0, x1, x2⟩ := u32_3 HF HB
 go_wp2
 go_region_held3 (fun w' => w'.cell? ⟨ad.block, ad.off + 1, none⟩ = some (.int .u32 (f1 : Int)) ∧ w'.cell? ⟨ad.block, ad.off + 2, none⟩ = some (.int .u32 (f2 : Int))) (go_keep) (first | (go_at_call 135; (with_reducible refine (HSg.out _).mono ?_); rintro e w' ⟨rfl, ⟨nd, rfl⟩⟩))
 go_wp2
 refine bodyPost_ret (results_cell_row rfl _ _ w.heap.size 135 _ (0, 0) _ rfl (row10Z ?blk _ _ _ _ _ _ _ _ _ _) Tryz.underlying135 rfl (by kernel_rfl)) rfl ⟨rfl, ?bel⟩
 all_goals repeat (first | (with_reducible exact HI.out) | (with_reducible exact HB.out) | (with_reducible refine kNN ?_ _) | (with_reducible refine kAA ?_ _) | (with_reducible refine blk_far ?_ (Nat.succ_ne_self _).symm _) | (with_reducible apply bAA) | (with_reducible apply bNN) | (with_reducible apply bDD) | (with_reducible refine bSS ?_ (Nat.le_refl _)) | (with_reducible refine bSS ?_ (Nat.le_succ _)))
theorem of_11 (w : World) (A : Option Addr) (c : Nat) (op : Int) (f0 : Nat) (hs : P.cleatref04_Shape.f op = some 11) (hf : U32 w A [(f0 : Int)]) (hf0 : f0 < 67108864) :
 Calls Tryz.prog 109 #[.int .i64 op, .slice A 1 c] w (OfPost #[.int .i64 op, .int .i64 0, .int .i64 0, .int .i64 0, .int .i64 0, .int .i64 (wrap64 (4 * sgn 26 f0)), .int .u64 0, .int .i64 0, .int .i64 0, .int .i64 0] w) := by
 have HSg : Azz (∀ W, Calls Tryz.prog 135 #[.int .u32 (f0 : Int), .int .i64 26] W fun e w' => e = .returned (.int .i64 (sgn 26 f0)) ∧ Drawn0 W w') := ⟨fun W => rsigned_calls f0 26 (by decide) (by decide) hf0 W⟩
 have HSh := Azz.mk (fun W => P.cleatref04_Shape.calls op _ W hs)
 have HHd := Azz.mk (fun W => P.cleatref04_Has.calls 20 11 ⟨#[100]⟩ false W (by kernel_rfl))
 have HHn := Azz.mk (fun W => P.cleatref04_Has.calls 20 11 ⟨#[110]⟩ false W (by kernel_rfl))
 obtain ⟨ad, rfl, nb1, nb2⟩ := u32_some hf
 have HF := Azz.mk hf
 clear hs hf
 go_enter Tryz.func109, Tryz.ntmps109
 go_wp2_with fail
 (with_reducible refine (HSh.out _).mono ?_)
 rintro e w1 ⟨rfl, hb⟩
 obtain ⟨HI, HE, HB⟩ := of_s1 hb
 clear hb HSh
 go_wp2_with fail
 (with_reducible refine (HHd.out _).mono ?_)
 rintro e w2 ⟨rfl, hb⟩
 obtain ⟨HI, HE, HB⟩ := of_s2 HI HE HB hb
 clear hb HHd
 go_wp2_with fail
 (with_reducible refine (HHn.out _).mono ?_)
 rintro e w3 ⟨rfl, hb⟩
 obtain ⟨HI, HE, HB⟩ := of_s2 HI HE HB hb
 clear hb HHn
 obtain ⟨i0, i1, i2, i3, i4, i5, i6, i7, i8, i9⟩ := cel10 HI.out
 have if_ := fun i => kFF HI.out i
 obtain ⟨e0, e1, e2, e3, e4, e5, e6, e7, e8, e9⟩ := cel10 HE.out
 have ef := fun i => kFF HE.out i
 have x0 := u32_1 HF HB
 go_wp2_with (first | (go_at_call 135; (with_reducible refine (HSg.out _).mono ?_); rintro e w' ⟨rfl, ⟨nd, rfl⟩⟩))
 refine bodyPost_ret (results_cell_row rfl _ _ w.heap.size 135 _ (0, 0) _ rfl (row10Z ?blk _ _ _ _ _ _ _ _ _ _) Tryz.underlying135 rfl (by kernel_rfl)) rfl ⟨rfl, ?bel⟩
 all_goals repeat (first | (with_reducible exact HI.out) | (with_reducible exact HB.out) | (with_reducible refine kNN ?_ _) | (with_reducible refine kAA ?_ _) | (with_reducible refine blk_far ?_ (Nat.succ_ne_self _).symm _) | (with_reducible apply bAA) | (with_reducible apply bNN) | (with_reducible apply bDD) | (with_reducible refine bSS ?_ (Nat.le_refl _)) | (with_reducible refine bSS ?_ (Nat.le_succ _)))
theorem of_12 (w : World) (A : Option Addr) (c : Nat) (op : Int) (f0 f1 : Nat) (hs : P.cleatref04_Shape.f op = some 12) (hf : U32 w A [(f0 : Int), (f1 : Int)]) (hf0 : f0 < 16) (hf1 : f1 < 524288) :
 Calls Tryz.prog 109 #[.int .i64 op, .slice A 2 c] w (OfPost #[.int .i64 op, .int .i64 0, .int .i64 0, .int .i64 0, .int .i64 0, .int .i64 (wrap64 (4 * sgn 19 f1)), .int .u64 0, .int .i64 0, .int .i64 0, .int .i64 (f0 : Int)] w) := by
 have HSg : Azz (∀ W, Calls Tryz.prog 135 #[.int .u32 (f1 : Int), .int .i64 19] W fun e w' => e = .returned (.int .i64 (sgn 19 f1)) ∧ Drawn0 W w') := ⟨fun W => rsigned_calls f1 19 (by decide) (by decide) hf1 W⟩
 have HSh := Azz.mk (fun W => P.cleatref04_Shape.calls op _ W hs)
 have HHd := Azz.mk (fun W => P.cleatref04_Has.calls 20 12 ⟨#[100]⟩ false W (by kernel_rfl))
 have HHn := Azz.mk (fun W => P.cleatref04_Has.calls 20 12 ⟨#[110]⟩ false W (by kernel_rfl))
 obtain ⟨ad, rfl, nb1, nb2⟩ := u32_some hf
 have HF := Azz.mk hf
 clear hs hf
 go_enter Tryz.func109, Tryz.ntmps109
 go_wp2_with fail
 (with_reducible refine (HSh.out _).mono ?_)
 rintro e w1 ⟨rfl, hb⟩
 obtain ⟨HI, HE, HB⟩ := of_s1 hb
 clear hb HSh
 go_wp2_with fail
 (with_reducible refine (HHd.out _).mono ?_)
 rintro e w2 ⟨rfl, hb⟩
 obtain ⟨HI, HE, HB⟩ := of_s2 HI HE HB hb
 clear hb HHd
 go_wp2_with fail
 (with_reducible refine (HHn.out _).mono ?_)
 rintro e w3 ⟨rfl, hb⟩
 obtain ⟨HI, HE, HB⟩ := of_s2 HI HE HB hb
 clear hb HHn
 obtain ⟨i0, i1, i2, i3, i4, i5, i6, i7, i8, i9⟩ := cel10 HI.out
 have if_ := fun i => kFF HI.out i
 obtain ⟨e0, e1, e2, e3, e4, e5, e6, e7, e8, e9⟩ := cel10 HE.out
 have ef := fun i => kFF HE.out i
 obtain ⟨x0, x1⟩ := u32_2 HF HB
 go_wp2_with (first | (go_at_call 135; (with_reducible refine (HSg.out _).mono ?_); rintro e w' ⟨rfl, ⟨nd, rfl⟩⟩))
 refine bodyPost_ret (results_cell_row rfl _ _ w.heap.size 135 _ (0, 0) _ rfl (row10Z ?blk _ _ _ _ _ _ _ _ _ _) Tryz.underlying135 rfl (by kernel_rfl)) rfl ⟨rfl, ?bel⟩
 all_goals repeat (first | (with_reducible exact HI.out) | (with_reducible exact HB.out) | (with_reducible refine kNN ?_ _) | (with_reducible refine kAA ?_ _) | (with_reducible refine blk_far ?_ (Nat.succ_ne_self _).symm _) | (with_reducible apply bAA) | (with_reducible apply bNN) | (with_reducible apply bDD) | (with_reducible refine bSS ?_ (Nat.le_refl _)) | (with_reducible refine bSS ?_ (Nat.le_succ _)))
theorem of_13 (w : World) (A : Option Addr) (c : Nat) (op : Int) (f0 : Nat) (hs : P.cleatref04_Shape.f op = some 13) (hf : U32 w A [(f0 : Int)]) (hf0 : f0 < 32) :
 Calls Tryz.prog 109 #[.int .i64 op, .slice A 1 c] w (OfPost #[.int .i64 op, .int .i64 0, .int .i64 (f0 : Int), .int .i64 0, .int .i64 0, .int .i64 0, .int .u64 0, .int .i64 0, .int .i64 0, .int .i64 0] w) := by
 have HSh := Azz.mk (fun W => P.cleatref04_Shape.calls op _ W hs)
 have HHd := Azz.mk (fun W => P.cleatref04_Has.calls 20 13 ⟨#[100]⟩ false W (by kernel_rfl))
 have HHn := Azz.mk (fun W => P.cleatref04_Has.calls 20 13 ⟨#[110]⟩ true W (by kernel_rfl))
 obtain ⟨ad, rfl, nb1, nb2⟩ := u32_some hf
 have HF := Azz.mk hf
 clear hs hf
 go_enter Tryz.func109, Tryz.ntmps109
 go_wp2_with fail
 (with_reducible refine (HSh.out _).mono ?_)
 rintro e w1 ⟨rfl, hb⟩
 obtain ⟨HI, HE, HB⟩ := of_s1 hb
 clear hb HSh
 go_wp2_with fail
 (with_reducible refine (HHd.out _).mono ?_)
 rintro e w2 ⟨rfl, hb⟩
 obtain ⟨HI, HE, HB⟩ := of_s2 HI HE HB hb
 clear hb HHd
 go_wp2_with fail
 (with_reducible refine (HHn.out _).mono ?_)
 rintro e w3 ⟨rfl, hb⟩
 obtain ⟨HI, HE, HB⟩ := of_s2 HI HE HB hb
 clear hb HHn
 obtain ⟨i0, i1, i2, i3, i4, i5, i6, i7, i8, i9⟩ := cel10 HI.out
 have if_ := fun i => kFF HI.out i
 obtain ⟨e0, e1, e2, e3, e4, e5, e6, e7, e8, e9⟩ := cel10 HE.out
 have ef := fun i => kFF HE.out i
 have x0 := u32_1 HF HB
 go_wp2
 refine bodyPost_ret (results_cell_row rfl _ _ w.heap.size 135 _ (0, 0) _ rfl (row10Z ?blk _ _ _ _ _ _ _ _ _ _) Tryz.underlying135 rfl (by kernel_rfl)) rfl ⟨rfl, ?bel⟩
 all_goals repeat (first | (with_reducible exact HI.out) | (with_reducible exact HB.out) | (with_reducible refine kNN ?_ _) | (with_reducible refine kAA ?_ _) | (with_reducible refine blk_far ?_ (Nat.succ_ne_self _).symm _) | (with_reducible apply bAA) | (with_reducible apply bNN) | (with_reducible apply bDD) | (with_reducible refine bSS ?_ (Nat.le_refl _)) | (with_reducible refine bSS ?_ (Nat.le_succ _)))
theorem of_14 (w : World) (A : Option Addr) (c : Nat) (op : Int) (f0 : Nat) (hs : P.cleatref04_Shape.f op = some 14) (hf : U32 w A [(f0 : Int)]) (hf0 : f0 < 65536) :
 Calls Tryz.prog 109 #[.int .i64 op, .slice A 1 c] w (OfPost #[.int .i64 op, .int .i64 0, .int .i64 0, .int .i64 0, .int .i64 0, .int .i64 (f0 : Int), .int .u64 0, .int .i64 0, .int .i64 0, .int .i64 0] w) := by
 have HSh := Azz.mk (fun W => P.cleatref04_Shape.calls op _ W hs)
 have HHd := Azz.mk (fun W => P.cleatref04_Has.calls 20 14 ⟨#[100]⟩ false W (by kernel_rfl))
 have HHn := Azz.mk (fun W => P.cleatref04_Has.calls 20 14 ⟨#[110]⟩ false W (by kernel_rfl))
 obtain ⟨ad, rfl, nb1, nb2⟩ := u32_some hf
 have HF := Azz.mk hf
 clear hs hf
 go_enter Tryz.func109, Tryz.ntmps109
 go_wp2_with fail
 (with_reducible refine (HSh.out _).mono ?_)
 rintro e w1 ⟨rfl, hb⟩
 obtain ⟨HI, HE, HB⟩ := of_s1 hb
 clear hb HSh
 go_wp2_with fail
 (with_reducible refine (HHd.out _).mono ?_)
 rintro e w2 ⟨rfl, hb⟩
 obtain ⟨HI, HE, HB⟩ := of_s2 HI HE HB hb
 clear hb HHd
 go_wp2_with fail
 (with_reducible refine (HHn.out _).mono ?_)
 rintro e w3 ⟨rfl, hb⟩
 obtain ⟨HI, HE, HB⟩ := of_s2 HI HE HB hb
 clear hb HHn
 obtain ⟨i0, i1, i2, i3, i4, i5, i6, i7, i8, i9⟩ := cel10 HI.out
 have if_ := fun i => kFF HI.out i
 obtain ⟨e0, e1, e2, e3, e4, e5, e6, e7, e8, e9⟩ := cel10 HE.out
 have ef := fun i => kFF HE.out i
 have x0 := u32_1 HF HB
 go_wp2
 refine bodyPost_ret (results_cell_row rfl _ _ w.heap.size 135 _ (0, 0) _ rfl (row10Z ?blk _ _ _ _ _ _ _ _ _ _) Tryz.underlying135 rfl (by kernel_rfl)) rfl ⟨rfl, ?bel⟩
 all_goals repeat (first | (with_reducible exact HI.out) | (with_reducible exact HB.out) | (with_reducible refine kNN ?_ _) | (with_reducible refine kAA ?_ _) | (with_reducible refine blk_far ?_ (Nat.succ_ne_self _).symm _) | (with_reducible apply bAA) | (with_reducible apply bNN) | (with_reducible apply bDD) | (with_reducible refine bSS ?_ (Nat.le_refl _)) | (with_reducible refine bSS ?_ (Nat.le_succ _)))
theorem of_15 (w : World) (A : Option Addr) (c : Nat) (op : Int) (hs : P.cleatref04_Shape.f op = some 15) (hf : U32 w A []) :
 Calls Tryz.prog 109 #[.int .i64 op, .slice A 0 c] w (OfPost #[.int .i64 op, .int .i64 0, .int .i64 0, .int .i64 0, .int .i64 0, .int .i64 0, .int .u64 0, .int .i64 0, .int .i64 0, .int .i64 0] w) := by
 have HSh := Azz.mk (fun W => P.cleatref04_Shape.calls op _ W hs)
 have HHd := Azz.mk (fun W => P.cleatref04_Has.calls 20 15 ⟨#[100]⟩ false W (by kernel_rfl))
 have HHn := Azz.mk (fun W => P.cleatref04_Has.calls 20 15 ⟨#[110]⟩ false W (by kernel_rfl))
 clear hs
 go_enter Tryz.func109, Tryz.ntmps109
 go_wp2_with fail
 (with_reducible refine (HSh.out _).mono ?_)
 rintro e w1 ⟨rfl, hb⟩
 obtain ⟨HI, HE, HB⟩ := of_s1 hb
 clear hb HSh
 go_wp2_with fail
 (with_reducible refine (HHd.out _).mono ?_)
 rintro e w2 ⟨rfl, hb⟩
 obtain ⟨HI, HE, HB⟩ := of_s2 HI HE HB hb
 clear hb HHd
 go_wp2_with fail
 (with_reducible refine (HHn.out _).mono ?_)
 rintro e w3 ⟨rfl, hb⟩
 obtain ⟨HI, HE, HB⟩ := of_s2 HI HE HB hb
 clear hb HHn
 obtain ⟨i0, i1, i2, i3, i4, i5, i6, i7, i8, i9⟩ := cel10 HI.out
 have if_ := fun i => kFF HI.out i
 obtain ⟨e0, e1, e2, e3, e4, e5, e6, e7, e8, e9⟩ := cel10 HE.out
 have ef := fun i => kFF HE.out i
 go_wp2
 refine bodyPost_ret (results_cell_row rfl _ _ w.heap.size 135 _ (0, 0) _ rfl (row10Z ?blk _ _ _ _ _ _ _ _ _ _) Tryz.underlying135 rfl (by kernel_rfl)) rfl ⟨rfl, ?bel⟩
 all_goals repeat (first | (with_reducible exact HI.out) | (with_reducible exact HB.out) | (with_reducible refine kNN ?_ _) | (with_reducible refine kAA ?_ _) | (with_reducible refine blk_far ?_ (Nat.succ_ne_self _).symm _) | (with_reducible apply bAA) | (with_reducible apply bNN) | (with_reducible apply bDD) | (with_reducible refine bSS ?_ (Nat.le_refl _)) | (with_reducible refine bSS ?_ (Nat.le_succ _)))
theorem of_16 (w : World) (A : Option Addr) (c : Nat) (op : Int) (f0 f1 f2 f3 : Nat) (hs : P.cleatref04_Shape.f op = some 16) (hf : U32 w A [(f0 : Int), (f1 : Int), (f2 : Int), (f3 : Int)]) (hf0 : f0 < 32) (hf1 : f1 < 32) (hf2 : f2 < 16) (hf3 : f3 < 32) :
 Calls Tryz.prog 109 #[.int .i64 op, .slice A 4 c] w (OfPost #[.int .i64 op, .int .i64 (f0 : Int), .int .i64 (f1 : Int), .int .i64 (f3 : Int), .int .i64 0, .int .i64 0, .int .u64 0, .int .i64 0, .int .i64 0, .int .i64 (f2 : Int)] w) := by
 have HSh := Azz.mk (fun W => P.cleatref04_Shape.calls op _ W hs)
 have HHd := Azz.mk (fun W => P.cleatref04_Has.calls 20 16 ⟨#[100]⟩ true W (by kernel_rfl))
 have HHn := Azz.mk (fun W => P.cleatref04_Has.calls 20 16 ⟨#[110]⟩ true W (by kernel_rfl))
 obtain ⟨ad, rfl, nb1, nb2⟩ := u32_some hf
 have HF := Azz.mk hf
 clear hs hf
 go_enter Tryz.func109, Tryz.ntmps109
 go_wp2_with fail
 (with_reducible refine (HSh.out _).mono ?_)
 rintro e w1 ⟨rfl, hb⟩
 obtain ⟨HI, HE, HB⟩ := of_s1 hb
 clear hb HSh
 go_wp2_with fail
 (with_reducible refine (HHd.out _).mono ?_)
 rintro e w2 ⟨rfl, hb⟩
 obtain ⟨HI, HE, HB⟩ := of_s2 HI HE HB hb
 clear hb HHd
 have x0 := (u32_4 HF HB).1
 obtain ⟨e0, e1, e2, e3, e4, e5, e6, e7, e8, e9⟩ := cel10 HE.out
 have ef := fun i => kFF HE.out i
 go_wp2_with fail
 (with_reducible refine (HHn.out _).mono ?_)
 rintro e w3 ⟨rfl, hb⟩
 clear e0 e1 e2 e3 e4 e5 e6 e7 e8 e9 ef x0
 obtain ⟨HI, HE, HB⟩ := of_s3 HI HE HB hb
 clear hb HHn
 obtain ⟨i0, i1, i2, i3, i4, i5, i6, i7, i8, i9⟩ := cel10 HI.out
 have if_ := fun i => kFF HI.out i
 obtain ⟨e0, e1, e2, e3, e4, e5, e6, e7, e8, e9⟩ := cel10 HE.out
 have ef := fun i => kFF HE.out i
 obtain ⟨x0, x1, x2, x3⟩ := u32_4 HF HB
 go_wp2
 refine bodyPost_ret (results_cell_row rfl _ _ w.heap.size 135 _ (0, 0) _ rfl (row10Z ?blk _ _ _ _ _ _ _ _ _ _) Tryz.underlying135 rfl (by kernel_rfl)) rfl ⟨rfl, ?bel⟩
 all_goals repeat (first | (with_reducible exact HI.out) | (with_reducible exact HB.out) | (with_reducible refine kNN ?_ _) | (with_reducible refine kAA ?_ _) | (with_reducible refine blk_far ?_ (Nat.succ_ne_self _).symm _) | (with_reducible apply bAA) | (with_reducible apply bNN) | (with_reducible apply bDD) | (with_reducible refine bSS ?_ (Nat.le_refl _)) | (with_reducible refine bSS ?_ (Nat.le_succ _)))
end Go.Proofs.YtngmipfodjgmmaaGreatDoor.Pure
