/- 'graph.Reach' walked. -/
import Derived.Test.YtngmipfodjgmmaaDoorGu50
namespace Go.Proofs.YtngmipfodjgmmaaDoor.Pure
open Go Go.RowKit Go.Lib Go.Shelf Go.Proofs.YtngmipfodjgmmaaDoorW.PrintWords Go.Proofs.YtngmipfodjgmmaaDoorW.PrintLast Go.Proofs.YtngmipfodjgmmaaDoorW.PrintMore Go.Proofs.YtngmipfodjgmmaaDoor.Reach
open P (Glob UA nd NdOk Rt SpreadPost spread_in root_at)
set_option linter.unusedVariables false
set_option linter.unusedSimpArgs false
abbrev IA (w : World) (A : Option Addr) (xs : List Int) : Prop := Kd.C (Kd.int .i64) w A xs.length xs
theorem isU_calls {us : List P.S36} {b : Bool} (hp : IsU us b) (W : World) (A : Option Addr) (c : Nat) (hG : Glob W) (h : UA W A us) (hc : us.length ≤ c) :
    Calls Tryd.prog 15 #[.slice A us.length c] W fun x w' => x = .returned (.bool b) ∧ Below W.heap.size W w' := by
  obtain ⟨K, hK⟩ := hp
  exact P.graph_Is.calls K A c us b W hG h hc (hK K (Nat.le_refl _))
theorem spread_calls (w : World) (A A2 : Option Addr) (us : List P.S36) (roots : List Int) (c c2 : Nat) (hu : UA w A us) (hn : NdOk us) (hr : IA w A2 roots) (hrl : roots.length ≤ 100000) (hR : ∀ z ∈ roots, 0 ≤ z ∧ z < us.length) :
    Calls Tryd.prog 47 #[.iface 89 (.slice A us.length c), .slice A2 roots.length c2] w (SpreadPost us roots w) :=
  callsIn_wide.1 (spread_in w A A2 us roots c c2 hu hn hr hrl hR)
/-- The roots are units. -/
def ROk (us : List P.S36) (roots : List Int) : Prop := ∀ z ∈ roots, 0 ≤ z ∧ z < us.length
def ReachPost (us : List P.S36) (roots : List Int) (w : World) (e : Ending) (w' : World) : Prop :=
  Below w.heap.size w w' ∧ ((¬ (UOk us ∧ ROk us roots) ∧ e = .returned (.tuple #[.slice none 0 0, .int .i64 1])) ∨
  (UOk us ∧ ROk us roots ∧ ∃ (sb : Nat) (seen : List Bool), e = .returned (.tuple #[.slice (some ⟨sb, 0, none⟩) seen.length seen.length, .int .i64 0]) ∧ seen.length = us.length ∧ (∀ i, sn seen i ↔ RS (nd us) (Rt roots) i) ∧ w'.heap[sb]? = some (.cells (seen.map Value.bool).toArray 4 (0, 0)) ∧ w.heap.size ≤ sb))
theorem reach_bad {us roots} {w w' : World} (h : ¬ (UOk us ∧ ROk us roots)) (hb : Below w.heap.size w w') : ReachPost us roots w (.returned (.tuple #[.slice none 0 0, .int .i64 1])) w' := ⟨hb, .inl ⟨h, rfl⟩⟩
set_option maxRecDepth 100000 in
set_option maxHeartbeats 2000000 in
theorem reach_any (w : World) (A A2 : Option Addr) (us : List P.S36) (roots : List Int) (c c2 : Nat) (hG : Glob w) (hu : UA w A us) (hc : us.length ≤ c) (hn : Narrow us) (hul : us.length ≤ 100000) (hr : IA w A2 roots) (hrl : roots.length ≤ 100000) :
    Calls Tryd.prog 26 #[.slice A us.length c, .slice A2 roots.length c2] w (ReachPost us roots w) := by
  obtain ⟨b, hb, hbi⟩ := isU_ends us hn
  have HI := Aside0.mk (isU_calls hb w A c hG hu hc)
  have HU := Aside0.mk hu
  have HR := Aside0.mk hr
  have HBi := Aside0.mk hbi
  clear hb hbi hG hu hr hn hc
  cases b with
  | false =>
    go_enter Tryd.func26, Tryd.ntmps26
    go_wp2_with (go_at_call 15; (with_reducible refine HI.out.mono ?_); rintro e w1 ⟨rfl, hb⟩; have HB := Aside0.mk hb; clear hb)
    go_ret2
    exact reach_bad (fun h => absurd (HBi.out.2 h.1) (by decide)) HB.out
  | true =>
    have hok : UOk us := HBi.out.1 rfl
    have HN := Aside0.mk hok
    clear hok HBi
    go_enter Tryd.func26, Tryd.ntmps26
    go_wp2_with (go_at_call 15; (with_reducible refine HI.out.mono ?_); rintro e w1 ⟨rfl, hb⟩; have HB := Aside0.mk hb; clear hb HI)
    go_loopw [13] (fun v wr => ∃ i : Nat, i ≤ roots.length ∧ v = .int .i64 i ∧ Aside0 (∀ j, j < i → 0 ≤ roots.getD j 0 ∧ roots.getD j 0 < us.length) ∧ w1 = wr) (fun v _ => roots.length - (RowKit.intOf v).toNat)
    case atStart => exact ⟨0, Nat.zero_le _, rfl, ⟨fun j hj => absurd hj (Nat.not_lt_zero _)⟩, rfl⟩
    case round =>
      obtain ⟨i, hi, rfl, HP, rfl⟩ := hrel
      by_cases hlt : i < roots.length
      · obtain ⟨ad, e, hx⟩ := root_at w1 A2 roots (Kd.C_below HR.out HB.out) i hlt
        cases e
        obtain ⟨z, hz⟩ : ∃ z, roots.getD i 0 = z := ⟨_, rfl⟩
        have hm : z ∈ roots := by rw [← hz, List.getD_eq_getElem?_getD, List.getElem?_eq_getElem hlt]; exact List.getElem_mem hlt
        have HZ := Aside0.mk (And.intro hz hm)
        rw [hz] at hx
        clear hz hm
        by_cases h1 : z < 0
        · go_wp2
          go_ret2
          exact reach_bad (fun h => by have := h.2 z HZ.out.2; omega) HB.out
        · by_cases h2 : (us.length : Int) ≤ z
          · go_wp2
            go_ret2
            exact reach_bad (fun h => by have := h.2 z HZ.out.2; omega) HB.out
          · go_wp2
            go_roundw
            case rel =>
              refine ⟨i + 1, by omega, by go_num, ⟨fun j hj => ?_⟩, trivial⟩
              by_cases e : j = i
              · rw [e, HZ.out.1]; omega
              · exact HP.out j (by omega)
            case measure => simp [RowKit.intOf]; omega
      · obtain rfl : i = roots.length := by omega
        have HRk : Aside0 (ROk us roots) := ⟨fun z hz => by
          obtain ⟨j, hj, e⟩ := List.getElem_of_mem hz
          have := HP.out j hj
          rw [List.getD_eq_getElem?_getD, List.getElem?_eq_getElem hj, Option.getD_some, e] at this
          exact this⟩
        have HS := Aside0.mk (spread_calls w1 A A2 us roots c c2 (Kd.C_below HU.out HB.out) (nd_ok HN.out) (Kd.C_below HR.out HB.out) hrl HRk.out)
        clear HP hlt hi
        go_wp2_with (go_at_call 47; (with_reducible refine HS.out.mono ?_); rintro e w2 ⟨sb, seen, rfl, h1, h2, h3, h4, h5⟩; have HX := Aside0.mk (And.intro h1 (And.intro h2 (And.intro h3 (And.intro h4 h5)))); clear h1 h2 h3 h4 h5)
        go_ret2
        obtain ⟨h1, h2, h3, h4, h5⟩ := HX.out
        exact ⟨below_step HB.out h4, .inr ⟨HN.out, HRk.out, sb, seen, rfl, h1, h2, h3, Nat.le_trans HB.out.size h5⟩⟩
end Go.Proofs.YtngmipfodjgmmaaDoor.Pure
