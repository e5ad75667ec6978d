/- Reading a word comes to its end, whatever the word: 'Decode' and 'Fits' answer. -/
import Derived.Test.YtpcdebakiccecaaGreatDoorPs42
import Derived.Test.YtpcdebakiccecaaGreatDoorPs37
namespace Go.Proofs.YtpcdebakiccecaaGreatDoor.Pure
open Go Go.RowKit Go.Proofs.YtpcdebakiccecaaGreatDoorW.PrintWords Go.Proofs.YtpcdebakiccecaaGreatDoorW.PrintLast Go.Proofs.YtpcdebakiccecaaGreatDoorW.PrintMore
set_option linter.unusedVariables false
set_option linter.unusedSimpArgs false
/-- Comes to an answer, from some number of rounds on. -/
def Ends {α : Type} (g : Nat → Option α) : Prop := ∃ r, Ev g r
theorem Ends.now {α : Type} (r : α) : Ends (fun _ => some r) := ⟨r, Ev.now r⟩
theorem Ends.const {α : Type} {c : Option α} (h : ∃ r, c = some r) : Ends (fun _ => c) := by
 obtain ⟨r, rfl⟩ := h
 exact ⟨r, Ev.now r⟩
theorem Ends.ite {α : Type} {c : Prop} [Decidable c] {g f : Nat → Option α} (h : c → Ends g) (k : ¬c → Ends f) : Ends (fun n => if c then g n else f n) := by
 by_cases hc : c
 ·simp only [if_pos hc]; exact h hc
 ·simp only [if_neg hc]; exact k hc
theorem Ends.bind {α β : Type} {g : Nat → Option α} {f : Nat → α → Option β} (h : Ends g) (k : ∀ a, Ev g a → Ends (fun n => f n a)) : Ends (fun n => (g n).bind (f n)) := by
 obtain ⟨a, ha⟩ := h
 obtain ⟨r, hr⟩ := k a ha
 exact ⟨r, ha.bind hr⟩
theorem Ends.step {α : Type} {g f : Nat → Option α} (h : ∀ k, g (k + 1) = f k) (k : Ends f) : Ends g := by
 obtain ⟨r, hr⟩ := k
 exact ⟨r, Ev.step h hr⟩
theorem Ev.one {α : Type} {g : Nat → Option α} {a b : α} (h : Ev g a) (k : Ev g b) : a = b := by
 obtain ⟨K, h⟩ := h
 obtain ⟨K', k⟩ := k
 have h1 := h (max K K') (by omega)
 rw [k _ (by omega)] at h1
 exact (Option.some.inj h1).symm
/-- Comes to an answer of which more is known. -/
def EndsP {α : Type} (g : Nat → Option α) (p : α → Prop) : Prop := ∃ r, Ev g r ∧ p r
theorem EndsP.now {α : Type} {p : α → Prop} (r : α) (h : p r) : EndsP (fun _ => some r) p := ⟨r, Ev.now r, h⟩
theorem EndsP.ite {α : Type} {c : Prop} [Decidable c] {g f : Nat → Option α} {p : α → Prop} (h : c → EndsP g p) (k : ¬c → EndsP f p) : EndsP (fun n => if c then g n else f n) p := by
 by_cases hc : c
 ·simp only [if_pos hc]; exact h hc
 ·simp only [if_neg hc]; exact k hc
theorem EndsP.bind {α β : Type} {g : Nat → Option α} {f : Nat → α → Option β} {q : α → Prop} {p : β → Prop} (h : EndsP g q) (k : ∀ a, Ev g a → q a → EndsP (fun n => f n a) p) : EndsP (fun n => (g n).bind (f n)) p := by
 obtain ⟨a, ha, qa⟩ := h
 obtain ⟨r, hr, hp⟩ := k a ha qa
 exact ⟨r, ha.bind hr, hp⟩
theorem EndsP.step {α : Type} {g f : Nat → Option α} {p : α → Prop} (h : ∀ k, g (k + 1) = f k) (k : EndsP f p) : EndsP g p := by
 obtain ⟨r, hr, hp⟩ := k
 exact ⟨r, Ev.step h hr, hp⟩
theorem Ends.plain {α : Type} {g : Nat → Option α} (h : Ends g) : EndsP g (fun _ => True) := by
 obtain ⟨r, hr⟩ := h
 exact ⟨r, hr, trivial⟩
theorem signed_some (v n : Int) (hn : 1 ≤ n) (hn2 : n ≤ 32) : ∃ t, P.bits_Signed.f 1 v n = some t := by
 unfold P.bits_Signed.f
 rw [if_neg (by omega), decide_eq_false (by omega), P.bits_Signed.j0, if_neg (by simp), if_pos (by omega)]
 split
 ·rw [if_pos (by rw [wrap64_small _ (by omega) (by omega)]; omega)]
  split <;> exact ⟨_, rfl⟩
 ·exact ⟨_, rfl⟩
end Go.Proofs.YtpcdebakiccecaaGreatDoor.Pure
