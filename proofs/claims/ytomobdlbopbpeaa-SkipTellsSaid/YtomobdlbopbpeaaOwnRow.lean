/- Rows of one cell an element that the call owns: stores and reads. (The same lemmas stand in XWeight.) -/
import Derived.Test.YtomobdlbopbpeaaRow
namespace Go.Proofs.Ytomobdlbopbpeaa
open Go.RowKit Go.WideShapes Go.ChangeShapes
set_option linter.unusedVariables false
set_option linter.unusedSimpArgs false
/-- An element of a row that the call owns is stored over. -/
theorem own_store {w : World} {base g c n : Nat} {e : TypeId} {xs : List Value} (h : w.ownsRow base e 1 (.slice (some ⟨g, 0, none⟩) n c) n xs) {p : Nat} (hp : p < n) (u : Value) : (w.setCell ⟨g, p, none⟩ u).ownsRow base e 1 (.slice (some ⟨g, 0, none⟩) n c) n (xs.set p u) := by
  obtain ⟨h0, h⟩ := h
  refine ⟨by simpa using h0, ?_⟩
  rcases h with ⟨e1, _⟩ | ⟨g', cap, cur, e1, hb, hh, hc, hm, hs, ht⟩
  · cases e1
  · obtain ⟨rfl, rfl⟩ : g = g' ∧ c = cap := by simpa using e1
    refine .inr ⟨g, c, cur.setIfInBounds p u, rfl, hb, ?_, hc, hm, by simpa using hs, ?_⟩
    · show (w.heap.modify g _)[g]? = _
      rw [Array.getElem?_modify]
      simp [hh]
    · rw [Array.toList_setIfInBounds, ← ht, List.take_set]
theorem own_cell {w : World} {base g c n : Nat} {e : TypeId} {xs : List Value} (h : w.ownsRow base e 1 (.slice (some ⟨g, 0, none⟩) n c) n xs) {p : Nat} {u : Value} (hp : xs[p]? = some u) : w.cell? ⟨g, p, none⟩ = some u := by
  have := h.cells (g := g) rfl p u hp
  rwa [Addr.add_lit, Nat.zero_add] at this
theorem own_free {w : World} {base g c n : Nat} {e : TypeId} {xs : List Value} (h : w.ownsRow base e 1 (.slice (some ⟨g, 0, none⟩) n c) n xs) (p : Nat) : w.frozen? ⟨g, p, none⟩ = false := by
  rcases h.2 with ⟨e1, _⟩ | ⟨g', cap, cur, e1, hb, hh, hc, hm, hs, ht⟩
  · cases e1
  · obtain ⟨rfl, rfl⟩ : g = g' ∧ c = cap := by simpa using e1
    simp [World.frozen?, hh]
theorem own_at {w : World} {base n : Nat} {e : TypeId} {v : Value} {xs : List Value} (h : w.ownsRow base e 1 v n xs) (hn : 0 < n) : ∃ g c, v = .slice (some ⟨g, 0, none⟩) n c ∧ base ≤ g := by
  rcases h.2 with ⟨_, e⟩ | ⟨g, cap, cur, e1, hb, _⟩
  · omega
  · exact ⟨g, cap, e1, hb⟩
/-- The slice with this address, length and capacity holds these truths. -/
structure Bools (w : World) (A : Option Addr) (n c : Nat) (l : List Bool) : Prop where
  len : l.length = n
  cap : n ≤ c
  room : n ≤ 17592186043904
  nil : A = none → c = 0
  cells : 0 < n → ∃ b off, A = some ⟨b, off, none⟩ ∧ ∀ i, i < n → w.cell? ⟨b, off + i, none⟩ = some (.bool (l.getD i false))
theorem Bools.ext {w w' : World} {A : Option Addr} {n c : Nat} {l : List Bool} (h : Bools w A n c l) (hx : Ext w w') : Bools w' A n c l :=
  ⟨h.len, h.cap, h.room, h.nil, fun hn => let ⟨b, off, e, hc⟩ := h.cells hn; ⟨b, off, e, fun i hi => hx.cell (hc i hi)⟩⟩
def IsBools (w : World) (v : Value) (l : List Bool) : Prop := ∃ A n c, v = .slice A n c ∧ Bools w A n c l
theorem isBools_own {w : World} {base n : Nat} {e : TypeId} {v : Value} {l : List Bool} (h : w.ownsRow base e 1 v n (l.map Value.bool)) (hn : n ≤ 17592186043904) : IsBools w v l := by
  have hl : l.length = n := by have := h.1; simpa using this
  rcases h.2 with ⟨rfl, h0⟩ | ⟨g, cap, cur, rfl, _, hh, hc, hm, _⟩
  · subst h0
    have : l = [] := List.eq_nil_of_length_eq_zero hl
    subst this
    exact ⟨none, 0, 0, rfl, rfl, Nat.le_refl _, by omega, fun _ => rfl, fun h => absurd h (Nat.lt_irrefl _)⟩
  · refine ⟨_, n, cap, rfl, hl, hc, hn, (fun e => by cases e), fun hn0 => ⟨g, 0, rfl, fun i hi => ?_⟩⟩
    have := h.cells (g := g) rfl i (.bool (l.getD i false)) (by simp [List.getD, show i < l.length by omega])
    rwa [Addr.add_lit] at this
end Go.Proofs.Ytomobdlbopbpeaa
