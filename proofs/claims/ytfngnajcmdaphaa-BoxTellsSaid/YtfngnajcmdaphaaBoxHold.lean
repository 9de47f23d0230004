/- Layer 5: boxes of four cells in worlds that grow, and are stored in. -/
import Derived.Test.YtfngnajcmdaphaaBoxNotes
namespace Go.Proofs.Ytfngnajcmdaphaa
open Go.RowKit Go.WideShapes Go.ChangeShapes
set_option linter.unusedVariables false
set_option linter.unusedSimpArgs false
theorem TL.grown {w w' : World} {row : Option Nat} {A : Option Addr} {n c : Nat} {NS : List Note} (h : TL w A n c NS) (hg : w.grownBy w' row) (hne : ∀ ad, A = some ad → row ≠ some ad.block) : TL w' A n c NS :=
  ⟨⟨h.row.len, h.row.cap, h.row.room, h.row.wide, h.row.nil, fun hn => by
    obtain ⟨b, off, e, hc⟩ := h.row.cells hn
    refine ⟨b, off, e, fun i hi j v hv => ?_⟩
    exact grown_cell hg (hc i hi j v hv) (hne _ e)⟩, h.ok, h.bytes⟩
/-- A box of four cells, whose slice lies so. -/
structure Box4 (wr : World) (X4 : Nat) (bk : Int) (A' : Option Addr) (m c' : Nat) (bg bd : Bool) : Prop where
  c0 : wr.cell? ⟨X4, 0, none⟩ = some (.int .i64 bk)
  c1 : wr.cell? ⟨X4, 1, none⟩ = some (.slice A' m c')
  c2 : wr.cell? ⟨X4, 2, none⟩ = some (.bool bg)
  c3 : wr.cell? ⟨X4, 3, none⟩ = some (.bool bd)
  f : ∀ o, wr.frozen? ⟨X4, o, none⟩ = false
theorem Box4.ext {wr w' : World} {X4 m c' : Nat} {bk : Int} {A' : Option Addr} {bg bd : Bool} (h : Box4 wr X4 bk A' m c' bg bd) (k : Ext wr w') : Box4 w' X4 bk A' m c' bg bd :=
  ⟨k.cell h.c0, k.cell h.c1, k.cell h.c2, k.cell h.c3, k.free h.c0 h.f⟩
theorem Box4.grown {wr w' : World} {X4 m c' : Nat} {bk : Int} {A' : Option Addr} {bg bd : Bool} (h : Box4 wr X4 bk A' m c' bg bd) {row : Option Nat} (hg : wr.grownBy w' row) (hne : row ≠ some X4) : Box4 w' X4 bk A' m c' bg bd :=
  ⟨grown_cell hg h.c0 hne, grown_cell hg h.c1 hne, grown_cell hg h.c2 hne, grown_cell hg h.c3 hne, fun o => grown_free hg h.c0 hne (h.f o)⟩
theorem Box4.set {wr : World} {X4 m c' m2 c2 : Nat} {bk bk2 : Int} {A' A2 : Option Addr} {bg bd bg2 bd2 : Bool} (h : Box4 wr X4 bk A' m c' bg bd) :
    Box4 ((((wr.setCell ⟨X4, 0, none⟩ (.int .i64 bk2)).setCell ⟨X4, 1, none⟩ (.slice A2 m2 c2)).setCell ⟨X4, 2, none⟩ (.bool bg2)).setCell ⟨X4, 3, none⟩ (.bool bd2)) X4 bk2 A2 m2 c2 bg2 bd2 := by
  have R := set4_range (a := .int .i64 bk2) (b := .slice A2 m2 c2) (c := .bool bg2) (d := .bool bd2) h.c0 h.c1 h.c2 h.c3
  exact ⟨by simpa using R 0 _ rfl, by simpa using R 1 _ rfl, by simpa using R 2 _ rfl, by simpa using R 3 _ rfl, fun o => by simp [h.f o]⟩
theorem Box4.box {W : World} {X m c : Nat} {bk : Int} {A : Option Addr} {bg bd : Bool} (h : Box4 W X bk A m c bg bd) : W.rangeAt X 0 [Value.int .i64 bk, Value.slice A m c, Value.bool bg, Value.bool bd] := by
  intro j v hv
  match j, hv with
  | 0, hv => cases hv; simpa using h.c0
  | 1, hv => cases hv; simpa using h.c1
  | 2, hv => cases hv; simpa using h.c2
  | 3, hv => cases hv; simpa using h.c3
theorem TL.set4 {w : World} {A : Option Addr} {n c : Nat} {NS : List Note} {X : Nat} (h : TL w A n c NS) (hne : ∀ ad, A = some ad → ad.block ≠ X) (a b c' d : Value) : TL ((((w.setCell ⟨X, 0, none⟩ a).setCell ⟨X, 1, none⟩ b).setCell ⟨X, 2, none⟩ c').setCell ⟨X, 3, none⟩ d) A n c NS :=
  (((h.setCell (p := ⟨X, 0, none⟩) hne a).setCell (p := ⟨X, 1, none⟩) hne b).setCell (p := ⟨X, 2, none⟩) hne c').setCell (p := ⟨X, 3, none⟩) hne d
theorem ext_set4 {w W : World} {X : Nat} (k : Ext w W) (hX : w.heap.size ≤ X) (a b c d : Value) : Ext w ((((W.setCell ⟨X, 0, none⟩ a).setCell ⟨X, 1, none⟩ b).setCell ⟨X, 2, none⟩ c).setCell ⟨X, 3, none⟩ d) :=
  (((k.setCell (p := ⟨X, 0, none⟩) hX a).setCell (p := ⟨X, 1, none⟩) hX b).setCell (p := ⟨X, 2, none⟩) hX c).setCell (p := ⟨X, 3, none⟩) hX d
theorem own_set4 {w : World} {base n size : Nat} {e : TypeId} {v : Value} {xs : List Value} {X : Nat} (h : w.ownsRow base e size v n xs) (hX : v.ownBlock ≠ some X) (a b c d : Value) : ((((w.setCell ⟨X, 0, none⟩ a).setCell ⟨X, 1, none⟩ b).setCell ⟨X, 2, none⟩ c).setCell ⟨X, 3, none⟩ d).ownsRow base e size v n xs :=
  own_setCell' (a := ⟨X, 3, none⟩) (own_setCell' (a := ⟨X, 2, none⟩) (own_setCell' (a := ⟨X, 1, none⟩) (own_setCell' (a := ⟨X, 0, none⟩) h hX a) hX b) hX c) hX d
theorem range_set4 {w : World} {b o X : Nat} {cs : List Value} (h : w.rangeAt b o cs) (hne : b ≠ X) (x y z u : Value) : ((((w.setCell ⟨X, 0, none⟩ x).setCell ⟨X, 1, none⟩ y).setCell ⟨X, 2, none⟩ z).setCell ⟨X, 3, none⟩ u).rangeAt b o cs :=
  range_setB (range_setB (range_setB (range_setB h (p := ⟨X, 0, none⟩) hne _) (p := ⟨X, 1, none⟩) hne _) (p := ⟨X, 2, none⟩) hne _) (p := ⟨X, 3, none⟩) hne _
theorem own_blk {w : World} {base size n c : Nat} {e : TypeId} {A : Option Addr} {xs : List Value} {X : Nat} (h : w.ownsRow base e size (.slice A n c) n xs) (hne : (Value.slice A n c).ownBlock ≠ some X) : ∀ ad, A = some ad → ad.block ≠ X := by
  rintro ⟨b0, o0, s0⟩ rfl h'
  rcases h.2 with ⟨e1, _⟩ | ⟨g, c2, cur, e1, _⟩
  · cases e1
  · obtain ⟨rfl, rfl, rfl⟩ : (b0 = g ∧ o0 = 0 ∧ s0 = none) := by have := (Value.slice.inj e1).1; have := Option.some.inj this; simpa using this
    exact hne (by rw [← h']; rfl)
theorem own_off {w : World} {base k : Nat} {e : TypeId} {size : Nat} {v : Value} {n : Nat} {xs : List Value} (h : w.ownsRow base e size v n xs) (hk : k < base ∨ w.heap.size ≤ k) : v.ownBlock ≠ some k := fun h' => by
  have := h.lt _ h'
  omega
end Go.Proofs.Ytfngnajcmdaphaa
