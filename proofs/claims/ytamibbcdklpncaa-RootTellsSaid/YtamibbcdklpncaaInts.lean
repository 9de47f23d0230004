/- Slices of whole numbers that are read: what a slice holds, as a list; kept by worlds that only grow. -/
import Derived.Test.YtamibbcdklpncaaBase
import Derived.Maps.AppendAt
namespace Go.Proofs.Ytamibbcdklpncaa
open Go.RowKit Go.WideShapes Go.ChangeShapes
set_option linter.unusedVariables false
set_option linter.unusedSimpArgs false

/-- Element i of a list of numbers. -/
def nth (l : List Int) (i : Nat) : Int := l.getD i 0
theorem nth_eq {l : List Int} {i : Nat} (h : i < l.length) : nth l i = l[i] := by simp [nth, h]
theorem nth_map {k : IntKind} {l : List Int} {i : Nat} (h : i < l.length) : (l.map (Value.int k))[i]? = some (.int k (nth l i)) := by simp [nth, h]
theorem take_succ' {α : Type} {l : List α} {i : Nat} (h : i < l.length) : l.take (i + 1) = l.take i ++ [l[i]] := by rw [List.take_succ_eq_append_getElem h]
theorem take_nth {l : List Int} {i : Nat} (h : i < l.length) : l.take (i + 1) = l.take i ++ [nth l i] := by rw [nth_eq h, List.take_succ_eq_append_getElem h]
theorem nth_append_left {l r : List Int} {i : Nat} (h : i < l.length) : nth (l ++ r) i = nth l i := by simp [nth, h, List.getElem?_append_left h]
theorem nth_ext {l r : List Int} (h : l.length = r.length) (hn : ∀ i, i < l.length → nth l i = nth r i) : l = r := by
  apply List.ext_getElem h
  intro i h1 h2
  rw [← nth_eq h1, ← nth_eq h2, hn i h1]

/-- The slice with this address, length and capacity holds the numbers of l. -/
structure Ints (w : World) (k : IntKind) (A : Option Addr) (n c : Nat) (l : List Int) : Prop where
  len : l.length = n
  cap : n ≤ c
  room : n ≤ 17592186043904
  wf : ∀ x ∈ l, (Lit.int k x).wf = true
  nil : A = none → c = 0
  cells : 0 < n → ∃ b off, A = some ⟨b, off, none⟩ ∧ ∀ i, i < n → w.cell? ⟨b, off + i, none⟩ = some (.int k (nth l i))
namespace Ints
variable {w w' : World} {k : IntKind} {A : Option Addr} {n c : Nat} {l : List Int}
theorem ext (h : Ints w k A n c l) (hx : Ext w w') : Ints w' k A n c l :=
  ⟨h.len, h.cap, h.room, h.wf, h.nil, fun hn => let ⟨b, off, e, hc⟩ := h.cells hn; ⟨b, off, e, fun i hi => hx.cell (hc i hi)⟩⟩
/-- Either it is empty, or its address is plain; each cell of it. -/
theorem view (h : Ints w k A n c l) : n = 0 ∨ ∃ b off, A = some ⟨b, off, none⟩ ∧ ∀ i, i < n → w.cell? ⟨b, off + i, none⟩ = some (.int k (nth l i)) := by
  rcases Nat.eq_zero_or_pos n with h0 | h0
  · exact .inl h0
  · exact .inr (h.cells h0)
theorem i64 (h : Ints w .i64 A n c l) (i : Nat) : -9223372036854775808 ≤ nth l i ∧ nth l i ≤ 9223372036854775807 := by
  unfold nth
  by_cases hi : i < l.length
  · have := bounds_i64 (h.wf l[i] (List.getElem_mem hi))
    simpa [hi] using this
  · simp [hi]
theorem u64 (h : Ints w .u64 A n c l) (i : Nat) : 0 ≤ nth l i ∧ nth l i < 18446744073709551616 := by
  unfold nth
  by_cases hi : i < l.length
  · have := bounds_u64 (h.wf l[i] (List.getElem_mem hi))
    simp [hi]
    omega
  · simp [hi]
theorem nil_mk (w : World) (k : IntKind) : Ints w k none 0 0 [] := ⟨rfl, Nat.le_refl _, by omega, by simp, fun _ => rfl, fun h => absurd h (Nat.lt_irrefl _)⟩
end Ints
theorem Ints.setCell {w : World} {k : IntKind} {A : Option Addr} {n c : Nat} {l : List Int} (h : Ints w k A n c l) {p : Addr} (hne : 0 < n → ∀ ad, A = some ad → ad.block ≠ p.block) (u : Value) : Ints (w.setCell p u) k A n c l :=
  ⟨h.len, h.cap, h.room, h.wf, h.nil, fun hn => let ⟨b, off, e, hc⟩ := h.cells hn; ⟨b, off, e, fun i hi => by
    rw [World.cell?_of_block (w := w) (Below.heap_setCell w p u b (hne hn _ e))]; exact hc i hi⟩⟩
theorem Ints.block {w : World} {k : IntKind} {A : Option Addr} {n c : Nat} {l : List Int} (h : Ints w k A n c l) (hn : 0 < n) {ad : Addr} (e : A = some ad) : ad.block < w.heap.size := by
  obtain ⟨b, off, e', hc⟩ := h.cells hn
  rw [e'] at e
  obtain rfl := Option.some.inj e
  exact World.block_lt_of_cell? w _ (hc 0 hn)
theorem own_ne {w : World} {base : Nat} {e : TypeId} {size : Nat} {v : Value} {n : Nat} {xs : List Value} (h : w.ownsRow base e size v n xs) {g : Nat} (hg : g < base) : some g ≠ v.ownBlock := fun e => by
  have := (h.lt g e.symm).1
  omega
theorem own_from {w : World} {base : Nat} {e : TypeId} {size : Nat} {v : Value} {n : Nat} {xs : List Value} (h : w.ownsRow base e size v n xs) : ∀ k, v.ownBlock = some k → base ≤ k := fun k hk => (h.lt k hk).1
theorem own_ext {w w' : World} {base : Nat} {e : TypeId} {size : Nat} {v : Value} {n : Nat} {xs : List Value} (h : w.ownsRow base e size v n xs) (hx : Ext w w') : w'.ownsRow base e size v n xs :=
  h.kept (row := none) ⟨hx.out.os, hx.out.tape, hx.out.output, hx.out.size, fun k hk _ => hx.out.block k hk⟩ (by cases v.ownBlock <;> simp)
theorem own_setCell {w : World} {base : Nat} {e : TypeId} {size : Nat} {v : Value} {n : Nat} {xs : List Value} (h : w.ownsRow base e size v n xs) {a : Addr} (ha : a.block < base) (u : Value) : (w.setCell a u).ownsRow base e size v n xs := ownsRow_setCell_below h ha u
/-- A value that is a slice of these numbers. -/
def IsInts (w : World) (k : IntKind) (v : Value) (l : List Int) : Prop := ∃ A n c, v = .slice A n c ∧ Ints w k A n c l
theorem IsInts.ext {w w' : World} {k : IntKind} {v : Value} {l : List Int} (h : IsInts w k v l) (hx : Ext w w') : IsInts w' k v l := by
  obtain ⟨A, n, c, rfl, h⟩ := h
  exact ⟨A, n, c, rfl, h.ext hx⟩
/-- Such a slice in blocks from 'base' on. -/
def FreshInts (base : Nat) (w : World) (k : IntKind) (v : Value) (l : List Int) : Prop := ∃ A n c, v = .slice A n c ∧ Ints w k A n c l ∧ ∀ ad, A = some ad → base ≤ ad.block
theorem FreshInts.is {base : Nat} {w : World} {k : IntKind} {v : Value} {l : List Int} (h : FreshInts base w k v l) : IsInts w k v l := let ⟨A, n, c, e, hi, _⟩ := h; ⟨A, n, c, e, hi⟩
/-- What the call owns is such a slice. -/
theorem isInts_own {w : World} {base n : Nat} {e : TypeId} {k : IntKind} {v : Value} {l : List Int} (h : w.ownsRow base e 1 v n (l.map (Value.int k))) (hn : n ≤ 17592186043904) (hwf : ∀ x ∈ l, (Lit.int k x).wf = true) :
    IsInts w k v l := by
  have hl : l.length = n := by have := h.1; simpa using this
  rcases h.2 with ⟨rfl, h0⟩ | ⟨g, cap, cur, rfl, _, hh, hc, hm, _⟩
  · subst h0
    have : l = [] := List.eq_nil_of_length_eq_zero hl
    subst this
    exact ⟨none, 0, 0, rfl, Ints.nil_mk w k⟩
  · refine ⟨_, n, cap, rfl, hl, hc, hn, hwf, (fun e => by cases e), fun hn0 => ⟨g, 0, rfl, fun i hi => ?_⟩⟩
    have := h.cells (g := g) rfl i _ (nth_map (k := k) (l := l) (i := i) (by omega))
    rwa [Addr.add_lit] at this
theorem fresh_own {w : World} {base n : Nat} {e : TypeId} {k : IntKind} {v : Value} {l : List Int} (h : w.ownsRow base e 1 v n (l.map (Value.int k))) (hn : n ≤ 17592186043904) (hwf : ∀ x ∈ l, (Lit.int k x).wf = true) :
    FreshInts base w k v l := by
  obtain ⟨A, m, c, rfl, hi⟩ := isInts_own h hn hwf
  exact ⟨A, m, c, rfl, hi, fun ad e => by subst e; exact (h.lt ad.block rfl).1⟩

section
variable {H : Type} {enc : TypeId × Value → H} {P : Program} {w : World}
/-- An argument that is a slice of numbers of eight bytes. -/
theorem open_Ints {b0 : Nat} {t e : TypeId} {k : IntKind} {v : Value} {d : DataW H} {ps : List MemPlace} {ts : List TypeId} {ds : List (DataW H)} {j : Nat} (ht : P.underlying t = some (.slice e)) (he : P.underlying e = some (.int k)) (hce : P.cellsOf e = 1) (hby : P.bytesOf e = 8)
    (hval : Value.okWide P w .any b0 t v) (hd : DataW.Trod enc P w 0 (fun _ => true) true t v d ps)
    (hsz : (DataW.weightsEach P ts ds).all (· ≤ reachBytes) = true) (htj : ts[j]? = some t) (hdj : ds[j]? = some d) : ∃ l, IsInts w k v l := by
  obtain ⟨a0, len, cap, rfl⟩ := okWide_slice ht hval
  obtain ⟨fuel, hf⟩ := hd
  rcases open_ints ht he hce hf with ⟨hcs, hx⟩ | ⟨a, len', cap', zs, hcs, hb, hl, hm, hz, hx, hcell, hwz⟩
  · simp [Value.cells] at hcs
    obtain ⟨rfl, rfl, rfl⟩ := hcs
    exact ⟨[], none, 0, 0, rfl, Ints.nil_mk w k⟩
  · simp [Value.cells] at hcs
    obtain ⟨rfl, rfl, rfl⟩ := hcs
    simp only [Prod.mk.injEq] at hx
    obtain ⟨rfl, _⟩ := hx
    have hreach : cap * 8 ≤ reachBytes := by
      have := sized_slice hsz htj hdj ht
      rw [hby] at this
      simp [lits] at this
      simp at hz
      omega
    have hr : cap ≤ 17592186043904 := by simp [reachBytes] at hreach; omega
    simp at hz
    refine ⟨zs.take len, some a, len, cap, rfl, by simp; omega, hl, by omega, fun x hx => hwz x (List.mem_of_mem_take hx), (fun e => by cases e), fun hn => ?_⟩
    obtain ⟨b, off, rfl, hc⟩ := ints_at hcell (by omega)
    refine ⟨b, off, rfl, fun i hi => ?_⟩
    rw [hc i (by omega)]
    simp [nth, List.getElem?_take, hi]
end
end Go.Proofs.Ytamibbcdklpncaa
