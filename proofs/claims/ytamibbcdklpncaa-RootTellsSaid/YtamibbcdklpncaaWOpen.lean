/- Arguments that hold arrays, wide structs, and slices of such: what they are when they can be read. -/
import Derived.Test.YtamibbcdklpncaaWide
import Derived.OpenShut
import Derived.Lib.SmallJoins
namespace Go.Proofs.Ytamibbcdklpncaa
open Go.RowKit Go.WideShapes Go.ChangeShapes
set_option linter.unusedVariables false
set_option linter.unusedSimpArgs false

section
variable {P : Program} {α : Type}
/-- Cells of a type that can be read are those of a thing of this kind. -/
def Reads (P : Program) (t : TypeId) (f : α → List Value) (Ok : α → Prop) : Prop :=
  ∀ (H : Type) (enc : TypeId × Value → H) (w : World) (fuel : Nat) (cs : List Value) (x : DataW H × List MemPlace), DataW.trod enc P w 0 (fun _ => true) true fuel t cs = some x → ∃ y, cs = f y ∧ Ok y
theorem reads_int {t : TypeId} {k : IntKind} (ht : P.underlying t = some (.int k)) : Reads P t (fun z => [Value.int k z]) (fun z => (Lit.int k z).wf = true) := by
  intro H enc w fuel cs x h
  obtain ⟨n, rfl, _, hw⟩ := DataW.trod_int ht h
  exact ⟨n, rfl, hw⟩
theorem reads_bool {t : TypeId} (ht : P.underlying t = some .bool) : Reads P t (fun z => [Value.bool z]) (fun _ => True) := by
  intro H enc w fuel cs x h
  obtain ⟨n, rfl, _⟩ := DataW.trod_bool ht h
  exact ⟨n, rfl, trivial⟩
theorem reads_array {t e : TypeId} {k : IntKind} {n : Nat} (ht : P.underlying t = some (.array n e)) (he : P.underlying e = some (.int k)) (hce : P.cellsOf e = 1) (hct : P.cellsOf t = n) :
    Reads P t (fun r : List Int => r.map (Value.int k)) (fun r => r.length = n ∧ ∀ x ∈ r, (Lit.int k x).wf = true) := by
  intro H enc w fuel cs x h
  obtain ⟨xs, m, _, _, hl, hxs, hr⟩ := DataW.trod_array ht h
  rw [hct] at hl
  have hcell : ∀ i : Fin n, ∃ z, cs[i.val]? = some (.int k z) ∧ (Lit.int k z).wf = true := fun i => by
    have h1 := hr i.1 i.2
    rw [hce, Nat.mul_one, List.getElem?_eq_getElem (by omega)] at h1
    obtain ⟨z, e1, _, hw⟩ := DataW.trod_int he h1
    refine ⟨z, ?_, hw⟩
    have e2 := congrArg (fun l : List Value => l[0]?) e1
    simpa using e2
  refine ⟨List.ofFn (fun i : Fin n => Classical.choose (hcell i)), ?_, by simp, ?_⟩
  · apply List.ext_getElem?
    intro j
    by_cases hj : j < n
    · rw [(Classical.choose_spec (hcell ⟨j, hj⟩)).1]
      simp [List.getElem?_ofFn, hj]
    · rw [List.getElem?_eq_none (by omega), List.getElem?_eq_none (by simp; omega)]
  · intro z hz
    obtain ⟨i, rfl⟩ := List.mem_ofFn.1 hz
    exact (Classical.choose_spec (hcell i)).2
theorem okWide_array {t e : TypeId} {n : Nat} {w : World} {r : Reach} {b0 : Nat} {v : Value} (ht : P.underlying t = some (.array n e)) (h : Value.okWide P w r b0 t v) : ∃ cs, v = .agg cs := by
  simp only [Value.okWide, ht] at h
  obtain ⟨cs, h1, _⟩ := h
  exact ⟨cs, h1⟩
/-- An argument that is an array, or a struct. -/
theorem open_agg {H : Type} {enc : TypeId × Value → H} {w : World} {t : TypeId} {v : Value} {d : DataW H} {ps : List MemPlace} {f : α → List Value} {Ok : α → Prop} (R : Reads P t f Ok) (ha : ∃ cs, v = .agg cs) (h : DataW.Trod enc P w 0 (fun _ => true) true t v d ps) : ∃ y, v = .agg (f y).toArray ∧ Ok y := by
  obtain ⟨cs, rfl⟩ := ha
  obtain ⟨fuel, hf⟩ := h
  obtain ⟨y, e, hy⟩ := R H enc w fuel _ _ hf
  refine ⟨y, ?_, hy⟩
  rw [← e]
  simp [Value.cells]
theorem cells_at {w : World} {a : Addr} {n : Nat} {cs : List Value} (h : w.cells? 0 a n = some cs) (hn : 0 < n) : a.spot = none ∧ cs.length = n ∧ w.rangeAt a.block a.off cs := by
  unfold World.cells? at h
  rw [if_pos (Nat.zero_le _)] at h
  have hl := mapM_some_length h
  have hg : ∀ i, i < n → w.cell? (a.add i) = cs[i]? := fun i hi => mapM_some_get h i i (by simp [hi])
  have hl' : cs.length = n := by simpa using hl
  have h0 := hg 0 hn
  rw [List.getElem?_eq_getElem (by omega)] at h0
  have hs : a.spot = none := by simpa [Addr.add] using World.cell?_spot h0
  refine ⟨hs, hl', fun j v hv => ?_⟩
  have hj : j < n := by rw [← hl']; exact (List.getElem?_eq_some_iff.1 hv).1
  have := hg j hj
  rw [hv] at this
  obtain ⟨b, off, spot⟩ := a
  simp at hs
  subst hs
  rw [Addr.add_mid] at this
  exact this
/-- A slice of wide elements that can be read. -/
theorem inner_wide {H : Type} {enc : TypeId × Value → H} {w : World} {t e : TypeId} {size bytes : Nat} {v : Value} {fuel : Nat} {x : DataW H × List MemPlace} {f : α → List Value} {Ok : α → Prop} (ht : P.underlying t = some (.slice e)) (R : Reads P e f Ok) (hs : P.cellsOf e = size) (hp : 0 < size) (hby : P.bytesOf e = bytes) (hb8 : 8 ≤ bytes)
    (hone : ∀ y, Ok y → (f y).length = size ∧ ∀ u ∈ f y, u.oneCell' = true)
    (hf : DataW.trod enc P w 0 (fun _ => true) true fuel t [v] = some x) (hw : ∀ n ∈ x.1.weights P t, n ≤ reachBytes) : ∃ (A : Option Addr) (n c : Nat) (ys : List α), v = .slice A n c ∧ WRow w size A n c (ys.map f) ∧ (∀ y ∈ ys, Ok y) ∧ c * bytes ≤ 140737488351232 := by
  rcases DataW.trod_slice ht hf with ⟨hcs, hx⟩ | ⟨a, len, cap, elems, rest, n, _, hcs, hx, _, hl, _, hlen, hel, hrest, _⟩
  · simp at hcs
    subst hcs
    exact ⟨none, 0, 0, [], rfl, WRow.nil_mk w size, by simp, by omega⟩
  · simp at hcs
    subst hcs
    subst hx
    have hrl : rest.length = cap - len := (hrest rfl).1
    have hreach : cap * bytes ≤ 140737488351232 := by
      have := hw (((elems.map (·.1)).length + (rest.map (·.1)).length) * P.bytesOf e) (by simp [DataW.weights, ht])
      rw [hby] at this
      simp only [List.length_map, hlen, hrl] at this
      rw [show len + (cap - len) = cap by omega] at this
      simpa [reachBytes] using this
    have hE : ∀ i : Fin len, ∃ y, a.spot = none ∧ w.rangeAt a.block (a.off + i.1 * size) (f y) ∧ Ok y := fun i => by
      have h1 := hel i.1 i.2
      rw [hs, List.getElem?_eq_getElem (by have := i.2; omega), Option.bind_eq_some_iff] at h1
      obtain ⟨cs, hc, hr⟩ := h1
      obtain ⟨y, rfl, hy⟩ := R H enc w n _ _ hr
      obtain ⟨h2, _, h3⟩ := cells_at hc hp
      by_cases hi0 : i.1 * size = 0
      · rw [hi0] at h2 h3 ⊢
        simp [Addr.add] at h2 h3
        exact ⟨y, h2, by simpa using h3, hy⟩
      · have h0 := hel 0 (by have := i.2; omega)
        rw [hs, List.getElem?_eq_getElem (by have := i.2; omega), Option.bind_eq_some_iff] at h0
        obtain ⟨cs0, hc0, _⟩ := h0
        have hsp := (cells_at hc0 hp).1
        rw [Nat.zero_mul] at hsp
        simp [Addr.add] at hsp
        unfold Addr.add at h3
        rw [if_neg hi0] at h3
        exact ⟨y, hsp, h3, hy⟩
    refine ⟨some a, len, cap, List.ofFn (fun i : Fin len => Classical.choose (hE i)), rfl, ⟨by simp, hl, ?_, ?_, (fun e => by cases e), fun hn => ?_⟩, ?_, hreach⟩
    · have : len * 8 ≤ cap * bytes := Nat.mul_le_mul hl hb8
      omega
    · intro z hz
      obtain ⟨y, hy, rfl⟩ := List.mem_map.1 hz
      obtain ⟨i, rfl⟩ := List.mem_ofFn.1 hy
      exact hone _ (Classical.choose_spec (hE i)).2.2
    · have hsp := (Classical.choose_spec (hE ⟨0, hn⟩)).1
      obtain ⟨b, off, spot⟩ := a
      simp at hsp
      subst hsp
      refine ⟨b, off, rfl, fun i hi => ?_⟩
      have := (Classical.choose_spec (hE ⟨i, hi⟩)).2.1
      simpa [List.getD, hi] using this
    · intro y hy
      obtain ⟨i, rfl⟩ := List.mem_ofFn.1 hy
      exact (Classical.choose_spec (hE i)).2.2
end
end Go.Proofs.Ytamibbcdklpncaa
