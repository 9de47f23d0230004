/- Plain laws of trees that are cut. -/
import Derived.Test.YtoifhpcpahfddaaTreeUp
namespace Go.Proofs.Ytoifhpcpahfddaa
set_option linter.unusedVariables false
set_option linter.unusedSectionVars false
set_option linter.unusedSimpArgs false
namespace Tree
theorem kept_sorted (T : List Node) (i k : Nat) : (keptTo T i k).Pairwise (· < ·) := List.Pairwise.filter _ List.pairwise_lt_range
theorem kept_split (T : List Node) (i : Nat) {j n : Nat} (h : j ≤ n) : ∃ rest, keptTo T i n = keptTo T i j ++ rest ∧ ∀ r ∈ rest, j ≤ r := by
  obtain ⟨d, rfl⟩ : ∃ d, n = j + d := ⟨n - j, by omega⟩
  refine ⟨((List.range d).map (j + ·)).filter (fun x => decide (i ∈ line T x)), ?_, fun r hr => ?_⟩
  · unfold keptTo
    rw [List.range_add, List.filter_append]
  · obtain ⟨h1, _⟩ := List.mem_filter.1 hr
    obtain ⟨y, _, rfl⟩ := List.mem_map.1 h1
    omega
theorem kept_head {T : List Node} {i n : Nat} (h : i < n) : ∃ rest, keptTo T i n = i :: rest := by
  obtain ⟨rest, e, _⟩ := kept_split T i (show i + 1 ≤ n by omega)
  rw [kept_yes (mem_self T i), kept_self] at e
  exact ⟨rest, e⟩
def posK (T : List Node) (i j : Nat) : Nat := (keptTo T i T.length).idxOf j
theorem pos_get {T : List Node} {i j : Nat} (hj : j < T.length) (h : i ∈ line T j) : (keptTo T i T.length)[posK T i j]? = some j := by
  have hm : j ∈ keptTo T i T.length := mem_kept.2 ⟨hj, h⟩
  have hlt := List.idxOf_lt_length_of_mem hm
  unfold posK
  rw [List.getElem?_eq_getElem hlt]
  simp
theorem pos_lt_len {T : List Node} {i j : Nat} (hj : j < T.length) (h : i ∈ line T j) : posK T i j < (keptTo T i T.length).length := List.idxOf_lt_length_of_mem (mem_kept.2 ⟨hj, h⟩)
theorem get_kept {T : List Node} {i x j : Nat} (h : (keptTo T i T.length)[x]? = some j) : j < T.length ∧ i ∈ line T j := mem_kept.1 (List.mem_of_getElem? h)
theorem get_pos {T : List Node} {i x j : Nat} (h : (keptTo T i T.length)[x]? = some j) : posK T i j = x := by
  obtain ⟨h1, h2⟩ := get_kept h
  have hg := pos_get h1 h2
  rw [← h] at hg
  exact (List.getElem?_inj (pos_lt_len h1 h2) (kept_nodup T i _)).1 hg
theorem pos_self {T : List Node} {i : Nat} (h : i < T.length) : posK T i i = 0 := by
  obtain ⟨rest, e⟩ := kept_head (T := T) h
  unfold posK
  rw [e]
  simp
theorem pos_mono {T : List Node} {i u j : Nat} (hj : j < T.length) (hu : u < j) (h : i ∈ line T u) (g : i ∈ line T j) : posK T i u < posK T i j ∧ posK T i u = (keptTo T i j).idxOf u := by
  obtain ⟨rest, e, hr⟩ := kept_split T i (show j ≤ T.length by omega)
  have h1 : u ∈ keptTo T i j := mem_kept.2 ⟨hu, h⟩
  have h2 : j ∉ keptTo T i j := fun h => by have := (mem_kept.1 h).1; omega
  have h3 := List.idxOf_lt_length_of_mem h1
  unfold posK
  have e1 : (keptTo T i j ++ rest).idxOf u = (keptTo T i j).idxOf u := by rw [List.idxOf_append, if_pos h1]
  rw [e, e1]
  refine ⟨?_, rfl⟩
  rw [List.idxOf_append, if_neg h2]
  omega
theorem nd_cut {T : List Node} {i x j : Nat} (h : (keptTo T i T.length)[x]? = some j) : nd (cutTo T i T.length) x = { nd T j with par := newPar T i j } := by
  show (cutTo T i T.length).getD x Node.zero = _
  unfold cutTo
  simp [List.getD, List.getElem?_map, h]
section
variable {T : List Node} (hm : mayV T = true) {i : Nat} (hi : i < T.length)
include hm hi
theorem roots_inj {a b : Nat} (ha : a < T.length) (hb : b < T.length) (h : (nd T a).root = (nd T b).root) : a = b := by
  have h1 := roots_get ha
  have h2 := roots_get hb
  rw [h, ← h2] at h1
  exact (List.getElem?_inj (by simp [roots]; exact ha) (nodup hm)).1 h1
theorem get_zero {j : Nat} (h : (keptTo T i T.length)[0]? = some j) : j = i := by
  have h1 := pos_get hi (mem_self T i)
  rw [pos_self hi, h] at h1
  simpa using h1
/-- The parent of what is kept, but not the first. -/
theorem up_kept {x j : Nat} (h : (keptTo T i T.length)[x]? = some j) (hx : x ≠ 0) : j ≠ i ∧ j ≠ 0 ∧ i ∈ line T (up T j) ∧ up T j < j ∧ posK T i (up T j) < x ∧ newPar T i j = (posK T i (up T j) : Nat) := by
  obtain ⟨h1, h2⟩ := get_kept h
  have hp := get_pos h
  have hne : j ≠ i := fun e => by subst e; rw [pos_self hi] at hp; exact hx hp.symm
  have h0 : j ≠ 0 := fun e => by
    subst e
    rw [line_zero] at h2
    simp at h2
    exact hne h2.symm
  have hu : i ∈ line T (up T j) := by
    rcases (mem_pos h0).1 h2 with e | e
    · exact absurd e.symm hne
    · exact e
  have hul := up_lt T h0
  obtain ⟨p1, p2⟩ := pos_mono h1 hul hu h2
  refine ⟨hne, h0, hu, hul, by omega, ?_⟩
  unfold newPar
  rw [if_neg hne, p2]
theorem cut_may : mayV (cutTo T i T.length) = true := by
  have h12 := len_le hm
  have hkl := kept_len T i T.length
  have hz := pos_lt_len hi (mem_self T i)
  rw [mayV_iff, cut_len]
  refine ⟨by omega, by omega, fun x hx => ?_, ?_⟩
  · obtain ⟨j, hj⟩ : ∃ j, (keptTo T i T.length)[x]? = some j := ⟨_, List.getElem?_eq_getElem hx⟩
    obtain ⟨h1, h2⟩ := get_kept hj
    have hs := slot_le hm h1
    by_cases h0 : x = 0
    · subst h0
      have := get_zero hm hi hj
      subst this
      unfold fitsV
      rw [if_pos rfl, nd_cut hj]
      simp [newPar, hs]
    · unfold fitsV
      rw [if_neg h0, nd_cut hj]
      obtain ⟨a1, a2, a3, a4, a5, a6⟩ := up_kept hm hi hj h0
      have hg := pos_get (show up T j < T.length by omega) a3
      have hsu := slot_up hm h1 a2
      simp only [a6, Int.toNat_natCast]
      rw [nd_cut hg]
      simp [hs, hsu]
      omega
  · have e : roots (cutTo T i T.length) = (keptTo T i T.length).map (fun j => (nd T j).root) := by
      unfold roots cutTo
      rw [List.map_map]
      rfl
    rw [e, List.nodup_iff_pairwise_ne, List.pairwise_map]
    refine (kept_sorted T i T.length).imp_of_mem fun {a b} ha hb hab hroot => ?_
    have := roots_inj hm hi (mem_kept.1 ha).1 (mem_kept.1 hb).1 hroot
    omega
theorem line_cut : ∀ {x j : Nat}, (keptTo T i T.length)[x]? = some j → ∀ {x' j' : Nat}, (keptTo T i T.length)[x']? = some j' → (x' ∈ line (cutTo T i T.length) x ↔ j' ∈ line T j) := by
  intro x
  induction x using Nat.strongRecOn with
  | ind x ih =>
    intro j hj x' j' hj'
    obtain ⟨g1, g2⟩ := get_kept hj'
    have gp := get_pos hj'
    by_cases h0 : x = 0
    · subst h0
      have := get_zero hm hi hj
      subst this
      rw [line_zero]
      simp only [List.mem_singleton]
      constructor
      · intro h
        subst h
        have := get_zero hm hi hj'
        subst this
        exact mem_self T j'
      · intro h
        have := mem_anti h g2
        subst this
        rw [pos_self hi] at gp
        exact gp.symm
    · obtain ⟨a1, a2, a3, a4, a5, a6⟩ := up_kept hm hi hj h0
      obtain ⟨h1, h2⟩ := get_kept hj
      have hp := get_pos hj
      have hup : up (cutTo T i T.length) x = posK T i (up T j) := by
        unfold up
        rw [nd_cut hj]
        show min (newPar T i j).toNat (x - 1) = _
        rw [a6, Int.toNat_natCast]
        unfold up at a5 ⊢
        omega
      have hg := pos_get (show up T j < T.length by omega) a3
      rw [mem_pos h0, hup, ih _ a5 hg hj', mem_pos a2]
      constructor
      · rintro (e | e)
        · subst e; rw [hj] at hj'; left; simpa using hj'.symm
        · exact .inr e
      · rintro (e | e)
        · subst e; left; rw [← gp, hp]
        · exact .inr e
theorem roots_cut {x j : Nat} (h : (keptTo T i T.length)[x]? = some j) : (roots (cutTo T i T.length))[x]? = some (nd T j).root := by
  unfold roots cutTo
  rw [List.map_map, List.getElem?_map, h]
  rfl
/-- Where a root is found in what is cut. -/
theorem find_kept {a : Nat} (ha : a < T.length) (h : i ∈ line T a) : findV (cutTo T i T.length) (nd T a).root = (posK T i a : Nat) := by
  have hc := cut_may hm hi
  have hg := roots_cut hm hi (pos_get ha h)
  have hin := List.mem_of_getElem? hg
  unfold findV
  rw [if_pos ⟨hc, hin⟩]
  have hlt := List.idxOf_lt_length_of_mem hin
  have h2 : (roots (cutTo T i T.length))[(roots (cutTo T i T.length)).idxOf (nd T a).root]? = some (nd T a).root := by rw [List.getElem?_eq_getElem hlt]; simp
  rw [← hg] at h2
  have := (List.getElem?_inj hlt (nodup hc)).1 h2
  omega
theorem find_gone {a : Nat} (ha : a < T.length) (h : i ∉ line T a) : findV (cutTo T i T.length) (nd T a).root = -1 := by
  unfold findV
  rw [if_neg]
  rintro ⟨_, hin⟩
  obtain ⟨x, hx⟩ := List.mem_iff_getElem?.1 hin
  have hxl : x < (keptTo T i T.length).length := by
    obtain ⟨h1, _⟩ := List.getElem?_eq_some_iff.1 hx
    simpa [roots, cut_len] using h1
  obtain ⟨j, hj⟩ : ∃ j, (keptTo T i T.length)[x]? = some j := ⟨_, List.getElem?_eq_getElem hxl⟩
  rw [roots_cut hm hi hj] at hx
  obtain ⟨h1, h2⟩ := get_kept hj
  have := roots_inj hm hi h1 ha (by simpa using hx)
  subst this
  exact h h2
/-- The ancestor at a slot, in what is cut. -/
theorem at_cut {a : Nat} (ha : a < T.length) (h : i ∈ line T a) (s : Nat) : (s < (nd T i).slot ∧ atV (cutTo T i T.length) (posK T i a : Nat) s = -1) ∨ ((nd T i).slot ≤ s ∧ ∃ p q : Nat, atV (cutTo T i T.length) (posK T i a : Nat) s = p ∧ atV T (a : Int) s = q ∧ p < (cutTo T i T.length).length ∧ q < T.length ∧ (keptTo T i T.length)[p]? = some q) := by
  have hc := cut_may hm hi
  have hg := pos_get ha h
  have hpl := pos_lt_len ha h
  have hpl' : posK T i a < (cutTo T i T.length).length := by rw [cut_len]; exact hpl
  have hxj : ∀ x, x < (keptTo T i T.length).length → ∃ j, (keptTo T i T.length)[x]? = some j := fun x hx => ⟨_, List.getElem?_eq_getElem hx⟩
  rcases Nat.lt_or_ge s (nd T i).slot with hs | hs
  · refine .inl ⟨hs, ?_⟩
    rcases at_spec hc hpl' s with ⟨h1, _⟩ | ⟨p, _, h2, h3, _⟩
    · exact h1
    · exfalso
      have hpx := mem_le h2
      obtain ⟨j, hj⟩ := hxj p (by omega)
      obtain ⟨g1, g2⟩ := get_kept hj
      rw [nd_cut hj] at h3
      have := (slot_mono hm g1 g2).1
      have h3 : (nd T j).slot ≤ s := h3
      omega
  · refine .inr ⟨hs, ?_⟩
    have hg0 := pos_get hi (mem_self T i)
    rcases at_spec hc hpl' s with ⟨_, h1⟩ | ⟨p, hp, h2, h3, h4⟩
    · exfalso
      have := h1 (posK T i i) ((line_cut hm hi hg hg0).2 h)
      rw [nd_cut hg0] at this
      have : s < (nd T i).slot := this
      omega
    · rcases at_spec hm ha s with ⟨_, h1⟩ | ⟨q, hq, k2, k3, k4⟩
      · exfalso
        have := h1 i h
        omega
      · have hpx := mem_le h2
        have hqa := mem_le k2
        obtain ⟨j, hj⟩ := hxj p (by omega)
        obtain ⟨g1, g2⟩ := get_kept hj
        have hja := (line_cut hm hi hg hj).1 h2
        rw [nd_cut hj] at h3
        have hjq := k4 j hja h3
        have hiq := k4 i h hs
        have hgq := pos_get (show q < T.length by omega) hiq
        have hx := h4 (posK T i q) ((line_cut hm hi hg hgq).2 k2) (by rw [nd_cut hgq]; exact k3)
        have hqj := (line_cut hm hi hj hgq).1 hx
        have := mem_anti hjq hqj
        subst this
        exact ⟨p, j, hp, hq, by omega, by omega, hj⟩
end
end Tree
end Go.Proofs.Ytoifhpcpahfddaa
