/- What the laws of layer 10 use of Leads: plain laws, and the contract in the form that they read. -/
import Derived.Test.YtophpemlaecglaaViewAwake
namespace Go.Proofs.Ytophpemlaecglaa
open Go.RowKit Go.WideShapes Go.ChangeShapes
set_option linter.unusedVariables false
set_option linter.unusedSimpArgs false
namespace Tree
theorem mem_kidsN {T : List Node} (hm : mayV T = true) {k c : Nat} : c ∈ kidsN T (k : Int) ↔ c < T.length ∧ c ≠ 0 ∧ up T c = k := by
  unfold kidsN
  rw [List.mem_filter, List.mem_range]
  simp only [decide_eq_true_eq]
  constructor
  · rintro ⟨h1, h2⟩
    have h0 : c ≠ 0 := fun e => by subst e; rw [par_zero hm] at h2; omega
    obtain ⟨_, _, hp⟩ := par_pos hm h1 h0
    exact ⟨h1, h0, by omega⟩
  · rintro ⟨h1, h0, h2⟩
    obtain ⟨_, _, hp⟩ := par_pos hm h1 h0
    exact ⟨h1, by omega⟩
theorem kidsN_len (T : List Node) (i : Int) : (kidsN T i).length ≤ T.length := by unfold kidsN; exact Nat.le_trans (List.length_filter_le _ _) (by simp)
/-- Who is above something else has a child that is above it, or it. -/
theorem child_toward {T : List Node} (hm : mayV T = true) {i : Nat} : ∀ {y : Nat}, y < T.length → i ∈ line T y → i ≠ y → ∃ c, c ∈ kidsN T (i : Int) ∧ c ∈ line T y := by
  intro y
  induction y using Nat.strongRecOn with
  | ind y ih =>
    intro hy hi hne
    have hle := mem_le hi
    have h0 : y ≠ 0 := by omega
    have hu := up_lt T h0
    rcases (mem_pos h0).1 hi with e | h
    · exact absurd e hne
    · by_cases e : i = up T y
      · exact ⟨y, (mem_kidsN hm).2 ⟨hy, h0, e.symm⟩, mem_self T y⟩
      · obtain ⟨c, h1, h2⟩ := ih _ hu (by omega) h e
        exact ⟨c, h1, (mem_pos h0).2 (.inr h2)⟩
theorem par_above {T : List Node} {c : Nat} (h0 : c ≠ 0) : up T c ∈ line T c := (mem_pos h0).2 (.inr (mem_self T _))
theorem above_out {T : List Node} {f i : Int} (h : ¬ (0 ≤ f ∧ f < T.length)) : aboveV T f i = false := by
  unfold aboveV isV
  simp [h]
theorem above_out2 {T : List Node} {f i : Int} (h : ¬ (0 ≤ i ∧ i < T.length)) : aboveV T f i = false := by
  unfold aboveV isV
  simp [h]
end Tree
namespace View
open Tree
def leadB (T : List Node) (j : Nat) (f : Int) (x : Nat) : Bool := mark T (leafTo T j f T.length) x
theorem leadsV_eq {T : List Node} (hm : mayV T = true) (j : Nat) (f : Int) : leadsV T j f = bl T.length (leadB T j f) := by unfold leadsV; rw [if_pos hm]; rfl
theorem mem_leafTo {T : List Node} {j : Nat} {f : Int} {n : Nat} {z : Int} : z ∈ leafTo T j f n ↔ ∃ y : Nat, y < n ∧ z = y ∧ leafV T j f (y : Int) = true := by
  unfold leafTo
  rw [List.mem_map]
  constructor
  · rintro ⟨y, hy, rfl⟩
    obtain ⟨h1, h2⟩ := List.mem_filter.1 hy
    exact ⟨y, List.mem_range.1 h1, rfl, h2⟩
  · rintro ⟨y, hy, rfl, h⟩
    exact ⟨y, List.mem_filter.2 ⟨List.mem_range.2 hy, h⟩, rfl⟩
theorem lead_iff {T : List Node} {j : Nat} {f : Int} {x : Nat} : leadB T j f x = true ↔ ∃ y : Nat, y < T.length ∧ leafV T j f (y : Int) = true ∧ x ∈ line T y := by
  unfold leadB mark
  rw [List.any_eq_true]
  constructor
  · rintro ⟨z, hz, hx⟩
    obtain ⟨y, hy, rfl, h⟩ := mem_leafTo.1 hz
    exact ⟨y, hy, h, by simpa using hx⟩
  · rintro ⟨y, hy, h, hx⟩
    exact ⟨y, mem_leafTo.2 ⟨y, hy, rfl, h⟩, by simpa using hx⟩
theorem leaf_iff {T : List Node} (hm : mayV T = true) {j : Nat} {f : Int} {y : Nat} (hy : y < T.length) : leafV T j f (y : Int) = true ↔ aboveV T f (y : Int) = true ∧ kidsN T (y : Int) = [] ∧ j ≤ (nd T y).just := by
  unfold leafV kidsV
  rw [isV_in hm (by omega) (by omega), if_pos rfl]
  simp only [Bool.and_eq_true, decide_eq_true_eq, List.length_map, List.length_eq_zero_iff, Int.toNat_natCast]
  exact and_assoc
theorem lead_kid {T : List Node} (hm : mayV T = true) {j : Nat} {f : Int} {i : Nat} : leadB T j f i = true ↔ (i < T.length ∧ leafV T j f (i : Int) = true) ∨ ∃ c, c ∈ kidsN T (i : Int) ∧ leadB T j f c = true := by
  rw [lead_iff]
  constructor
  · rintro ⟨y, hy, hl, hx⟩
    by_cases e : i = y
    · subst e; exact .inl ⟨hy, hl⟩
    · obtain ⟨c, h1, h2⟩ := child_toward hm hy hx e
      exact .inr ⟨c, h1, lead_iff.2 ⟨y, hy, hl, h2⟩⟩
  · rintro (⟨hy, hl⟩ | ⟨c, hc, h⟩)
    · exact ⟨i, hy, hl, mem_self T i⟩
    · obtain ⟨y, hy, hl, hx⟩ := lead_iff.1 h
      obtain ⟨_, h0, hu⟩ := (mem_kidsN hm).1 hc
      exact ⟨y, hy, hl, mem_trans (hu ▸ par_above h0) hx⟩
theorem lead_up {T : List Node} {j : Nat} {f : Int} {i : Nat} (h0 : i ≠ 0) (h : leadB T j f i = true) : leadB T j f (up T i) = true := by
  obtain ⟨y, hy, hl, hx⟩ := lead_iff.1 h
  exact lead_iff.2 ⟨y, hy, hl, mem_trans (par_above h0) hx⟩
theorem lead_leaf {T : List Node} (hm : mayV T = true) {j : Nat} {f : Int} {i : Nat} (hi : i < T.length) (hk : kidsN T (i : Int) = []) : leadB T j f i = leafV T j f (i : Int) := by
  apply Bool.eq_iff_iff.2
  rw [lead_kid hm, hk]
  simp [hi]
theorem lead_line {T : List Node} (hm : mayV T = true) {j : Nat} {f : Int} {i : Nat} (hi : i < T.length) (h : leadB T j f i = true) : ∃ g : Nat, f = g ∧ g < T.length ∧ (aboveV T i f = true ∨ aboveV T f i = true) := by
  obtain ⟨y, hy, hl, hx⟩ := lead_iff.1 h
  obtain ⟨ha, _, _⟩ := (leaf_iff hm hy).1 hl
  obtain ⟨_, ⟨f0, f1⟩, _⟩ := above_in ha
  obtain ⟨g, rfl⟩ := Int.eq_ofNat_of_zero_le f0
  have hg := (above_iff hm (by omega) hy).1 ha
  refine ⟨g, rfl, by omega, ?_⟩
  rcases Nat.le_total i g with h1 | h1
  · exact .inl ((above_iff hm hi (by omega)).2 (mem_chain hx hg h1))
  · exact .inr ((above_iff hm (by omega) hi).2 (mem_chain hg hx h1))
theorem lead_less {T : List Node} (hm : mayV T = true) {j k : Nat} {f : Int} {i : Nat} (hk : k ≤ j) (h : leadB T j f i = true) : leadB T k f i = true := by
  obtain ⟨y, hy, hl, hx⟩ := lead_iff.1 h
  obtain ⟨ha, hb, hc⟩ := (leaf_iff hm hy).1 hl
  exact lead_iff.2 ⟨y, hy, (leaf_iff hm hy).2 ⟨ha, hb, by omega⟩, hx⟩
theorem lead_above {T : List Node} (hm : mayV T = true) {j : Nat} {f a : Int} {i : Nat} (hk : aboveV T a f = true) (h : leadB T j f i = true) : leadB T j a i = true := by
  obtain ⟨y, hy, hl, hx⟩ := lead_iff.1 h
  obtain ⟨ha, hb, hc⟩ := (leaf_iff hm hy).1 hl
  obtain ⟨_, ⟨a0, a1⟩, f0, f1⟩ := above_in hk
  obtain ⟨g, rfl⟩ := Int.eq_ofNat_of_zero_le f0
  obtain ⟨b, rfl⟩ := Int.eq_ofNat_of_zero_le a0
  refine lead_iff.2 ⟨y, hy, (leaf_iff hm hy).2 ⟨(above_iff hm (by omega) hy).2 ?_, hb, hc⟩, hx⟩
  exact mem_trans ((above_iff hm (by omega) (by omega)).1 hk) ((above_iff hm (by omega) hy).1 ha)
theorem lead_more {T : List Node} (hm : mayV T = true) {j : Nat} {f : Int} {i : Nat} (hj : ∀ y, y < T.length → (nd T y).just < j) : leadB T j f i = false := by
  apply Bool.eq_false_iff.2
  intro h
  obtain ⟨y, hy, hl, hx⟩ := lead_iff.1 h
  obtain ⟨_, _, hc⟩ := (leaf_iff hm hy).1 hl
  have := hj y hy
  omega
end View
/-- The truths that Leads answers lie at this address. -/
def LeadsAt (W : World) (B : Option Addr) (n : Nat) (o : Nat → Bool) : Prop := 0 < n → ∃ b off, B = some ⟨b, off, none⟩ ∧ ∀ i, i < n → W.cell? ⟨b, off + i, none⟩ = some (.bool (o i))
theorem LeadsAt.ext {W W' : World} {B : Option Addr} {n : Nat} {o : Nat → Bool} (h : LeadsAt W B n o) (hx : Ext W W') : LeadsAt W' B n o := fun hn => let ⟨b, off, e, hc⟩ := h hn; ⟨b, off, e, fun i hi => hx.cell (hc i hi)⟩
theorem vleads_may (A : Option Addr) (n c : Nat) (NS : List Node) (hm : Tree.mayV NS = true) (j : Nat) (hj : j < 18446744073709551616) (f : Int) (hf : (Lit.int .i64 f).wf = true) (w : World) (h : NL w A n c NS) :
    Calls Try.prog 11 #[.agg #[.slice A n c], .int .u64 j, .int .i64 f] w fun e w' => (∃ B d, e = .returned (.slice B n d) ∧ LeadsAt w' B n (View.leadB NS j f)) ∧ Ext w w' := by
  refine (vleads_any A n c NS j hj f hf w h).mono ?_
  rintro e w' ⟨⟨v, rfl, ⟨B, m, d, rfl, hb⟩⟩, hx⟩
  rw [View.leadsV_eq hm] at hb
  have hl := h.len
  obtain rfl : m = n := by rw [← hb.len, View.bl_len, hl]
  refine ⟨⟨B, d, rfl, fun hn => ?_⟩, hx⟩
  obtain ⟨b, off, e, hc⟩ := hb.cells hn
  refine ⟨b, off, e, fun i hi => ?_⟩
  rw [hc i hi, List.getD_eq_getElem?_getD, View.bl_get _ (by omega)]
  rfl
end Go.Proofs.Ytophpemlaecglaa
