/- A text's root: plain laws. -/
import Derived.Test.YtamibbcdklpncaaRootRune
namespace Go.Proofs.Ytamibbcdklpncaa
set_option linter.unusedVariables false
set_option linter.unusedSimpArgs false
namespace Root
/-- What a digit stands for; -1: it is none. -/
def val (b : UInt8) : Int := Lib.indexByte digs b
theorem val_all : ∀ n : Fin 256, (val (UInt8.ofNat n.1) = -1 ∨ (0 ≤ val (UInt8.ofNat n.1) ∧ val (UInt8.ofNat n.1) ≤ 15 ∧ n.1 < 128 ∧ dg (val (UInt8.ofNat n.1)).toNat = UInt8.ofNat n.1)) := by decide +kernel
theorem val_cases (b : UInt8) : val b = -1 ∨ (0 ≤ val b ∧ val b ≤ 15 ∧ b.toNat < 128 ∧ dg (val b).toNat = b) := by
  have := val_all ⟨b.toNat, b.toNat_lt⟩
  simpa using this
theorem val_dg : ∀ n, n < 16 → val (dg n) = n := by decide +kernel
def vat (l : List UInt8) (j : Nat) : Int := val (l.getD j 0)
/-- A root's bytes, as far as k digits tell. -/
def cellV (l : List UInt8) (k j : Nat) : Int := if 2 * j + 1 < k then 16 * vat l (2 * j) + vat l (2 * j + 1) else if 2 * j < k then vat l (2 * j) else 0
def arrV (l : List UInt8) (k : Nat) : List Int := (List.range 32).map (cellV l k)
def fits (l : List UInt8) : Bool := decide (l.length = 64) && l.all fun b => decide (0 ≤ val b)
def ofV (l : List UInt8) : List Int × Bool := if fits l = true then (arrV l 64, true) else (zeroR, false)
theorem arr_len (l : List UInt8) (k : Nat) : (arrV l k).length = 32 := by simp [arrV]
theorem nth_arr (l : List UInt8) (k j : Nat) (hj : j < 32) : nth (arrV l k) j = cellV l k j := by
  unfold nth arrV
  simp [hj]
theorem arr_zero (l : List UInt8) : arrV l 0 = zeroR := by
  unfold arrV cellV zeroR
  simp
  rfl
def Good (l : List UInt8) (k : Nat) : Prop := ∀ j, j < k → 0 ≤ vat l j ∧ vat l j ≤ 15
theorem good_zero (l : List UInt8) : Good l 0 := fun j hj => absurd hj (Nat.not_lt_zero _)
theorem good_step {l : List UInt8} {k : Nat} (h : Good l k) (hv : 0 ≤ vat l k) : Good l (k + 1) := fun j hj => by
  by_cases e : j = k
  · subst e
    rcases val_cases (l.getD j 0) with h1 | h1
    · unfold vat at hv; omega
    · unfold vat; exact ⟨h1.1, h1.2.1⟩
  · exact h j (by omega)
theorem arr_ok {l : List UInt8} {k : Nat} (h : Good l k) : RootOk (arrV l k) := by
  refine ⟨arr_len l k, fun x hx => ?_⟩
  obtain ⟨j, hj, rfl⟩ := List.mem_map.1 hx
  have h1 := h (2 * j); have h2 := h (2 * j + 1)
  have h3 : 0 ≤ cellV l k j ∧ cellV l k j ≤ 255 := by
    unfold cellV
    split
    · have := h1 (by omega); have := h2 (by omega); omega
    · split
      · have := h1 (by omega); omega
      · omega
  simp [Lit.wf, IntKind.min, IntKind.max, IntKind.signed, IntKind.bits]
  omega
theorem fits_bad {l : List UInt8} {k : Nat} (hk : k < l.length) (hv : vat l k = -1) : fits l = false := by
  unfold fits
  rw [Bool.and_eq_false_iff]
  refine .inr (List.all_eq_false.2 ⟨l[k], List.getElem_mem hk, ?_⟩)
  have : vat l k = val l[k] := by unfold vat; simp [hk]
  rw [← this, hv]
  decide
theorem fits_len {l : List UInt8} (h : l.length ≠ 64) : fits l = false := by unfold fits; simp [h]
theorem fits_good {l : List UInt8} (hl : l.length = 64) (h : Good l 64) : fits l = true := by
  unfold fits
  rw [Bool.and_eq_true]
  refine ⟨by simpa using hl, List.all_eq_true.2 fun b hb => ?_⟩
  obtain ⟨j, hj, rfl⟩ := List.getElem_of_mem hb
  have := (h j (by omega)).1
  simpa [vat, hj] using this
theorem good_fits {l : List UInt8} (h : fits l = true) : l.length = 64 ∧ Good l 64 := by
  unfold fits at h
  rw [Bool.and_eq_true] at h
  have hl : l.length = 64 := by simpa using h.1
  refine ⟨hl, fun j hj => ?_⟩
  have := List.all_eq_true.1 h.2 l[j] (List.getElem_mem (by omega))
  have hv : vat l j = val l[j] := by unfold vat; simp [show j < l.length by omega]
  rw [hv]
  rcases val_cases l[j] with h1 | h1
  · rw [h1] at this; simp at this
  · exact ⟨h1.1, h1.2.1⟩
theorem of_ok (l : List UInt8) : RootOk (ofV l).1 := by
  unfold ofV
  split
  · rename_i h; exact arr_ok (good_fits h).2
  · exact zeroR_ok
theorem cell_same {l : List UInt8} {k j : Nat} (hj : j ≠ k / 2) : cellV l (k + 1) j = cellV l k j := by
  unfold cellV
  repeat' split
  all_goals first | rfl | omega
theorem cell_even {l : List UInt8} {k : Nat} (h : k % 2 = 0) : cellV l k (k / 2) = 0 ∧ cellV l (k + 1) (k / 2) = vat l k := by
  unfold cellV
  constructor
  · rw [if_neg (by omega), if_neg (by omega)]
  · rw [if_neg (by omega), if_pos (by omega), show 2 * (k / 2) = k by omega]
theorem cell_odd {l : List UInt8} {k : Nat} (h : k % 2 = 1) : cellV l k (k / 2) = vat l (k - 1) ∧ cellV l (k + 1) (k / 2) = 16 * vat l (k - 1) + vat l k := by
  unfold cellV
  constructor
  · rw [if_neg (by omega), if_pos (by omega), show 2 * (k / 2) = k - 1 by omega]
  · rw [if_pos (by omega), show 2 * (k / 2) = k - 1 by omega, show k - 1 + 1 = k by omega]
theorem arr_set {l : List UInt8} {k : Nat} (hk : k < 64) : (arrV l k).set (k / 2) (cellV l (k + 1) (k / 2)) = arrV l (k + 1) := by
  refine nth_ext (by simp [arr_len]) fun j hj => ?_
  have hj' : j < 32 := by simpa [arr_len] using hj
  rw [nth_arr _ _ _ hj']
  by_cases e : j = k / 2
  · subst e
    unfold nth
    simp [arr_len, hj']
  · rw [cell_same e, ← nth_arr _ _ _ hj']
    unfold nth
    simp [Ne.symm e]
/-- What a round stores. -/
theorem cell_next {l : List UInt8} {k : Nat} (hg : Good l (k + 1)) : ∃ x d : Nat, x < 16 ∧ d < 16 ∧ cellV l k (k / 2) = x ∧ vat l k = d ∧ cellV l (k + 1) (k / 2) = 16 * x + d := by
  have h0 := hg k (by omega)
  by_cases e : k % 2 = 0
  · obtain ⟨h1, h2⟩ := cell_even (l := l) e
    exact ⟨0, (vat l k).toNat, by omega, by omega, by rw [h1]; rfl, by omega, by rw [h2]; omega⟩
  · obtain ⟨h1, h2⟩ := cell_odd (l := l) (show k % 2 = 1 by omega)
    have h3 := hg (k - 1) (by omega)
    exact ⟨(vat l (k - 1)).toNat, (vat l k).toNat, by omega, by omega, by omega, by omega, by rw [h2]; omega⟩
end Root
theorem shl4_all : ∀ x : Fin 16, IntKind.u8.wrap (((x.1 : Nat) : Int) * 2 ^ 4) = 16 * ((x.1 : Nat) : Int) := by decide
theorem run_shl4 {x : Nat} (hx : x < 16) (t y : TypeId) (W : World) : (binOp .shl t (.int .u8 x) (.int .u64 4)).run Try.prog W = .ok (.int .u8 (16 * (x : Int))) W := by
  have h := shl4_all ⟨x, hx⟩
  simp only [] at h
  simp [go_sem]
  exact h
theorem or4_all : ∀ x d : Fin 16, IntKind.u8.wrap ((BitVec.ofInt 8 (16 * ((x.1 : Nat) : Int)) ||| BitVec.ofInt 8 ((d.1 : Nat) : Int)).toNat) = 16 * ((x.1 : Nat) : Int) + ((d.1 : Nat) : Int) := by decide +kernel
theorem run_or4 {x d : Nat} (hx : x < 16) (hd : d < 16) (t : TypeId) (W : World) : (binOp .or t (.int .u8 (16 * (x : Int))) (.int .u8 d)).run Try.prog W = .ok (.int .u8 (16 * (x : Int) + d)) W := by
  have h := or4_all ⟨x, hx⟩ ⟨d, hd⟩
  simp only [] at h
  rw [binOp_or]
  unfold Op.intBits
  simp only [Sem.run_pure]
  exact congrArg (fun n => Result.ok (Value.int .u8 n) W) h
end Go.Proofs.Ytamibbcdklpncaa
