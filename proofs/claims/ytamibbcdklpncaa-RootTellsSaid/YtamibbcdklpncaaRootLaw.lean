/- Roots and their texts, plain laws: what is read of a text has it; texts stand as roots do; the one rising list of given roots. -/
import Derived.Test.YtamibbcdklpncaaRootOfV
import Derived.Test.YtamibbcdklpncaaRootList
namespace Go.Proofs.Ytamibbcdklpncaa
set_option linter.unusedVariables false
set_option linter.unusedSimpArgs false
namespace Root
theorem text_get : ∀ (r : List Int) (j : Nat), j < r.length → (textV r)[2 * j]? = some (dg ((nth r j).toNat / 16)) ∧ (textV r)[2 * j + 1]? = some (dg ((nth r j).toNat % 16))
  | [], j, h => absurd h (Nat.not_lt_zero _)
  | x :: r, 0, _ => ⟨rfl, rfl⟩
  | x :: r, j + 1, h => by
    have ih := text_get r j (by simpa using h)
    have e1 : textV (x :: r) = dg (x.toNat / 16) :: dg (x.toNat % 16) :: textV r := rfl
    rw [e1, show 2 * (j + 1) = 2 * j + 1 + 1 by omega]
    simpa [nth] using ih
theorem nth_byte {r : List Int} (h : RootOk r) (k : Nat) : 0 ≤ nth r k ∧ nth r k ≤ 255 := byte_range h k
theorem vat_text {r : List Int} (h : RootOk r) {j : Nat} (hj : j < 32) : vat (textV r) (2 * j) = nth r j / 16 ∧ vat (textV r) (2 * j + 1) = nth r j % 16 := by
  obtain ⟨h1, h2⟩ := text_get r j (by rw [h.1]; exact hj)
  have hb := nth_byte h j
  unfold vat
  rw [List.getD_eq_getElem?_getD, List.getD_eq_getElem?_getD, h1, h2]
  simp only [Option.getD_some]
  rw [val_dg _ (by omega), val_dg _ (by omega)]
  omega
theorem text_good {r : List Int} (h : RootOk r) : Good (textV r) 64 := fun i hi => by
  obtain ⟨h1, h2⟩ := vat_text h (j := i / 2) (by omega)
  have hb := nth_byte h (i / 2)
  by_cases e : i % 2 = 0
  · rw [show 2 * (i / 2) = i by omega] at h1; omega
  · rw [show 2 * (i / 2) + 1 = i by omega] at h2; omega
theorem text_len64 {r : List Int} (h : RootOk r) : (textV r).length = 64 := by rw [text_len, h.1]
theorem of_text {r : List Int} (h : RootOk r) : ofV (textV r) = (r, true) := by
  unfold ofV
  rw [if_pos (fits_good (text_len64 h) (text_good h))]
  congr 1
  refine nth_ext (by rw [arr_len, h.1]) fun j hj => ?_
  have hj' : j < 32 := by rw [arr_len] at hj; exact hj
  rw [nth_arr _ _ _ hj']
  obtain ⟨h1, h2⟩ := vat_text h hj'
  unfold cellV
  rw [if_pos (by omega), h1, h2]
  omega
theorem dg_vat {l : List UInt8} {i : Nat} (hg : Good l 64) (hl : l.length = 64) (hi : i < 64) : dg (vat l i).toNat = l[i]'(by omega) := by
  have h := hg i hi
  have e : l.getD i 0 = l[i]'(by omega) := by simp [show i < l.length by omega]
  unfold vat at h ⊢
  rcases val_cases (l.getD i 0) with h1 | h1
  · omega
  · rw [h1.2.2.2, e]
theorem text_of {l : List UInt8} (h : fits l = true) : textV (ofV l).1 = l := by
  obtain ⟨hl, hg⟩ := good_fits h
  unfold ofV
  rw [if_pos h]
  refine List.ext_getElem (by rw [text_len, arr_len, hl]) fun i hi _ => ?_
  have hi' : i < 64 := by rw [text_len, arr_len] at hi; exact hi
  have hj : i / 2 < 32 := by omega
  obtain ⟨h1, h2⟩ := text_get (arrV l 64) (i / 2) (by rw [arr_len]; exact hj)
  rw [nth_arr _ _ _ hj] at h1 h2
  have g0 := hg (2 * (i / 2)) (by omega)
  have g1 := hg (2 * (i / 2) + 1) (by omega)
  have ec : cellV l 64 (i / 2) = 16 * vat l (2 * (i / 2)) + vat l (2 * (i / 2) + 1) := by unfold cellV; rw [if_pos (by omega)]
  rw [ec] at h1 h2
  by_cases e : i % 2 = 0
  · have e1 : 2 * (i / 2) = i := by omega
    have e2 : (16 * vat l (2 * (i / 2)) + vat l (2 * (i / 2) + 1)).toNat / 16 = (vat l i).toNat := by rw [e1] at g0 g1 ⊢; omega
    rw [e2, e1] at h1
    rw [← dg_vat hg hl hi']
    exact Option.some.inj ((List.getElem?_eq_getElem hi).symm.trans h1)
  · have e1 : 2 * (i / 2) + 1 = i := by omega
    have e2 : (16 * vat l (2 * (i / 2)) + vat l (2 * (i / 2) + 1)).toNat % 16 = (vat l i).toNat := by rw [e1] at g1 ⊢; omega
    rw [e2, e1] at h2
    rw [← dg_vat hg hl hi']
    exact Option.some.inj ((List.getElem?_eq_getElem hi).symm.trans h2)
theorem of_false {l : List UInt8} (h : fits l = false) : ofV l = (zeroR, false) := by unfold ofV; rw [h]; rfl
theorem of_snd (l : List UInt8) : (ofV l).2 = fits l := by
  unfold ofV
  cases h : fits l <;> simp
/-- Texts stand as roots do. -/
theorem dg_lt : ∀ p q : Fin 16, (dg p.1 < dg q.1 ↔ p.1 < q.1) ∧ (dg p.1 = dg q.1 ↔ p.1 = q.1) := by decide +kernel
theorem dg_order {a b : Nat} (ha : a < 256) (hb : b < 256) : (Op.bytesLess [dg (a / 16), dg (a % 16)] [dg (b / 16), dg (b % 16)] = decide (a < b)) ∧ ((dg (a / 16) = dg (b / 16) ∧ dg (a % 16) = dg (b % 16)) ↔ a = b) := by
  obtain ⟨p1, p2⟩ := dg_lt ⟨a / 16, by omega⟩ ⟨b / 16, by omega⟩
  obtain ⟨q1, q2⟩ := dg_lt ⟨a % 16, by omega⟩ ⟨b % 16, by omega⟩
  simp only [] at p1 p2 q1 q2
  constructor
  · rw [Bool.eq_iff_iff]
    simp only [Op.bytesLess, Bool.or_eq_true, Bool.and_eq_true, decide_eq_true_eq, beq_iff_eq, p1, p2, q1, q2]
    simp
    omega
  · rw [p2, q2]; omega
theorem cmp_cons (x y : Int) (a b : List Int) : cmpV (x :: a) (y :: b) = if x < y then -1 else if y < x then 1 else cmpV a b := by rw [cmpV]
theorem less_two (a b c d : UInt8) (l r : List UInt8) : Op.bytesLess (a :: b :: l) (c :: d :: r) = (Op.bytesLess [a, b] [c, d] || ((a == c && b == d) && Op.bytesLess l r)) := by
  simp only [Op.bytesLess]
  cases decide (a < c) <;> cases (a == c) <;> cases decide (b < d) <;> cases (b == d) <;> simp
theorem less_text : ∀ (a b : List Int), (∀ x ∈ a, (Lit.int .u8 x).wf = true) → (∀ x ∈ b, (Lit.int .u8 x).wf = true) → a.length = b.length → Op.bytesLess (textV a) (textV b) = ltV a b
  | [], [], _, _, _ => rfl
  | x :: a, y :: b, ha, hb, hl => by
    have ih := less_text a b (fun z hz => ha z (by simp [hz])) (fun z hz => hb z (by simp [hz])) (by simpa using hl)
    have hx : 0 ≤ x ∧ x ≤ 255 := by
      have := ha x (by simp)
      simp [Lit.wf, IntKind.min, IntKind.max, IntKind.signed, IntKind.bits] at this
      omega
    have hy : 0 ≤ y ∧ y ≤ 255 := by
      have := hb y (by simp)
      simp [Lit.wf, IntKind.min, IntKind.max, IntKind.signed, IntKind.bits] at this
      omega
    obtain ⟨o1, o2⟩ := dg_order (a := x.toNat) (b := y.toNat) (by omega) (by omega)
    have e1 : textV (x :: a) = dg (x.toNat / 16) :: dg (x.toNat % 16) :: textV a := rfl
    have e2 : textV (y :: b) = dg (y.toNat / 16) :: dg (y.toNat % 16) :: textV b := rfl
    rw [e1, e2, less_two, o1, ih]
    unfold ltV
    rw [cmp_cons]
    by_cases h1 : x < y
    · have : x.toNat < y.toNat := by omega
      simp [this, h1]
    · by_cases h2 : y < x
      · have n1 : ¬ x.toNat < y.toNat := by omega
        have n2 : ¬ x.toNat = y.toNat := by omega
        have n3 := fun h => n2 (o2.1 h)
        rw [if_neg h1, if_pos h2, decide_eq_false n1]
        have n4 : (dg (x.toNat / 16) == dg (y.toNat / 16) && dg (x.toNat % 16) == dg (y.toNat % 16)) = false := by
          rw [Bool.eq_false_iff]
          intro h
          rw [Bool.and_eq_true, beq_iff_eq, beq_iff_eq] at h
          exact n3 h
        rw [n4]
        rfl
      · obtain rfl : x = y := by omega
        simp
  | [], _ :: _, _, _, h => by simp at h
  | _ :: _, [], _, _, h => by simp at h
/-- Rising lists. -/
def Strict (S : List (List Int)) : Prop := S.Pairwise fun x y => ltV x y = true
theorem le_trans' (x y z : List Int) (h : (!ltV y x) = true) (g : (!ltV z y) = true) : (!ltV z x) = true := by
  simp only [Bool.not_eq_true'] at *
  cases e : ltV z x with
  | false => rfl
  | true =>
    exfalso
    cases e1 : ltV x y with
    | true => rw [lt_trans e e1] at g; cases g
    | false => have := lt_total h e1; subst this; rw [e] at g; cases g
theorem le_total' (x y : List Int) : ((!ltV y x) || (!ltV x y)) = true := by
  cases e : ltV y x with
  | false => rfl
  | true => rw [lt_asymm e]; rfl
theorem sortL_strict {R : List (List Int)} (h : R.Nodup) : Strict (sortL R) := by
  have h1 := List.pairwise_mergeSort (le := fun x y => !ltV y x) le_trans' le_total' R
  have h2 : (sortL R).Nodup := (List.mergeSort_perm R _).nodup_iff.2 h
  have h3 : (sortL R).Pairwise fun x y => (!ltV y x) = true := h1
  refine (h3.and h2).imp ?_
  intro x y hxy
  obtain ⟨a, b⟩ := hxy
  simp only [Bool.not_eq_true'] at a
  cases e : ltV x y with
  | true => rfl
  | false => exact absurd (lt_total e a) b
theorem sortV_strict (R : List (List Int)) : Strict (sortV R) := sortL_strict (dd_nodup R)
theorem strict_unique : ∀ {S T : List (List Int)}, Strict S → Strict T → (∀ x, x ∈ S ↔ x ∈ T) → S = T
  | [], [], _, _, _ => rfl
  | [], y :: T, _, _, h => absurd ((h y).2 (by simp)) (by simp)
  | x :: S, [], _, _, h => absurd ((h x).1 (by simp)) (by simp)
  | x :: S, y :: T, hS, hT, h => by
    obtain ⟨a1, a2⟩ := List.pairwise_cons.1 hS
    obtain ⟨b1, b2⟩ := List.pairwise_cons.1 hT
    have e : x = y := by
      rcases List.mem_cons.1 ((h x).1 (by simp)) with e | e
      · exact e
      · rcases List.mem_cons.1 ((h y).2 (by simp)) with e' | e'
        · exact e'.symm
        · have := lt_asymm (a1 y e')
          rw [b1 x e] at this
          cases this
    subst e
    congr 1
    refine strict_unique a2 b2 fun z => ⟨fun hz => ?_, fun hz => ?_⟩
    · rcases List.mem_cons.1 ((h z).1 (by simp [hz])) with e | e
      · exact absurd e.symm (lt_ne (a1 z hz))
      · exact e
    · rcases List.mem_cons.1 ((h z).2 (by simp [hz])) with e | e
      · exact absurd e.symm (lt_ne (b1 z hz))
      · exact e
theorem sortV_is {R S : List (List Int)} (h : Strict S) (hm : ∀ x, x ∈ S ↔ x ∈ R) : sortV R = S := strict_unique (sortV_strict R) h fun x => by rw [mem_sortV, hm]
theorem sortV_union (L K : List (List Int)) : sortV (sortV L ++ sortV K) = sortV (L ++ K) := strict_unique (sortV_strict _) (sortV_strict _) fun x => by simp [mem_sortV]
theorem sortV_len (R : List (List Int)) : (sortV R).length ≤ R.length := by
  unfold sortV
  rw [sortL_len]
  exact dd_len R
theorem sortV_ok {R : List (List Int)} (h : ∀ x ∈ R, RootOk x) : ∀ x ∈ sortV R, RootOk x := fun x hx => h x (mem_sortV.1 hx)
theorem sortV_two (e : List Int) : sortV [e, e] = [e] := sortV_is (by simp [Strict]) (by simp)
end Root
end Go.Proofs.Ytamibbcdklpncaa
