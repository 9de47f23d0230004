/- The contracts of layer 6 (tree): is, line, Above, At, Kids. -/
import Derived.Test.YtdeeplfbdoapmaaTree
import Derived.Test.YtdeeplfbdoapmaaIterS
import Derived.Outline
import Derived.WalkMore
namespace Go.Proofs.Ytdeeplfbdoapmaa
open Go.RowKit Go.WideShapes Go.ChangeShapes
set_option linter.unusedVariables false
set_option linter.unusedSimpArgs false
attribute [local go_sem] Oper.semAt_some





namespace Tree
/-- Is one of them no place? -/
def outB (n : Nat) (i : Int) : Bool := decide (i < 0 ∨ (n : Int) ≤ i)
def isL (T : List Node) (l : List Int) : Bool := mayV T && !(l.any (outB T.length))
end Tree
theorem is1_any (i : Int) (B : Nat) (A : Option Addr) (n c : Nat) (hn : n ≤ 17592186043904) (w : World) (hc : w.cell? ⟨B, 0, none⟩ = some (.slice A n c)) :
    Calls Try.prog 36 #[.int .i64 i, .pointer (some ⟨B, 0, none⟩)] w fun e w' => e = .returned (.bool (Tree.outB n i)) ∧ w' = w := by
  by_cases h0 : i < 0
  · have e : Tree.outB n i = true := by unfold Tree.outB; exact decide_eq_true (.inl h0)
    rw [e]
    have g0 : decide (i < 0) = true := decide_eq_true h0
    go_enter Try.func36, Try.ntmps36
    go_wp2
    go_ret
    exact ⟨rfl, rfl⟩
  · have g0 : decide (i < 0) = false := decide_eq_false h0
    by_cases h1 : (n : Int) ≤ i
    · have e : Tree.outB n i = true := by unfold Tree.outB; exact decide_eq_true (.inr h1)
      rw [e]
      clear e
      go_enter Try.func36, Try.ntmps36
      go_wp2
      go_ret
      exact ⟨rfl, rfl⟩
    · have e : Tree.outB n i = false := by unfold Tree.outB; exact decide_eq_false (by omega)
      rw [e]
      clear e
      go_enter Try.func36, Try.ntmps36
      go_wp2
      go_ret
      exact ⟨rfl, rfl⟩
set_option maxHeartbeats 1000000 in
theorem isIndex_any (L : Option Addr) (m d : Nat) (l : List Int) (B : Nat) (A : Option Addr) (n c : Nat) (hn : n ≤ 17592186043904) (w : World) (h : Ints w .i64 L m d l) (hc : w.cell? ⟨B, 0, none⟩ = some (.slice A n c)) :
    Calls Try.prog 39 #[.slice L m d, .func (.func 36) #[] #[.pointer (some ⟨B, 0, none⟩)]] w fun e w' => (∃ r : Int, e = .returned (.int .i64 r) ∧ decide (0 ≤ r) = l.any (Tree.outB n)) ∧ w' = w := by
  have hv := h.view
  have hlen := h.len
  have hroom := h.room
  subst hlen
  clear h
  have H1 := Lib.hid (fun x => is1_any x B A n c hn w hc)
  clear hc
  go_enter Try.func39, Try.ntmps39
  go_wp2
  go_loopw [5, 8] (fun _ i wr => ∃ k : Nat, k ≤ l.length ∧ i = .int .i64 k ∧ (∀ j, j < k → Tree.outB n (nth l j) = false) ∧ wr = w) (fun _ i _ => l.length - (intOf i).toNat)
  case atStart => exact ⟨0, Nat.zero_le _, rfl, (fun j hj => absurd hj (Nat.not_lt_zero j)), rfl⟩
  case round =>
    obtain ⟨k, hk, rfl, hno, rfl⟩ := hrel
    have HNO := Lib.hid hno
    clear hno
    by_cases hlt : k < l.length
    · rcases hv with h0 | ⟨b, off, rfl, hcs⟩
      · omega
      have dx := hcs k hlt
      clear hcs
      go_wp2_with fail
      refine (H1.out _).mono ?_
      rintro e w' ⟨rfl, rfl⟩
      cases ho : Tree.outB n (nth l k) with
      | true =>
        have HO := Lib.hid ho
        clear ho
        go_wp2
        go_ret
        refine ⟨⟨_, rfl, ?_⟩, rfl⟩
        have : l.any (Tree.outB n) = true := List.any_eq_true.2 ⟨nth l k, by rw [nth_eq hlt]; exact List.getElem_mem hlt, HO.out⟩
        rw [this]; simp
      | false =>
        have HO := Lib.hid ho
        clear ho
        go_wp2
        go_roundw
        case rel =>
          refine ⟨k + 1, by omega, by go_num, fun j hj => ?_, trivial⟩
          rcases Nat.lt_or_eq_of_le (Nat.lt_succ_iff.1 hj) with h | rfl
          · exact HNO.out j h
          · exact HO.out
        case measure => simp [intOf]; omega
    · have e : k = l.length := by omega
      subst e
      go_wp2
      go_ret
      refine ⟨⟨_, rfl, ?_⟩, rfl⟩
      have : l.any (Tree.outB n) = false := List.any_eq_false.2 (fun x hx => by
        obtain ⟨i, hi, rfl⟩ := List.getElem_of_mem hx
        have := HNO.out i hi
        rw [nth_eq hi] at this
        simp [this])
      rw [this]; simp
theorem isContains_any (L : Option Addr) (m d : Nat) (l : List Int) (B : Nat) (A : Option Addr) (n c : Nat) (hn : n ≤ 17592186043904) (w : World) (h : Ints w .i64 L m d l) (hc : w.cell? ⟨B, 0, none⟩ = some (.slice A n c)) :
    Calls Try.prog 35 #[.slice L m d, .func (.func 36) #[] #[.pointer (some ⟨B, 0, none⟩)]] w fun e w' => e = .returned (.bool (l.any (Tree.outB n))) ∧ w' = w := by
  have H := Lib.hid (isIndex_any L m d l B A n c hn w h hc)
  clear h hc
  obtain ⟨b, hb⟩ : ∃ b, l.any (Tree.outB n) = b := ⟨_, rfl⟩
  rw [hb] at H ⊢
  clear hb
  go_enter Try.func35, Try.ntmps35
  go_wp2_with fail
  refine H.out.mono ?_
  rintro e w' ⟨⟨r, rfl, rfl⟩, rfl⟩
  go_wp2
  go_ret
  exact ⟨rfl, rfl⟩
set_option maxHeartbeats 1000000 in
theorem is_any (A : Option Addr) (n c : Nat) (NS : List Node) (L : Option Addr) (m d : Nat) (l : List Int) (w : World) (h : NL w A n c NS) (g : Ints w .i64 L m d l) :
    Calls Try.prog 29 #[.agg #[.slice A n c], .slice L m d] w fun e w' => e = .returned (.bool (Tree.isL NS l)) ∧ Ext w w' := by
  have hlen := h.len
  have hroom := h.row.room
  have HM := Lib.hid (fun b (hb : Tree.mayV NS = b) W (k : Ext w W) => treeMay_is A n c NS b hb W (h.ext k))
  have HI := Lib.hid (fun W (k : Ext w W) => isContains_any L m d l w.heap.size A n c hroom W (g.ext k))
  clear h g
  cases hm : Tree.mayV NS with
  | false =>
    have HM' := Lib.hid (fun W (kx : Ext w W) => HM.out false hm W kx)
    have e : Tree.isL NS l = false := by unfold Tree.isL; rw [hm]; rfl
    rw [e]
    clear hm e
    go_enter Try.func29, Try.ntmps29
    go_wp2_with fail
    refine (HM'.out _ ((by repeat (first | assumption | exact Ext.refl _ | refine Ext.alloc ?_ _ | refine Ext.drew ?_ | refine Ext.drewN ?_ _ | refine Ext.setCell ?_ (by first | (simp; done) | omega | (simp; omega)) _ | refine Ext.trans (by assumption) ?_)))).mono ?_
    rintro e w1 ⟨rfl, hx1⟩
    go_wp2
    go_ret
    exact ⟨rfl, Ext.trans ((by repeat (first | assumption | exact Ext.refl _ | refine Ext.alloc ?_ _ | refine Ext.drew ?_ | refine Ext.drewN ?_ _ | refine Ext.setCell ?_ (by first | (simp; done) | omega | (simp; omega)) _ | refine Ext.trans (by assumption) ?_))) hx1⟩
  | true =>
    have HM' := Lib.hid (fun W (kx : Ext w W) => HM.out true hm W kx)
    have e : Tree.isL NS l = !(l.any (Tree.outB n)) := by unfold Tree.isL; rw [hm, hlen]; rfl
    rw [e]
    clear hm e
    obtain ⟨b, hb⟩ : ∃ b, l.any (Tree.outB n) = b := ⟨_, rfl⟩
    rw [hb] at HI ⊢
    clear hb
    go_enter Try.func29, Try.ntmps29
    go_wp2_with fail
    refine (HM'.out _ ((by repeat (first | assumption | exact Ext.refl _ | refine Ext.alloc ?_ _ | refine Ext.drew ?_ | refine Ext.drewN ?_ _ | refine Ext.setCell ?_ (by first | (simp; done) | omega | (simp; omega)) _ | refine Ext.trans (by assumption) ?_)))).mono ?_
    rintro e w1 ⟨rfl, hx1⟩
    have k1 : Ext w w1 := Ext.trans ((by repeat (first | assumption | exact Ext.refl _ | refine Ext.alloc ?_ _ | refine Ext.drew ?_ | refine Ext.drewN ?_ _ | refine Ext.setCell ?_ (by first | (simp; done) | omega | (simp; omega)) _ | refine Ext.trans (by assumption) ?_))) hx1
    have c0 := hx1.cell (p := ⟨w.heap.size, 0, none⟩) (v := .slice A n c) (by first | (simp; done) | (simp (maxDischargeDepth := 7) [go_sem]; done))
    go_wp2_with fail
    refine (HI.out _ k1 c0).mono ?_
    rintro e w2 ⟨rfl, rfl⟩
    go_wp2
    go_ret
    exact ⟨rfl, k1⟩

























































































theorem own_set {A : World} {B B' : Nat} {v : Value} (h : B' ≠ B) : (A.setCell ⟨B, 0, none⟩ v).heap[B']? = A.heap[B']? := Below.heap_setCell A ⟨B, 0, none⟩ v _ h
theorem two_wf {i k : Int} (hi : (Lit.int .i64 i).wf = true) (hk : (Lit.int .i64 k).wf = true) : ∀ x ∈ [i, k], (Lit.int .i64 x).wf = true := by
  intro x hx
  simp at hx
  rcases hx with rfl | rfl
  · exact hi
  · exact hk
theorem isL_two (NS : List Node) (i k : Int) : Tree.isL NS [i, k] = (Tree.isV NS i && Tree.isV NS k) := by
  unfold Tree.isL Tree.isV Tree.outB
  cases Tree.mayV NS
  · rfl
  · simp only [List.any_cons, List.any_nil, Bool.true_and, Bool.or_false]
    rw [Bool.eq_iff_iff]
    simp
    try omega
theorem isL_one (NS : List Node) (i : Int) : Tree.isL NS [i] = Tree.isV NS i := by
  unfold Tree.isL Tree.isV Tree.outB
  cases Tree.mayV NS
  · rfl
  · simp only [List.any_cons, List.any_nil, Bool.true_and, Bool.or_false]
    rw [Bool.eq_iff_iff]
    simp
    try omega
















































































































































theorem find_stop {NS : List Node} {k x s : Nat} {pre : List Nat} (h : (pre ++ [x]) <+: Tree.line NS k) (hp : ∀ a ∈ pre, s < (Tree.nd NS a).slot) (hx : (Tree.nd NS x).slot ≤ s) : (Tree.line NS k).find? (fun a => decide ((Tree.nd NS a).slot ≤ s)) = some x := by
  obtain ⟨rest, e⟩ := h
  rw [← e, List.append_assoc, List.find?_append, List.find?_eq_none.2 (fun a ha => by have := hp a ha; simp; omega)]
  simp [hx]
theorem find_none {NS : List Node} {k s : Nat} (hp : ∀ a ∈ Tree.line NS k, s < (Tree.nd NS a).slot) : (Tree.line NS k).find? (fun a => decide ((Tree.nd NS a).slot ≤ s)) = none :=
  List.find?_eq_none.2 (fun a ha => by have := hp a ha; simp; omega)















































































































































end Go.Proofs.Ytdeeplfbdoapmaa
