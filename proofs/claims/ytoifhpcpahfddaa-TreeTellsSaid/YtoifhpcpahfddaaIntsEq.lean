/- areopagusref04.Ints: two lists of numbers are the same, or not. -/
import Derived.Test.YtoifhpcpahfddaaRow
namespace Go.Proofs.Ytoifhpcpahfddaa
open Go.RowKit Go.WideShapes Go.ChangeShapes
set_option linter.unusedVariables false
set_option linter.unusedSimpArgs false

/-- Are two lists of numbers the same? -/
def eqI (l m : List Int) : Bool := decide (l = m)
set_option maxHeartbeats 2000000 in
theorem intsEq_any (A : Option Addr) (n c : Nat) (B : Option Addr) (n' d : Nat) (l m : List Int) (w : World) (h : Ints w .i64 A n c l) (g : Ints w .i64 B n' d m) :
    Calls Try.prog 25 #[.slice A n c, .slice B n' d] w fun e w' => e = .returned (.bool (eqI l m)) ∧ Ext w w' := by
  have hroom := h.room
  have hroom2 := g.room
  have hv := h.view
  have gv := g.view
  obtain rfl := h.len
  obtain rfl := g.len
  by_cases hlen : l.length = m.length
  · rcases hv with h0 | ⟨b, off, rfl, hc⟩
    · have hl : l = [] := List.eq_nil_of_length_eq_zero h0
      have hm : m = [] := List.eq_nil_of_length_eq_zero (by omega)
      subst hl; subst hm
      have H := Lib.hid (show eqI [] [] = true from rfl)
      clear h g gv
      go_enter Try.func25, Try.ntmps25
      go_wp2
      go_loopw [5] (fun i wr => i = .int .i64 0 ∧ Ext w wr) (fun i _ => 0)
      case atStart => exact ⟨rfl, Ext.refl _⟩
      case round =>
        obtain ⟨rfl, hx⟩ := hrel
        go_wp2
        go_ret
        exact ⟨rfl, hx⟩
    · rcases gv with h0 | ⟨b2, off2, rfl, hc2⟩
      · have hm : m = [] := List.eq_nil_of_length_eq_zero (by omega)
        have hl : l = [] := List.eq_nil_of_length_eq_zero (by omega)
        subst hl; subst hm
        have H := Lib.hid (show eqI [] [] = true from rfl)
        clear h g hc
        go_enter Try.func25, Try.ntmps25
        go_wp2
        go_loopw [5] (fun i wr => i = .int .i64 0 ∧ Ext w wr) (fun i _ => 0)
        case atStart => exact ⟨rfl, Ext.refl _⟩
        case round =>
          obtain ⟨rfl, hx⟩ := hrel
          go_wp2
          go_ret
          exact ⟨rfl, hx⟩
      · have HC := Lib.hid hc
        have HC2 := Lib.hid (fun k (hk : k < l.length) => hc2 k (by omega))
        clear h g hc hc2
        go_enter Try.func25, Try.ntmps25
        go_wp2
        go_loopw [5] (fun i wr => ∃ k : Nat, k ≤ l.length ∧ i = .int .i64 k ∧ (∀ j, j < k → nth l j = nth m j) ∧ Ext w wr) (fun i _ => l.length - (intOf i).toNat)
        case atStart => exact ⟨0, Nat.zero_le _, rfl, (fun j hj => absurd hj (Nat.not_lt_zero j)), Ext.refl _⟩
        case round =>
          obtain ⟨k, hk, rfl, hs, hx⟩ := hrel
          have HS := Lib.hid hs
          clear hs
          by_cases hlt : k < l.length
          · have d1 := hx.cell (HC.out k hlt)
            have d2 := hx.cell (HC2.out k hlt)
            by_cases he : nth l k = nth m k
            · rw [← he] at d2
              go_wp2
              go_quiet (fail)
              go_wp2
              go_roundw
              case rel =>
                refine ⟨k + 1, by omega, by go_num, fun j hj => ?_, (by repeat (first | assumption | exact Ext.refl _ | refine Ext.alloc ?_ _ | refine Ext.drew ?_ | refine Ext.drewN ?_ _ | refine Ext.setCell ?_ (by first | (simp; done) | omega | (simp; omega)) _ | refine Ext.trans (by assumption) ?_))⟩
                rcases Nat.lt_or_eq_of_le (Nat.lt_succ_iff.1 hj) with h | rfl
                · exact HS.out j h
                · exact he
              case measure => simp [intOf]; omega
            · have H : Hid (eqI l m = false) := by
                show eqI l m = false
                unfold eqI
                refine decide_eq_false (fun e => he (by rw [e]))
              go_wp2
              go_quiet (fail)
              go_wp2
              go_ret
              exact ⟨by rw [H.out]; rfl, (by repeat (first | assumption | exact Ext.refl _ | refine Ext.alloc ?_ _ | refine Ext.drew ?_ | refine Ext.drewN ?_ _ | refine Ext.setCell ?_ (by first | (simp; done) | omega | (simp; omega)) _ | refine Ext.trans (by assumption) ?_))⟩
          · have e : k = l.length := by omega
            subst e
            have H : Hid (eqI l m = true) := by
              show eqI l m = true
              unfold eqI
              exact decide_eq_true (nth_ext hlen HS.out)
            go_wp2
            go_ret
            exact ⟨by rw [H.out]; rfl, (by repeat (first | assumption | exact Ext.refl _ | refine Ext.alloc ?_ _ | refine Ext.drew ?_ | refine Ext.drewN ?_ _ | refine Ext.setCell ?_ (by first | (simp; done) | omega | (simp; omega)) _ | refine Ext.trans (by assumption) ?_))⟩
  · have H : Hid (eqI l m = false) := by
      show eqI l m = false
      unfold eqI
      exact decide_eq_false (fun e => hlen (by rw [e]))
    clear h g hv gv
    go_enter Try.func25, Try.ntmps25
    go_wp2
    go_ret
    exact ⟨by rw [H.out]; rfl, Ext.refl _⟩

theorem ints_self (L : List Int) (A : Option Addr) (n c : Nat) (B : Option Addr) (n' d : Nat) (w : World) (h : Ints w .i64 A n c L) (g : Ints w .i64 B n' d L) :
    Calls Try.prog 25 #[.slice A n c, .slice B n' d] w fun e w' => e = .returned (.bool true) ∧ Ext w w' := by
  have k := intsEq_any A n c B n' d L L w h g
  rw [show eqI L L = true by simp [eqI]] at k
  exact k
end Go.Proofs.Ytoifhpcpahfddaa
