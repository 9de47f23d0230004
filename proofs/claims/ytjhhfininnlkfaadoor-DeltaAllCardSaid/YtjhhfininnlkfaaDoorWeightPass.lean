/- The contracts of layer 8 (weight): with, Pass, Same, and the document's Same. -/
import Derived.Test.YtjhhfininnlkfaaDoorWeight
namespace Go.Proofs.YtjhhfininnlkfaaDoor
open Go.RowKit Go.WideShapes Go.ChangeShapes
set_option linter.unusedVariables false
set_option linter.unusedSimpArgs false





theorem SubsAt.ints {w : World} {v : Value} {o : Option (List Int)} (h : SubsAt w v o) : IsInts w .u64 v (o.getD []) := by
  cases o with
  | none => exact ⟨none, 0, 0, h, Ints.nil_mk _ _⟩
  | some l => exact h
namespace Weight
def withN (a b c : Nat) : Nat := Num.subL (Num.lo (a + b)) c
def withB (a b c : Nat) : Bool := decide (c ≤ a + b ∧ a + b - c < 18446744073709551616)
theorem with_eq {a b c : Nat} (ha : a < 18446744073709551616) (hb : b < 18446744073709551616) (hc : c < 18446744073709551616) : decide (Num.hi (a + b) = Num.subH (Num.lo (a + b)) c) = withB a b c := by
  unfold withB Num.hi Num.subH Num.lo Num.M
  rw [decide_eq_decide]
  split <;> omega
theorem withN_eq {a b c : Nat} (ha : a < 18446744073709551616) (hb : b < 18446744073709551616) (hc : c < 18446744073709551616) (h : withB a b c = true) : withN a b c = a + b - c := by
  have h := of_decide_eq_true h
  unfold withN Num.subL Num.lo Num.M
  omega
theorem withN_lt (a b c : Nat) : withN a b c < 18446744073709551616 := by unfold withN Num.subL Num.M; omega
end Weight































set_option maxHeartbeats 2000000 in
theorem rsame64_any (A : Option Addr) (n c : Nat) (B : Option Addr) (n' d : Nat) (l m : List Int) (w : World) (h : Ints w .u64 A n c l) (g : Ints w .u64 B n' d m) :
    Calls Tryd.prog 16 #[.slice A n c, .slice B n' d] w fun e w' => e = .returned (.bool (decide (l = m))) ∧ Ext w w' := by
  have hroom := h.room
  have hroom2 := g.room
  have hv := h.view
  have gv := g.view
  obtain rfl := h.len
  have gl := g.len
  clear h g
  by_cases hlen : l.length = m.length
  · subst gl
    have H1 : Hid (∀ k, k < l.length → ∃ b off, A = some ⟨b, off, none⟩ ∧ w.cell? ⟨b, off + k, none⟩ = some (.int .u64 (nth l k))) := fun k hk => by
      rcases hv with h0 | ⟨b, off, e, hc⟩
      · omega
      · exact ⟨b, off, e, hc k hk⟩
    have H2 : Hid (∀ k, k < l.length → ∃ b off, B = some ⟨b, off, none⟩ ∧ w.cell? ⟨b, off + k, none⟩ = some (.int .u64 (nth m k))) := fun k hk => by
      rcases gv with h0 | ⟨b, off, e, hc⟩
      · omega
      · exact ⟨b, off, e, hc k (by omega)⟩
    have HL := Lib.hid hlen
    have gne : ((l.length : Int) != m.length) = false := by simp; omega
    clear hv gv hlen
    go_enter Tryd.func16, Tryd.ntmps16
    go_wp2
    go_loopw [5] (fun  i wr => ∃ k : Nat, k ≤ l.length ∧ i = .int .i64 k ∧ (∀ j, j < k → nth l j = nth m j) ∧ Ext w wr) (fun  i _ => l.length - (intOf i).toNat)
    case atStart => exact ⟨0, Nat.zero_le _, rfl, (fun j hj => absurd hj (Nat.not_lt_zero j)), Ext.refl _⟩
    case round =>
      obtain ⟨k, hk, rfl, hs, hx⟩ := hrel
      have HS := Lib.hid hs
      clear hs
      by_cases hlt : k < l.length
      · obtain ⟨b, off, rfl, d1⟩ := H1.out k hlt
        obtain ⟨b2, off2, rfl, d2⟩ := H2.out k hlt
        replace d1 := hx.cell d1
        replace d2 := hx.cell d2
        have gk : (k : Int) < l.length := by omega
        have gk2 : (k : Int) < m.length := by have := HL.out; omega
        by_cases he : nth l k = nth m k
        · have HE := Lib.hid he
          rw [← he] at d2
          have gz : (nth l k != nth l k) = false := by simp
          clear he
          go_wp2
          go_quiet (fail)
          go_wp2
          go_roundw
          case rel =>
            have hs' : ∀ j, j < k + 1 → nth l j = nth m j := fun j hj => by
              rcases Nat.lt_or_eq_of_le (Nat.lt_succ_iff.1 hj) with h | rfl
              · exact HS.out j h
              · exact HE.out
            first | exact ⟨k + 1, by omega, by go_num, hs', hx.drewN _⟩ | (refine ⟨_, ⟨k + 1, by omega, ?_, hs', hx.drewN _⟩, rfl⟩; go_num)
          case measure => simp [intOf]; omega
        · have H : Hid (decide (l = m) = false) := decide_eq_false (fun e => he (by rw [e]))
          have gz : (nth l k != nth m k) = true := by simp; exact he
          go_wp2
          go_quiet (fail)
          go_wp2
          go_ret
          exact ⟨by rw [H.out]; rfl, hx.drewN _⟩
      · have e : k = l.length := by omega
        subst e
        have H : Hid (decide (l = m) = true) := decide_eq_true (nth_ext HL.out HS.out)
        go_wp2
        go_ret
        exact ⟨by rw [H.out]; rfl, hx⟩
  · have H : Hid (decide (l = m) = false) := decide_eq_false (fun e => hlen (by rw [e]))
    subst gl
    have gne : ((l.length : Int) != m.length) = true := by simp; omega
    clear hv gv hlen
    go_enter Tryd.func16, Tryd.ntmps16
    go_wp2
    go_ret
    exact ⟨by rw [H.out]; rfl, Ext.refl _⟩












theorem Weight.listOf_succ (n : Nat) (f : Nat → Nat) : Weight.listOf (n + 1) f = Weight.listOf n f ++ [((f n : Nat) : Int)] := by
  unfold Weight.listOf; rw [List.range_succ, List.map_append]; rfl
theorem Weight.subV_len {T : List Node} {l r : List Int} (h : Weight.subV T l = some r) : r.length = T.length := by
  unfold Weight.subV at h
  split at h
  · obtain rfl := Option.some.inj h; exact Weight.listOf_len _ _
  · cases h
theorem Ints.nat64 {w : World} {A : Option Addr} {n c : Nat} {l : List Int} (h : Ints w .u64 A n c l) (k : Nat) : nth l k = (Weight.at' l k : Nat) ∧ Weight.at' l k < 18446744073709551616 := by
  have := h.u64 k
  unfold Weight.at'
  omega
















































































































































































end Go.Proofs.YtjhhfininnlkfaaDoor
