/- The chapter's example of layer 10, and the document's equality of truths. -/
import Derived.Test.YtophpemlaecglaaViewLeads
import Derived.Test.YtophpemlaecglaaTreeThree
namespace Go.Proofs.Ytophpemlaecglaa
open Go.RowKit Go.WideShapes Go.ChangeShapes
set_option linter.unusedVariables false
set_option linter.unusedSimpArgs false
theorem bool_ext {l m : List Bool} (h : l.length = m.length) (e : ∀ k, k < l.length → l.getD k false = m.getD k false) : l = m := by
  apply List.ext_getElem h
  intro i h1 h2
  have := e i h1
  simpa [List.getD, h1, h2] using this
theorem Bools.ext_made {w : World} {B n : Nat} {l : List Bool} {e : TypeId} (h : w.heap[B]? = some (.cells (l.map Value.bool).toArray e)) (hl : l.length = n) (hn : n ≤ 17592186043904) : Bools w (some ⟨B, 0, none⟩) n n l := by
  refine ⟨hl, Nat.le_refl _, hn, (fun e => by cases e), fun hn0 => ⟨B, 0, rfl, fun i hi => ?_⟩⟩
  simp [World.cell?, h, List.getD, show i < l.length by omega]
set_option maxHeartbeats 2000000 in
theorem rbools_any (A : Option Addr) (n c : Nat) (B : Option Addr) (n' d : Nat) (l m : List Bool) (w : World) (h : Bools w A n c l) (g : Bools w B n' d m) :
    Calls Try.prog 10 #[.slice A n c, .slice B n' d] w fun e w' => e = .returned (.bool (decide (l = m))) ∧ Ext w w' := by
  have hroom := h.room
  have hroom2 := g.room
  have hv := h.cells
  have gv := g.cells
  obtain rfl := h.len
  have gl := g.len
  clear h g
  by_cases hlen : l.length = m.length
  · subst gl
    have H1 : Hid (∀ k, k < l.length → ∃ b off, A = some ⟨b, off, none⟩ ∧ w.cell? ⟨b, off + k, none⟩ = some (.bool (l.getD k false))) := fun k hk => by
      obtain ⟨b, off, e, hc⟩ := hv (by omega)
      exact ⟨b, off, e, hc k hk⟩
    have H2 : Hid (∀ k, k < l.length → ∃ b off, B = some ⟨b, off, none⟩ ∧ w.cell? ⟨b, off + k, none⟩ = some (.bool (m.getD k false))) := fun k hk => by
      obtain ⟨b, off, e, hc⟩ := gv (by omega)
      exact ⟨b, off, e, hc k (by omega)⟩
    have HL := Lib.hid hlen
    have gne : ((l.length : Int) != m.length) = false := by simp; omega
    clear hv gv hlen
    go_enter Try.func10, Try.ntmps10
    go_wp2
    go_loopw [5] (fun i wr => ∃ k : Nat, k ≤ l.length ∧ i = .int .i64 k ∧ (∀ j, j < k → l.getD j false = m.getD j false) ∧ Ext w wr) (fun i _ => l.length - (intOf i).toNat)
    case atStart => exact ⟨0, Nat.zero_le _, rfl, (fun j hj => absurd hj (Nat.not_lt_zero j)), Ext.refl _⟩
    case round =>
      obtain ⟨k, hk, rfl, hs, hx⟩ := hrel
      have HS := Lib.hid hs
      clear hs
      by_cases hlt : k < l.length
      · obtain ⟨b, off, rfl, d1⟩ := H1.out k hlt
        obtain ⟨b2, off2, rfl, d2⟩ := H2.out k hlt
        replace d1 := hx.cell d1
        replace d2 := hx.cell d2
        have gk : (k : Int) < l.length := by omega
        have gk2 : (k : Int) < m.length := by have := HL.out; omega
        by_cases he : l.getD k false = m.getD k false
        · have HE := Lib.hid he
          rw [← he] at d2
          generalize l.getD k false = x at d1 d2
          clear he
          cases x
          all_goals
            go_wp2
            go_quiet (fail)
            go_wp2
            go_roundw
            case rel =>
              have hs' : ∀ j, j < k + 1 → l.getD j false = m.getD j false := fun j hj => by
                rcases Nat.lt_or_eq_of_le (Nat.lt_succ_iff.1 hj) with h | rfl
                · exact HS.out j h
                · exact HE.out
              first | exact ⟨k + 1, by omega, by go_num, hs', hx.drewN _⟩ | (refine ⟨_, ⟨k + 1, by omega, ?_, hs', hx.drewN _⟩, rfl⟩; go_num)
            case measure => simp [intOf]; omega
        · have H : Hid (decide (l = m) = false) := decide_eq_false (fun e => he (by rw [e]))
          generalize l.getD k false = x at d1 he
          generalize m.getD k false = y at d2 he
          cases x <;> cases y <;> first | exact absurd rfl he | skip
          all_goals
            clear he
            go_wp2
            go_quiet (fail)
            go_wp2
            go_ret
            exact ⟨by rw [H.out]; rfl, hx.drewN _⟩
      · have e : k = l.length := by omega
        subst e
        have H : Hid (decide (l = m) = true) := decide_eq_true (bool_ext HL.out HS.out)
        go_wp2
        go_ret
        exact ⟨by rw [H.out]; rfl, hx⟩
  · have H : Hid (decide (l = m) = false) := decide_eq_false (fun e => hlen (by rw [e]))
    subst gl
    have gne : ((l.length : Int) != m.length) = true := by simp; omega
    clear hv gv hlen
    go_enter Try.func10, Try.ntmps10
    go_wp2
    go_ret
    exact ⟨by rw [H.out]; rfl, Ext.refl _⟩
def V3 : List Node := [⟨rootN 1, -1, 0, 0⟩, ⟨rootN 2, 0, 1, 1⟩, ⟨rootN 3, 0, 2, 2⟩]
theorem V3_ok : ∀ x ∈ V3, x.Ok := by
  intro x hx
  unfold V3 at hx
  simp at hx
  rcases hx with rfl | rfl | rfl
  · exact ⟨rootN_ok (by decide), by decide, by decide, by decide⟩
  · exact ⟨rootN_ok (by decide), by decide, by decide, by decide⟩
  · exact ⟨rootN_ok (by decide), by decide, by decide, by decide⟩
set_option maxRecDepth 100000 in
set_option maxHeartbeats 2000000 in
theorem awake_any (w : World) : Calls Try.prog 9 #[] w fun e w' => e = .returned (.bool true) ∧ Ext w w' := by
  have HL := Lib.hid (fun B W (h : NL W B 3 3 V3) => (by have k := vleads_any B 3 3 V3 2 (by decide) 0 (by decide) W h; rw [show View.leadsV V3 2 0 = [true, false, true] from by decide +kernel] at k; exact k : Calls Try.prog 11 #[.agg #[.slice B 3 3], .int .u64 2, .int .i64 0] W fun e w' => (∃ v, e = .returned v ∧ IsBools w' v [true, false, true]) ∧ Ext W w'))
  have HB := Lib.hid (fun A c B W (h : Bools W A 3 c [true, false, true]) (g : Bools W B 3 3 [true, false, true]) => (by have k := rbools_any A 3 c B 3 3 _ _ W h g; rw [decide_eq_true rfl] at k; exact k : Calls Try.prog 10 #[.slice A 3 c, .slice B 3 3] W fun e w' => e = .returned (.bool true) ∧ Ext W w'))
  have HF2 := Lib.hid (fun B W (h : NL W B 3 3 V3) => vleaf_is B 3 3 V3 2 (by decide) 0 2 (by decide) (by decide) true (by decide +kernel) W h)
  have HF1 := Lib.hid (fun B W (h : NL W B 3 3 V3) => vleaf_is B 3 3 V3 2 (by decide) 0 1 (by decide) (by decide) false (by decide +kernel) W h)
  have HR0 := Lib.hid (fun B W (h : NL W B 3 3 V3) => vfrom_is B 3 3 V3 (rootN 3) (rootN_ok (by decide)) 0 (by decide) 2 (by decide +kernel) W h)
  have HR1 := Lib.hid (fun B W (h : NL W B 3 3 V3) => vfrom_is B 3 3 V3 (rootN 3) (rootN_ok (by decide)) 1 (by decide) 1 (by decide +kernel) W h)
  go_enter Try.func9, Try.ntmps9
  go_wp2_with fail
  have HN := Lib.hid (show NL _ _ 3 3 V3 from NL.made (w := w) (B := w.heap.size) (cs := (flatN V3).toArray) rfl rfl rfl (by omega) rfl V3_ok)
  refine (HL.out _ _ (HN.out.ext ((by repeat (first | assumption | exact Ext.refl _ | refine Ext.alloc ?_ _ | refine Ext.drew ?_ | refine Ext.drewN ?_ _ | refine Ext.setCell ?_ (by first | (simp; done) | omega | (simp; omega)) _ | refine Ext.trans (by assumption) ?_))))).mono ?_
  rintro e w1 ⟨⟨v, rfl, ⟨A, n, c, rfl, h1⟩⟩, hx1⟩
  obtain rfl : 3 = n := h1.len
  have k1 : Ext w w1 := Ext.trans ((by repeat (first | assumption | exact Ext.refl _ | refine Ext.alloc ?_ _ | refine Ext.drew ?_ | refine Ext.drewN ?_ _ | refine Ext.setCell ?_ (by first | (simp; done) | omega | (simp; omega)) _ | refine Ext.trans (by assumption) ?_))) hx1
  have t0 := hx1.cell (p := ⟨w.heap.size + 1, 0, none⟩) (v := .slice (some ⟨w.heap.size, 0, none⟩) 3 3) (by first | (simp; done) | (simp (maxDischargeDepth := 7) [go_sem]; done))
  have tl := lt_of_cell t0
  have H1 := Lib.hid (fun W (k : Ext w1 W) => HN.out.ext (Ext.trans (Ext.trans (Ext.refl _ |>.alloc _) hx1) k))
  clear HN
  go_wp2_with fail
  refine (HB.out _ _ _ _ (h1.ext ((by repeat (first | assumption | exact Ext.refl _ | refine Ext.alloc ?_ _ | refine Ext.drew ?_ | refine Ext.drewN ?_ _ | refine Ext.setCell ?_ (by first | (simp; done) | omega | (simp; omega)) _ | refine Ext.trans (by assumption) ?_)))) (Bools.ext_made (e := 4) (heap_alloc_new w1 _) rfl (by omega))).mono ?_
  rintro e w2 ⟨rfl, hx2⟩
  have k2 : Ext w1 w2 := Ext.trans ((by repeat (first | assumption | exact Ext.refl _ | refine Ext.alloc ?_ _ | refine Ext.drew ?_ | refine Ext.drewN ?_ _ | refine Ext.setCell ?_ (by first | (simp; done) | omega | (simp; omega)) _ | refine Ext.trans (by assumption) ?_))) hx2
  replace t0 := k2.cell t0
  go_wp2_with fail
  refine (HF2.out _ _ (H1.out _ k2)).mono ?_
  rintro e w3 ⟨rfl, hx3⟩
  have k3 := k2.trans hx3
  replace t0 := hx3.cell t0
  go_wp2_with fail
  refine (HF1.out _ _ (H1.out _ k3)).mono ?_
  rintro e w4 ⟨rfl, hx4⟩
  have k4 := k3.trans hx4
  replace t0 := hx4.cell t0
  go_wp2_with fail
  refine (HR0.out _ _ (H1.out _ k4)).mono ?_
  rintro e w5 ⟨rfl, hx5⟩
  have k5 := k4.trans hx5
  replace t0 := hx5.cell t0
  go_wp2_with fail
  refine (HR1.out _ _ (H1.out _ k5)).mono ?_
  rintro e w6 ⟨rfl, hx6⟩
  go_wp2
  go_ret
  exact ⟨rfl, k1.trans (k5.trans hx6)⟩
end Go.Proofs.Ytophpemlaecglaa
