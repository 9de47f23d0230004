/- The contracts of layer 10 (view): the leaves that may be a head, as Leads gathers them. -/
import Derived.Test.YtophpemlaecglaaView
namespace Go.Proofs.Ytophpemlaecglaa
open Go.RowKit Go.WideShapes Go.ChangeShapes
set_option linter.unusedVariables false
set_option linter.unusedSimpArgs false





namespace View
def leafTo (T : List Node) (j : Nat) (f : Int) (k : Nat) : List Int := ((List.range k).filter (fun x => leafV T j f (x : Nat))).map (fun x => ((x : Nat) : Int))
theorem leafTo_succ (T : List Node) (j : Nat) (f : Int) (k : Nat) : leafTo T j f (k + 1) = leafTo T j f k ++ if leafV T j f (k : Nat) = true then [(k : Int)] else [] := by
  unfold leafTo
  rw [List.range_succ, List.filter_append, List.map_append]
  congr 1
  cases h : leafV T j f (k : Nat) <;> simp [List.filter, h]
theorem leafTo_len (T : List Node) (j : Nat) (f : Int) (k : Nat) : (leafTo T j f k).length ≤ k := by
  unfold leafTo
  rw [List.length_map]
  exact Nat.le_trans (List.length_filter_le _ _) (by simp)
theorem leafTo_mem {T : List Node} {j : Nat} {f : Int} {k : Nat} {x : Int} (h : x ∈ leafTo T j f k) : 0 ≤ x ∧ x < k := by
  unfold leafTo at h
  obtain ⟨y, hy, rfl⟩ := List.mem_map.1 h
  have := List.mem_range.1 (List.mem_filter.1 hy).1
  omega
end View
theorem vclose_any (A : Option Addr) (n c : Nat) (NS : List Node) (j : Nat) (hj : j < 18446744073709551616) (f i : Int) (hf : (Lit.int .i64 f).wf = true) (hi : (Lit.int .i64 i).wf = true) (B0 B1 B2 : Nat) (w : World) (h : NL w A n c NS)
    (c0 : w.cell? ⟨B0, 0, none⟩ = some (.slice A n c)) (c1 : w.cell? ⟨B1, 0, none⟩ = some (.int .u64 j)) (c2 : w.cell? ⟨B2, 0, none⟩ = some (.int .i64 f)) :
    Calls Try.prog 22 #[.int .i64 i, .pointer (some ⟨B0, 0, none⟩), .pointer (some ⟨B1, 0, none⟩), .pointer (some ⟨B2, 0, none⟩)] w fun e w' => e = .returned (.bool (View.leafV NS j f i)) ∧ Ext w w' := by
  have H := Lib.hid (vleaf_any A n c NS j hj f i hf hi w h)
  clear h
  generalize View.leafV NS j f i = b at *
  go_enter Try.func22, Try.ntmps22
  go_wp2_with fail
  refine (H.out).mono ?_
  rintro e w1 ⟨rfl, hx1⟩
  go_wp2
  go_ret
  exact ⟨rfl, hx1⟩
set_option maxHeartbeats 1000000 in
theorem vsome_any (A : Option Addr) (n c : Nat) (NS : List Node) (j : Nat) (hj : j < 18446744073709551616) (f : Int) (hf : (Lit.int .i64 f).wf = true) (B0 B1 B2 : Nat) (w : World) (h : NL w A n c NS)
    (c0 : w.cell? ⟨B0, 0, none⟩ = some (.slice A n c)) (c1 : w.cell? ⟨B1, 0, none⟩ = some (.int .u64 j)) (c2 : w.cell? ⟨B2, 0, none⟩ = some (.int .i64 f)) :
    Calls Try.prog 21 #[.slice A n c, .func (.func 22) #[] #[.pointer (some ⟨B0, 0, none⟩), .pointer (some ⟨B1, 0, none⟩), .pointer (some ⟨B2, 0, none⟩)]] w fun e w' => (∃ v, e = .returned v ∧ FreshInts w.heap.size w' .i64 v (View.leafTo NS j f n)) ∧ Ext w w' := by
  have hroom := h.row.room
  have HC := Lib.hid (fun (k : Nat) (hk : k < n) b (hb : View.leafV NS j f (k : Nat) = b) W (kx : Ext w W) => (by subst hb; exact vclose_any A n c NS j hj f k hf (wf_i64 (by omega) (by omega)) B0 B1 B2 W (h.ext kx) (kx.cell c0) (kx.cell c1) (kx.cell c2) : Calls Try.prog 22 #[.int .i64 k, .pointer (some ⟨B0, 0, none⟩), .pointer (some ⟨B1, 0, none⟩), .pointer (some ⟨B2, 0, none⟩)] W fun e w' => e = .returned (.bool b) ∧ Ext W w'))
  clear h c0 c1 c2
  go_enter Try.func21, Try.ntmps21
  go_wp2
  go_loopw [5, 6, 9] (fun v _ i' wr => ∃ k : Nat, k ≤ n ∧ i' = .int .i64 k ∧ wr.ownsRow w.heap.size 3 1 v (View.leafTo NS j f k).length ((View.leafTo NS j f k).map (Value.int .i64)) ∧ Ext w wr) (fun _ _ i' _ => n - (intOf i').toNat)
  case atStart => exact ⟨0, Nat.zero_le _, rfl, own_new _ _ _ _, Ext.refl _⟩
  case round =>
    obtain ⟨k, hk, rfl, hown, hx⟩ := hrel
    by_cases hlt : k < n
    · have hst := View.leafTo_succ NS j f k
      have hkl := View.leafTo_len NS j f k
      have HOW := Lib.hid hown
      clear hown
      cases hb : View.leafV NS j f (k : Nat) with
      | false =>
        rw [hb, if_neg (by simp), List.append_nil] at hst
        have HST := Lib.hid hst
        clear hst
        go_wp2_with fail
        refine (HC.out k hlt false hb _ hx).mono ?_
        rintro e w1 ⟨rfl, hx1⟩
        clear hb
        go_wp2
        go_roundw
        case rel =>
          have ho := own_ext HOW.out hx1
          rw [← HST.out] at ho
          first | exact ⟨k + 1, by omega, by go_num, ho, hx.trans hx1⟩ | (refine ⟨_, ⟨k + 1, by omega, ?_, ho, hx.trans hx1⟩, rfl⟩; go_num)
        case measure => simp [intOf]; omega
      | true =>
        rw [hb, if_pos rfl] at hst
        have HST := Lib.hid hst
        clear hst
        go_wp2_with fail
        refine (HC.out k hlt true hb _ hx).mono ?_
        rintro e w1 ⟨rfl, hx1⟩
        clear hb
        have k1 := hx.trans hx1
        go_wp2_with (at_builtin; refine wpList_app rowInts rfl _ _ rfl w.heap.size _ _ _ rfl ((own_ext HOW.out hx1).alloc _) (some ⟨_, 0, none⟩) 1 1 [.int .i64 (k : Int)] rfl (src_at rfl (by simp)) (by omega) (by have := k1.size; first | (simp; done) | (simp; omega)) ?_; intro v' w3 hown3 hgrow3 _)
        have hx3 : Ext w w3 := (k1.alloc _).grown hgrow3 (fun j e => own_from HOW.out j e)
        go_roundw
        case rel =>
          have ho : w3.ownsRow w.heap.size 3 1 v' (View.leafTo NS j f (k + 1)).length ((View.leafTo NS j f (k + 1)).map (Value.int .i64)) := by
            rw [HST.out, List.map_append, List.length_append]; exact hown3
          first | exact ⟨k + 1, by omega, by go_num, ho, hx3⟩ | (refine ⟨_, ⟨k + 1, by omega, ?_, ho, hx3⟩, rfl⟩; go_num)
        case measure => simp [intOf]; omega
    · obtain rfl : n = k := by omega
      have HOW := Lib.hid hown
      have hkl := View.leafTo_len NS j f n
      have hwf : ∀ x ∈ View.leafTo NS j f n, (Lit.int .i64 x).wf = true := fun x hx => by have := View.leafTo_mem hx; exact wf_i64 (by omega) (by omega)
      have HWF := Lib.hid hwf
      clear hown hwf
      go_wp2
      go_ret
      exact ⟨⟨_, rfl, fresh_own HOW.out (by omega) HWF.out⟩, hx⟩
end Go.Proofs.Ytophpemlaecglaa
