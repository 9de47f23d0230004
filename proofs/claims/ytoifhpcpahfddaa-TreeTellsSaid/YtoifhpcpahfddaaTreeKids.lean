/- tree.Kids. -/
import Derived.Test.YtoifhpcpahfddaaTreeUp
namespace Go.Proofs.Ytoifhpcpahfddaa
open Go.RowKit Go.WideShapes Go.ChangeShapes
set_option linter.unusedVariables false
set_option linter.unusedSimpArgs false





/-- The children among the first places. -/
def kidsTo (NS : List Node) (i : Int) (k : Nat) : List Int := ((List.range k).filter (fun k => decide ((Tree.nd NS k).par = i))).map (fun k => ((k : Nat) : Int))
theorem kidsTo_yes {NS : List Node} {i : Int} {k : Nat} (h : (Tree.nd NS k).par = i) : kidsTo NS i (k + 1) = kidsTo NS i k ++ [(k : Int)] := by
  unfold kidsTo; rw [List.range_succ, List.filter_append]; simp [h]
theorem kidsTo_no {NS : List Node} {i : Int} {k : Nat} (h : (Tree.nd NS k).par ≠ i) : kidsTo NS i (k + 1) = kidsTo NS i k := by
  unfold kidsTo; rw [List.range_succ, List.filter_append]; simp [h]
theorem kidsTo_len (NS : List Node) (i : Int) (k : Nat) : (kidsTo NS i k).length ≤ k := by
  unfold kidsTo
  rw [List.length_map]
  exact Nat.le_trans (List.length_filter_le _ _) (by simp)
theorem kidsTo_wf {NS : List Node} {i : Int} {k : Nat} (hk : k ≤ 12) : ∀ x ∈ kidsTo NS i k, (Lit.int .i64 x).wf = true := by
  intro x hx
  unfold kidsTo at hx
  obtain ⟨j, hj, rfl⟩ := List.mem_map.1 hx
  have := List.mem_range.1 (List.mem_filter.1 hj).1
  exact wf_i64 (by omega) (by omega)
set_option maxHeartbeats 2000000 in
theorem kids_any (A : Option Addr) (n c : Nat) (NS : List Node) (i : Int) (hi : (Lit.int .i64 i).wf = true) (w : World) (h : NL w A n c NS) :
    Calls Try.prog 17 #[.agg #[.slice A n c], .int .i64 i] w fun e w' => (∃ v, e = .returned v ∧ IsInts w' .i64 v (Tree.kidsV NS i)) ∧ Ext w w' := by
  have hlen := h.len
  have hroom := h.row.room
  have HV := Lib.hid (fun W (k : Ext w W) => h.ext k)
  have HI := Lib.hid (fun L m d W (kx : Ext w W) (g : Ints W .i64 L m d [i]) => is_any A n c NS L m d [i] W (h.ext kx) g)
  rw [isL_one] at HI
  have HW := Lib.hid (show ∀ x ∈ [i], (Lit.int .i64 x).wf = true from fun x hx => by simp at hx; subst hx; exact hi)
  clear h
  obtain ⟨q, hq⟩ : ∃ q, Tree.isV NS i = q := ⟨_, rfl⟩
  rw [hq] at HI
  cases q with
  | false =>
    have e : Tree.kidsV NS i = [] := by unfold Tree.kidsV; rw [hq]; rfl
    rw [e]
    clear hq e
    go_enter Try.func17, Try.ntmps17
    go_wp2_with fail
    refine (HI.out (some ⟨w.heap.size + 1, 0, none⟩) 1 1 _ ((by repeat (first | assumption | exact Ext.refl _ | refine Ext.alloc ?_ _ | refine Ext.drew ?_ | refine Ext.drewN ?_ _ | refine Ext.setCell ?_ (by first | (simp; done) | omega | (simp; omega)) _ | refine Ext.trans (by assumption) ?_))) (ints_at' (e := 3) [i] HW.out (by simp) (by simp))).mono ?_
    rintro e w1 ⟨rfl, hx1⟩
    have k1 : Ext w w1 := Ext.trans ((by repeat (first | assumption | exact Ext.refl _ | refine Ext.alloc ?_ _ | refine Ext.drew ?_ | refine Ext.drewN ?_ _ | refine Ext.setCell ?_ (by first | (simp; done) | omega | (simp; omega)) _ | refine Ext.trans (by assumption) ?_))) hx1
    go_wp2
    go_ret
    exact ⟨⟨_, rfl, ⟨none, 0, 0, rfl, Ints.nil_mk _ _⟩⟩, k1⟩
  | true =>
    have hm : Tree.mayV NS = true := by unfold Tree.isV at hq; simp at hq; exact hq.1
    have h12 := Tree.len_le hm
    rw [hlen] at h12
    have e : Tree.kidsV NS i = kidsTo NS i n := by unfold Tree.kidsV; rw [hq, if_pos rfl]; unfold Tree.kidsN kidsTo; rw [hlen]
    rw [e]
    clear hq e hm
    go_enter Try.func17, Try.ntmps17
    go_wp2_with fail
    refine (HI.out (some ⟨w.heap.size + 1, 0, none⟩) 1 1 _ ((by repeat (first | assumption | exact Ext.refl _ | refine Ext.alloc ?_ _ | refine Ext.drew ?_ | refine Ext.drewN ?_ _ | refine Ext.setCell ?_ (by first | (simp; done) | omega | (simp; omega)) _ | refine Ext.trans (by assumption) ?_))) (ints_at' (e := 3) [i] HW.out (by simp) (by simp))).mono ?_
    rintro e w1 ⟨rfl, hx1⟩
    have k1 : Ext w w1 := Ext.trans ((by repeat (first | assumption | exact Ext.refl _ | refine Ext.alloc ?_ _ | refine Ext.drew ?_ | refine Ext.drewN ?_ _ | refine Ext.setCell ?_ (by first | (simp; done) | omega | (simp; omega)) _ | refine Ext.trans (by assumption) ?_))) hx1
    have c0 : w1.cell? ⟨w.heap.size, 0, none⟩ = some (.slice A n c) := hx1.cell (by simp (maxDischargeDepth := 7) [go_sem])
    go_wp2
    clear c0
    go_loopw [5, 6, 7, 16] (fun v _ _ i' wr => ∃ k : Nat, k ≤ n ∧ i' = .int .i64 k ∧ wr.ownsRow w1.heap.size 3 1 v (kidsTo NS i k).length ((kidsTo NS i k).map (Value.int .i64)) ∧ Ext w1 wr) (fun _ _ _ i' _ => n - (intOf i').toNat)
    case atStart => exact ⟨0, Nat.zero_le _, rfl, own_new _ _ _ _, Ext.refl _⟩
    case round =>
      obtain ⟨k, hk, rfl, hown, hx⟩ := hrel
      by_cases hlt : k < n
      · obtain ⟨b, off, rfl, hr, hok⟩ := (HV.out wr (k1.trans hx)).at' hlt
        change wr.rangeAt _ _ (Tree.nd NS k).cells at hr
        replace hok : (Tree.nd NS k).Ok := hok
        obtain ⟨x, ex⟩ : ∃ x, Tree.nd NS k = x := ⟨_, rfl⟩
        rw [ex] at hr hok
        have hi35 : (Try.prog.info? 34).map (·.size) = some x.cells.length := by rw [Node.len hok]; kernel_rfl
        have a32 := Node.at32 hok
        have g1 : (k : Int) < n := by omega
        have hs1 := hx.size
        have hkl := kidsTo_len NS i k
        by_cases hp : x.par = i
        · have hst := Lib.hid (kidsTo_yes (NS := NS) (i := i) (k := k) (by rw [ex]; exact hp))
          have gp : (x.par == i) = true := by simp [hp]
          have HOW := Lib.hid hown
          clear ex hp hown
          go_wp2_with (first | (refine wpList_load_mid rfl 34 _ rfl _ _ rfl x.cells _ (rangeAt_ext hr ((by repeat (first | assumption | exact Ext.refl _ | refine Ext.alloc ?_ _ | refine Ext.drew ?_ | refine Ext.drewN ?_ _ | refine Ext.setCell ?_ (by first | (simp; done) | omega | (simp; omega)) _ | refine Ext.trans (by assumption) ?_)))) Try.underlying34 rfl hi35 ?_) | (refine wpList_store_mid rfl 34 _ _ rfl _ 0 x.cells.toArray rfl rfl (there_at (by simp) _ (by rw [List.size_toArray, Node.len hok]; decide)) (by rw [List.size_toArray]; exact hi35) (all_oneCell_toArray (Node.one x)) ?_; rw [List.toList_toArray, setCells_at (by simp) (by rw [Node.len hok]; rfl)]) | (at_builtin; refine wpList_app rowInts rfl _ _ rfl w1.heap.size _ _ _ rfl ((HOW.out.alloc _).alloc _) (some ⟨wr.heap.size + 1, 0, none⟩) 1 1 [.int .i64 k] rfl (src_at rfl (by simp)) (by omega) (by first | (simp; done) | (simp; omega)) ?_; intro v' w2 hown2 hgrow2 _))
          have hx2 : Ext w1 w2 := ((hx.alloc _).alloc _).grown hgrow2 (fun j e => own_from HOW.out j e)
          go_roundw
          case rel =>
            have ho2 : w2.ownsRow w1.heap.size 3 1 v' (kidsTo NS i (k + 1)).length ((kidsTo NS i (k + 1)).map (Value.int .i64)) := by rw [hst.out]; simpa using hown2
            first | exact ⟨k + 1, by omega, by go_num, ho2, hx2⟩ | (refine ⟨_, _, ⟨k + 1, by omega, ?_, ho2, hx2⟩, rfl, rfl⟩; go_num)
          case measure => simp [intOf]; omega
        · have hst := Lib.hid (kidsTo_no (NS := NS) (i := i) (k := k) (by rw [ex]; exact hp))
          have gp : (x.par == i) = false := by simp [hp]
          have HOW := Lib.hid hown
          clear ex hp hown
          go_wp2_with (first | (refine wpList_load_mid rfl 34 _ rfl _ _ rfl x.cells _ (rangeAt_ext hr ((by repeat (first | assumption | exact Ext.refl _ | refine Ext.alloc ?_ _ | refine Ext.drew ?_ | refine Ext.drewN ?_ _ | refine Ext.setCell ?_ (by first | (simp; done) | omega | (simp; omega)) _ | refine Ext.trans (by assumption) ?_)))) Try.underlying34 rfl hi35 ?_) | (refine wpList_store_mid rfl 34 _ _ rfl _ 0 x.cells.toArray rfl rfl (there_at (by simp) _ (by rw [List.size_toArray, Node.len hok]; decide)) (by rw [List.size_toArray]; exact hi35) (all_oneCell_toArray (Node.one x)) ?_; rw [List.toList_toArray, setCells_at (by simp) (by rw [Node.len hok]; rfl)]))
          go_roundw
          case rel =>
            have ho2 := (HOW.out.alloc (.cells x.cells.toArray 34))
            rw [← hst.out] at ho2
            first | exact ⟨k + 1, by omega, by go_num, ho2, hx.alloc _⟩ | (refine ⟨_, _, ⟨k + 1, by omega, ?_, ho2, hx.alloc _⟩, rfl, rfl⟩; go_num)
          case measure => simp [intOf]; omega
      · have e : k = n := by omega
        subst e
        have HOW := Lib.hid hown
        clear hown
        go_wp2
        go_ret
        exact ⟨⟨_, rfl, isInts_own HOW.out (by have := kidsTo_len NS i k; omega) (kidsTo_wf h12)⟩, k1.trans hx⟩
end Go.Proofs.Ytoifhpcpahfddaa
