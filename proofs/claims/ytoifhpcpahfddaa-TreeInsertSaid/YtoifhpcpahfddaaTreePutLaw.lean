/- Plain laws of trees that a block was put into; Kids where there are none. -/
import Derived.Test.YtoifhpcpahfddaaTreePut
import Derived.Test.YtoifhpcpahfddaaTreeKids
namespace Go.Proofs.Ytoifhpcpahfddaa
open Go.RowKit Go.WideShapes Go.ChangeShapes
set_option linter.unusedVariables false
set_option linter.unusedSimpArgs false
set_option linter.unusedSectionVars false





namespace Tree
/-- What is known where a block was put. -/
theorem put_ok {T : List Node} {b : Block} (h : putE T b = 0) : mayV T = true ∧ b.root ∉ roots T ∧ b.up ∈ roots T ∧ (nd T ((roots T).idxOf b.up)).slot < b.slot ∧ b.slot ≤ 1099511627776 ∧ T.length ≠ 12 ∧ putV T b = T ++ [putN T b] := by
  have hv : putV T b = T ++ [putN T b] := by unfold putV; rw [if_pos h]
  unfold putE at h
  by_cases h1 : mayV T = true
  · rw [if_pos h1] at h
    by_cases h2 : b.root ∈ roots T
    · rw [if_pos h2] at h; omega
    · rw [if_neg h2] at h
      by_cases h3 : b.up ∈ roots T
      · rw [if_pos h3] at h
        by_cases h4 : b.slot ≤ (nd T ((roots T).idxOf b.up)).slot ∨ 1099511627776 < b.slot
        · rw [if_pos h4] at h; omega
        · rw [if_neg h4] at h
          by_cases h5 : T.length = 12
          · rw [if_pos h5] at h; omega
          · exact ⟨h1, h2, h3, by omega, by omega, h5, hv⟩
      · rw [if_neg h3] at h; omega
  · rw [if_neg h1] at h; omega
section
variable {T : List Node} {x : Node}
theorem nd_left {i : Nat} (h : i < T.length) : nd (T ++ [x]) i = nd T i := by unfold nd; simp [List.getD, List.getElem?_append_left h]
theorem nd_last : nd (T ++ [x]) T.length = x := by unfold nd; simp [List.getD]
theorem roots_put : roots (T ++ [x]) = roots T ++ [x.root] := by unfold roots; simp
theorem up_left {i : Nat} (h : i < T.length) : up (T ++ [x]) i = up T i := by unfold up; rw [nd_left h]
theorem line_left : ∀ {k : Nat}, k < T.length → line (T ++ [x]) k = line T k := by
  intro k
  induction k using Nat.strongRecOn with
  | ind k ih =>
    intro hk
    by_cases h0 : k = 0
    · subst h0; rw [line_zero, line_zero]
    · rw [line_pos _ h0, line_pos _ h0, up_left hk, ih _ (up_lt T h0) (by have := up_lt T h0; omega)]
end
section
variable {T : List Node} {b : Block} (h : putE T b = 0)
include h
theorem put_p : ∃ p : Nat, (roots T).idxOf b.up = p ∧ p < T.length ∧ (nd T p).root = b.up ∧ findV T b.up = (p : Int) ∧ (putN T b).par = (p : Int) := by
  obtain ⟨hm, _, hu, _⟩ := put_ok h
  have hl := List.idxOf_lt_length_of_mem hu
  have hl' : (roots T).idxOf b.up < T.length := by simpa [roots] using hl
  refine ⟨_, rfl, hl', ?_, ?_, rfl⟩
  · have h1 := roots_get hl'
    have h2 : (roots T)[(roots T).idxOf b.up]? = some b.up := by rw [List.getElem?_eq_getElem hl]; simp
    rw [h2] at h1
    simpa using h1.symm
  · unfold findV
    rw [if_pos ⟨hm, hu⟩]
theorem put_may : mayV (putV T b) = true := by
  obtain ⟨hm, hr, hu, hs, hM, h12, hv⟩ := put_ok h
  obtain ⟨p, hp, hpl, _, _, hpp⟩ := put_p h
  obtain ⟨m1, m2, m3, m4⟩ := mayV_iff.1 hm
  rw [hv, mayV_iff, List.length_append]
  refine ⟨by simp, by simp; omega, fun i hi => ?_, ?_⟩
  · have hi' : i < T.length + 1 := by simpa using hi
    rcases Nat.lt_or_eq_of_le (Nat.lt_succ_iff.1 hi') with hlt | he
    · have hf := m3 i hlt
      unfold fitsV at hf ⊢
      by_cases h0 : i = 0
      · subst h0
        rw [if_pos rfl] at hf ⊢
        rw [nd_left hlt]
        exact hf
      · rw [if_neg h0] at hf ⊢
        obtain ⟨q1, q2, q3⟩ := par_pos hm hlt h0
        rw [nd_left hlt, nd_left (i := (nd T i).par.toNat) (by omega)]
        exact hf
    · subst he
      unfold fitsV
      rw [if_neg (by omega), nd_last, hpp, Int.toNat_natCast, nd_left hpl]
      rw [hp] at hs
      have e1 : (putN T b).slot = b.slot := rfl
      rw [e1]
      simp [hs, hM]
      omega
  · rw [roots_put]
    exact List.nodup_append.2 ⟨m4, by simp, fun a ha c hc e => hr (by simp at hc; subst hc; subst e; exact ha)⟩
theorem put_len : (putV T b).length = T.length + 1 := by
  obtain ⟨_, _, _, _, _, _, hv⟩ := put_ok h
  rw [hv]; simp
theorem put_known : putE (putV T b) b = 4 := by
  obtain ⟨_, _, _, _, _, _, hv⟩ := put_ok h
  have hm := put_may h
  unfold putE
  rw [if_pos hm, if_pos]
  rw [hv, roots_put]
  have e1 : (putN T b).root = b.root := rfl
  rw [e1]; simp
theorem put_find : findV (putV T b) b.root = (T.length : Nat) := by
  obtain ⟨_, hr, _, _, _, _, hv⟩ := put_ok h
  have hm := put_may h
  have e1 : (putN T b).root = b.root := rfl
  have hin : b.root ∈ roots (putV T b) := by rw [hv, roots_put, e1]; simp
  unfold findV
  rw [if_pos ⟨hm, hin⟩, hv, roots_put, e1, List.idxOf_append, if_neg hr]
  simp [roots]
theorem line_last {p : Nat} (hp : (roots T).idxOf b.up = p) (hpl : p < T.length) : line (putV T b) T.length = T.length :: line T p := by
  obtain ⟨_, _, _, _, _, _, hv⟩ := put_ok h
  rw [hv, line_pos _ (by omega)]
  have hu : up (T ++ [putN T b]) T.length = p := by
    unfold up
    rw [nd_last]
    show min (((roots T).idxOf b.up : Nat) : Int).toNat (T.length - 1) = p
    rw [hp, Int.toNat_natCast]
    omega
  rw [hu, line_left hpl]
theorem above_last {i p : Nat} (hi : i < T.length) (hp : (roots T).idxOf b.up = p) (hpl : p < T.length) : aboveV (putV T b) (i : Int) (T.length : Int) = aboveV T (i : Int) (p : Int) := by
  obtain ⟨hm, _, _, _, _, _, hv⟩ := put_ok h
  have hl := put_len h
  rw [above_eq (put_may h) (by omega) (by omega), above_eq hm hi hpl, line_last h hp hpl, decide_eq_decide]
  simp
  omega
theorem above_still {i k : Nat} (hi : i < T.length) (hk : k < T.length) : aboveV (putV T b) (i : Int) (k : Int) = aboveV T (i : Int) (k : Int) := by
  obtain ⟨hm, _, _, _, _, _, hv⟩ := put_ok h
  have hl := put_len h
  rw [above_eq (put_may h) (by omega) (by omega), above_eq hm hi hk, hv, line_left hk]
theorem above_not {i : Nat} (hi : i < T.length) : aboveV (putV T b) (T.length : Int) (i : Int) = false := by
  have hl := put_len h
  rw [above_eq (put_may h) (by omega) (by omega)]
  exact decide_eq_false (fun e => by have := mem_le e; omega)
theorem at_last : atV (putV T b) (T.length : Int) b.slot = (T.length : Nat) := by
  obtain ⟨p, hp, hpl, _⟩ := put_p h
  obtain ⟨hm, _, _, _, _, _, hv⟩ := put_ok h
  have hl := put_len h
  unfold atV
  rw [isV_in (put_may h) (by omega) (by omega), if_pos rfl, Int.toNat_natCast, line_last h hp hpl, List.find?_cons]
  have : (nd (putV T b) T.length).slot = b.slot := by rw [hv, nd_last]; rfl
  rw [this]
  simp [optI]
theorem no_kids : ∀ k, k < (putV T b).length → (nd (putV T b) k).par ≠ (T.length : Int) := by
  intro k hk
  have hl := put_len h
  have hm := put_may h
  by_cases h0 : k = 0
  · subst h0; rw [par_zero hm]; omega
  · obtain ⟨_, h2, _⟩ := par_pos hm hk h0
    omega
end
end Tree
theorem isV_none {NS : List Node} {i : Int} (h : Tree.isV NS i = true) : Tree.mayV NS = true := by unfold Tree.isV at h; simp at h; exact h.1
set_option maxHeartbeats 2000000 in
theorem kids_none (A : Option Addr) (n c : Nat) (NS : List Node) (i : Int) (hi : (Lit.int .i64 i).wf = true) (hq : Tree.isV NS i = true) (hno : ∀ k, k < NS.length → (Tree.nd NS k).par ≠ i) (w : World) (h : NL w A n c NS) :
    Calls Try.prog 17 #[.agg #[.slice A n c], .int .i64 i] w fun e w' => e = .returned (.slice none 0 0) ∧ Ext w w' := by
  have hlen := h.len
  have hroom := h.row.room
  have HV := Lib.hid (fun W (k : Ext w W) => h.ext k)
  have HI := Lib.hid (fun L m d W (kx : Ext w W) (g : Ints W .i64 L m d [i]) => is_any A n c NS L m d [i] W (h.ext kx) g)
  rw [isL_one, hq] at HI
  have HW := Lib.hid (show ∀ x ∈ [i], (Lit.int .i64 x).wf = true from fun x hx => by simp at hx; subst hx; exact hi)
  have HNO := Lib.hid (fun k (hk : k < n) => hno k (by omega))
  clear h hno hq
  go_enter Try.func17, Try.ntmps17
  go_wp2_with fail
  refine (HI.out (some ⟨w.heap.size + 1, 0, none⟩) 1 1 _ ((by repeat (first | assumption | exact Ext.refl _ | refine Ext.alloc ?_ _ | refine Ext.drew ?_ | refine Ext.drewN ?_ _ | refine Ext.setCell ?_ (by first | (simp; done) | omega | (simp; omega)) _ | refine Ext.trans (by assumption) ?_))) (ints_at' (e := 3) [i] HW.out (by simp) (by simp))).mono ?_
  rintro e w1 ⟨rfl, hx1⟩
  have k1 : Ext w w1 := Ext.trans ((by repeat (first | assumption | exact Ext.refl _ | refine Ext.alloc ?_ _ | refine Ext.drew ?_ | refine Ext.drewN ?_ _ | refine Ext.setCell ?_ (by first | (simp; done) | omega | (simp; omega)) _ | refine Ext.trans (by assumption) ?_))) hx1
  have c0 : w1.cell? ⟨w.heap.size, 0, none⟩ = some (.slice A n c) := hx1.cell (by simp (maxDischargeDepth := 7) [go_sem])
  go_wp2
  clear c0
  go_loopw [5, 6, 7, 16] (fun v _ _ i' wr => ∃ k : Nat, k ≤ n ∧ i' = .int .i64 k ∧ v = .slice none 0 0 ∧ Ext w1 wr) (fun _ _ _ i' _ => n - (intOf i').toNat)
  case atStart => exact ⟨0, Nat.zero_le _, rfl, rfl, Ext.refl _⟩
  case round =>
    obtain ⟨k, hk, rfl, rfl, hx⟩ := hrel
    by_cases hlt : k < n
    · obtain ⟨b, off, rfl, hr, hok⟩ := (HV.out wr (k1.trans hx)).at' hlt
      have hp := HNO.out k hlt
      change wr.rangeAt _ _ (Tree.nd NS k).cells at hr
      replace hok : (Tree.nd NS k).Ok := hok
      obtain ⟨x, ex⟩ : ∃ x, Tree.nd NS k = x := ⟨_, rfl⟩
      rw [ex] at hr hok hp
      have hi35 : (Try.prog.info? 34).map (·.size) = some x.cells.length := by rw [Node.len hok]; kernel_rfl
      have a32 := Node.at32 hok
      have g1 : (k : Int) < n := by omega
      have gp : (x.par == i) = false := by simp [hp]
      clear ex hp
      go_wp2_with (first | (refine wpList_load_mid rfl 34 _ rfl _ _ rfl x.cells _ (rangeAt_ext hr ((by repeat (first | assumption | exact Ext.refl _ | refine Ext.alloc ?_ _ | refine Ext.drew ?_ | refine Ext.drewN ?_ _ | refine Ext.setCell ?_ (by first | (simp; done) | omega | (simp; omega)) _ | refine Ext.trans (by assumption) ?_)))) Try.underlying34 rfl hi35 ?_) | (refine wpList_store_mid rfl 34 _ _ rfl _ 0 x.cells.toArray rfl rfl (there_at (by simp) _ (by rw [List.size_toArray, Node.len hok]; decide)) (by rw [List.size_toArray]; exact hi35) (all_oneCell_toArray (Node.one x)) ?_; rw [List.toList_toArray, setCells_at (by simp) (by rw [Node.len hok]; rfl)]))
      go_roundw
      case rel =>
        first | exact ⟨k + 1, by omega, by go_num, rfl, hx.alloc _⟩ | (refine ⟨_, _, ⟨k + 1, by omega, ?_, rfl, hx.alloc _⟩, rfl, rfl⟩; go_num)
      case measure => simp [intOf]; omega
    · go_wp2
      go_ret
      exact ⟨rfl, k1.trans hx⟩
end Go.Proofs.Ytoifhpcpahfddaa
