/- vote.Same, slices.Equal of votes, and the document's Same. -/
import Derived.Test.YtnpopepannimiaaVotePut
namespace Go.Proofs.Ytnpopepannimiaa
open Go.RowKit Go.WideShapes Go.ChangeShapes
set_option linter.unusedVariables false
set_option linter.unusedSimpArgs false








instance : DecidableEq Lat := fun x y => decidable_of_iff _ (@Lat.eqb_iff x y)
theorem lats_ext {A B : List Lat} (hl : A.length = B.length) (h : ∀ j, j < A.length → A.getD j Lat.none = B.getD j Lat.none) : A = B := by
  apply List.ext_getElem hl
  intro j h1 h2
  have := h j h1
  simpa [List.getD, h1, h2] using this
set_option maxHeartbeats 2000000 in
theorem equal_any (A : Option Addr) (n c : Nat) (LS : List Lat) (B : Option Addr) (m d : Nat) (MS : List Lat) (w : World) (h : VL w A n c LS) (g : VL w B m d MS) :
    Calls Try.prog 23 #[.slice A n c, .slice B m d] w fun e w' => e = .returned (.bool (decide (LS = MS))) ∧ Ext w w' := by
  have hl := h.len
  have gl := g.len
  have hroom := h.row.room
  have hbytes := h.bytes
  by_cases hnm : n = m
  · subst hnm
    have HV := Lib.hid (fun W (k : Ext w W) => h.ext k)
    have GV := Lib.hid (fun W (k : Ext w W) => g.ext k)
    clear h g
    go_enter Try.func23, Try.ntmps23
    go_wp2
    go_loopw [4, 5, 13] (fun _ _ i wr => ∃ k : Nat, k ≤ n ∧ i = .int .i64 k ∧ (∀ j, j < k → LS.getD j Lat.none = MS.getD j Lat.none) ∧ Ext w wr) (fun _ _ i _ => n - (intOf i).toNat)
    case atStart => exact ⟨0, Nat.zero_le _, rfl, (fun j hj => absurd hj (Nat.not_lt_zero j)), Ext.refl _⟩
    case round =>
      obtain ⟨k, hk, rfl, hno, hx⟩ := hrel
      have HNO := Lib.hid hno
      clear hno
      by_cases hlt : k < n
      · obtain ⟨b, off, rfl, hrx, hokx⟩ := (HV.out wr hx).at' hlt
        obtain ⟨b2, off2, rfl, hry, hoky⟩ := (GV.out wr hx).at' hlt
        obtain ⟨x, ex⟩ : ∃ x, LS.getD k Lat.none = x := ⟨_, rfl⟩
        obtain ⟨y, ey⟩ : ∃ y, MS.getD k Lat.none = y := ⟨_, rfl⟩
        rw [ex] at hrx hokx
        rw [ey] at hry hoky
        have EX := Lib.hid ex
        have EY := Lib.hid ey
        clear ex ey
        have g1 : (k : Int) < n := by omega
        by_cases hxy : x = y
        · subst hxy
          have hq : ∀ W, (binOp .neq 34 (.agg x.cells.toArray) (.agg x.cells.toArray)).run Try.prog W = .ok (.bool false) W := fun W => Lat.neq hokx hokx (b := true) (by simp) W
          have y := x
          go_wp2
          have hx34 : (Try.prog.info? 34).map (·.size) = some x.cells.length := by rw [Lat.len hokx]; kernel_rfl

          refine wp_region_quiet_lit (by kernel_rfl) (by kernel_rfl) ?_
          repeat (first | go_big_quiet_skip | (go_big_quiet_want; first | ((first | (refine quiet_load_mid 34 _ rfl _ _ rfl x.cells _ (fun W ⟨nn, hn⟩ => hn ▸ rangeAt_ext hrx ((Ext.refl _).drewN nn)) Try.underlying34 rfl hx34 ?_) | (refine quiet_load_mid 34 _ rfl _ _ rfl x.cells _ (fun W ⟨nn, hn⟩ => hn ▸ rangeAt_ext hry ((Ext.refl _).drewN nn)) Try.underlying34 rfl hx34 ?_)); (try simp only [Act.put, List.setIfInBounds_toArray, List.set_cons_zero, List.set_cons_succ]); go_big_quiet_on) | (go_big_quiet_op; first | go_big_quiet_on | go_big_quiet_call (fail))))
          refine wpQuiet_nil ?_
          intro _ hw'
          obtain ⟨nq', hw''⟩ := hw'
          subst hw''
          go_wp2
          go_roundw
          case rel =>
            have hno' : ∀ j, j < k + 1 → LS.getD j Lat.none = MS.getD j Lat.none := fun j hj => by
              rcases Nat.lt_or_eq_of_le (Nat.lt_succ_iff.1 hj) with h | rfl
              · exact HNO.out j h
              · rw [EX.out, EY.out]
            first | exact ⟨k + 1, by omega, by go_num, hno', hx.drewN _⟩ | (refine ⟨_, _, ⟨k + 1, by omega, ?_, hno', hx.drewN _⟩, rfl, rfl⟩; go_num)
          case measure => simp [intOf]; omega
        · have hq : ∀ W, (binOp .neq 34 (.agg x.cells.toArray) (.agg y.cells.toArray)).run Try.prog W = .ok (.bool true) W := fun W => Lat.neq hokx hoky (b := false) (by simp [hxy]) W
          have hf : Hid (decide (LS = MS) = false) := decide_eq_false (fun e => hxy (by rw [← EX.out, ← EY.out, e]))
          go_wp2
          have hx34 : (Try.prog.info? 34).map (·.size) = some x.cells.length := by rw [Lat.len hokx]; kernel_rfl
          have hy34 : (Try.prog.info? 34).map (·.size) = some y.cells.length := by rw [Lat.len hoky]; kernel_rfl
          refine wp_region_quiet_lit (by kernel_rfl) (by kernel_rfl) ?_
          repeat (first | go_big_quiet_skip | (go_big_quiet_want; first | ((first | (refine quiet_load_mid 34 _ rfl _ _ rfl x.cells _ (fun W ⟨nn, hn⟩ => hn ▸ rangeAt_ext hrx ((Ext.refl _).drewN nn)) Try.underlying34 rfl hx34 ?_) | (refine quiet_load_mid 34 _ rfl _ _ rfl y.cells _ (fun W ⟨nn, hn⟩ => hn ▸ rangeAt_ext hry ((Ext.refl _).drewN nn)) Try.underlying34 rfl hy34 ?_)); (try simp only [Act.put, List.setIfInBounds_toArray, List.set_cons_zero, List.set_cons_succ]); go_big_quiet_on) | (go_big_quiet_op; first | go_big_quiet_on | go_big_quiet_call (fail))))
          refine wpQuiet_nil ?_
          intro _ hw'
          obtain ⟨nq', hw''⟩ := hw'
          subst hw''
          go_wp2
          go_ret
          exact ⟨by rw [hf.out]; rfl, hx.drewN _⟩
      · have e : k = n := by omega
        subst e
        have hm : Hid (decide (LS = MS) = true) := decide_eq_true (lats_ext (by omega) (fun j hj => HNO.out j (by omega)))
        go_wp2
        go_ret
        exact ⟨by rw [hm.out]; rfl, hx⟩
  · have hf : Hid (decide (LS = MS) = false) := decide_eq_false (fun e => hnm (by rw [← hl, ← gl, e]))
    have g1 : ((n : Int) != m) = true := by simp; omega
    clear h g
    go_enter Try.func23, Try.ntmps23
    go_wp2
    go_ret
    exact ⟨by rw [hf.out]; rfl, Ext.refl _⟩
def sameV (LS : List Lat) (o : Nat) (MS : List Lat) (o2 : Nat) : Bool := decide (o = o2) && decide (LS = MS)
set_option maxHeartbeats 1000000 in
theorem same_any (A : Option Addr) (n c o : Nat) (LS : List Lat) (B : Option Addr) (m d o2 : Nat) (MS : List Lat) (w : World) (h : VL w A n c LS) (g : VL w B m d MS) :
    Calls Try.prog 13 #[.agg #[.slice A n c, .int .u64 o], .agg #[.slice B m d, .int .u64 o2]] w fun e w' => e = .returned (.bool (sameV LS o MS o2)) ∧ Ext w w' := by
  have HE := Lib.hid (fun W (k : Ext w W) => equal_any A n c LS B m d MS W (h.ext k) (g.ext k))
  clear h g
  by_cases ho : o = o2
  · have e : sameV LS o MS o2 = decide (LS = MS) := by unfold sameV; rw [decide_eq_true ho]; rfl
    rw [e]
    have g1 : ((o : Int) == o2) = true := by subst ho; simp
    clear e ho
    obtain ⟨q, hq⟩ : ∃ q, decide (LS = MS) = q := ⟨_, rfl⟩
    rw [hq] at HE ⊢
    clear hq
    go_enter Try.func13, Try.ntmps13
    go_wp2_with fail
    refine (HE.out _ ((by repeat (first | assumption | exact Ext.refl _ | refine Ext.alloc ?_ _ | refine Ext.drew ?_ | refine Ext.drewN ?_ _ | refine Ext.setCell ?_ (by first | (simp; done) | omega | (simp; omega)) _ | refine Ext.trans (by assumption) ?_)))).mono ?_
    rintro e w1 ⟨rfl, hx⟩
    have k1 : Ext w w1 := Ext.trans ((by repeat (first | assumption | exact Ext.refl _ | refine Ext.alloc ?_ _ | refine Ext.drew ?_ | refine Ext.drewN ?_ _ | refine Ext.setCell ?_ (by first | (simp; done) | omega | (simp; omega)) _ | refine Ext.trans (by assumption) ?_))) hx
    cases q
    all_goals go_wp2
    all_goals go_ret
    all_goals exact ⟨rfl, k1⟩
  · have e : sameV LS o MS o2 = false := by unfold sameV; rw [decide_eq_false ho]; rfl
    rw [e]
    have g1 : ((o : Int) == o2) = false := by simp; omega
    clear e ho
    go_enter Try.func13, Try.ntmps13
    go_wp2
    go_ret
    exact ⟨rfl, (by repeat (first | assumption | exact Ext.refl _ | refine Ext.alloc ?_ _ | refine Ext.drew ?_ | refine Ext.drewN ?_ _ | refine Ext.setCell ?_ (by first | (simp; done) | omega | (simp; omega)) _ | refine Ext.trans (by assumption) ?_))⟩
theorem same_self (LS : List Lat) (o : Nat) (A : Option Addr) (n c : Nat) (B : Option Addr) (m d : Nat) (w : World) (h : VL w A n c LS) (g : VL w B m d LS) :
    Calls Try.prog 13 #[.agg #[.slice A n c, .int .u64 o], .agg #[.slice B m d, .int .u64 o]] w fun e w' => e = .returned (.bool true) ∧ Ext w w' := by
  have k := same_any A n c o LS B m d o LS w h g
  rw [show sameV LS o LS o = true by simp [sameV]] at k
  exact k
set_option maxHeartbeats 2000000 in
theorem refSame_any (A : Option Addr) (n c o : Nat) (LS : List Lat) (B : Option Addr) (m d o2 : Nat) (MS : List Lat) (w : World) (h : VL w A n c LS) (g : VL w B m d MS) :
    Calls Try.prog 14 #[.agg #[.slice A n c, .int .u64 o], .agg #[.slice B m d, .int .u64 o2]] w fun e w' => e = .returned (.bool (sameV LS o MS o2)) ∧ Ext w w' := by
  have hl := h.len
  have gl := g.len
  have hroom := h.row.room
  have hbytes := h.bytes
  by_cases hnm : n = m
  · subst hnm
    by_cases ho : o = o2
    · subst ho
      have hsv : Hid (sameV LS o MS o = decide (LS = MS)) := by show sameV LS o MS o = _; unfold sameV; simp
      have HV := Lib.hid (fun W (k : Ext w W) => h.ext k)
      have GV := Lib.hid (fun W (k : Ext w W) => g.ext k)
      clear h g
      go_enter Try.func14, Try.ntmps14
      go_wp2
      obtain ⟨w1, hw1⟩ : ∃ w1, ((w.alloc (.cells #[.slice A n c, .int .u64 o] 28)).alloc (.cells #[.slice B n d, .int .u64 o] 28)) = w1 := ⟨_, rfl⟩
      have k1 : Ext w w1 := by rw [← hw1]; exact (by repeat (first | assumption | exact Ext.refl _ | refine Ext.alloc ?_ _ | refine Ext.drew ?_ | refine Ext.drewN ?_ _ | refine Ext.setCell ?_ (by first | (simp; done) | omega | (simp; omega)) _ | refine Ext.trans (by assumption) ?_))
      have P0 := Lib.hid (show w1.cell? ⟨w.heap.size, 0, none⟩ = some (.slice A n c) by rw [← hw1]; simp)
      have Q0 := Lib.hid (show w1.cell? ⟨w.heap.size + 1, 0, none⟩ = some (.slice B n d) by rw [← hw1]; simp)
      try rw [hw1]
      clear hw1
      go_loopw [4, 5] (fun _ i wr => ∃ k : Nat, k ≤ n ∧ i = .int .i64 k ∧ (∀ j, j < k → LS.getD j Lat.none = MS.getD j Lat.none) ∧ Ext w1 wr) (fun _ i _ => n - (intOf i).toNat)
      case atStart => exact ⟨0, Nat.zero_le _, rfl, (fun j hj => absurd hj (Nat.not_lt_zero j)), Ext.refl _⟩
      case round =>
        obtain ⟨k, hk, rfl, hno, hx⟩ := hrel
        have HNO := Lib.hid hno
        clear hno
        have p0 := hx.cell P0.out
        have q0 := hx.cell Q0.out
        by_cases hlt : k < n
        · obtain ⟨b, off, rfl, hrx, hokx⟩ := (HV.out wr (k1.trans hx)).at' hlt
          obtain ⟨b2, off2, rfl, hry, hoky⟩ := (GV.out wr (k1.trans hx)).at' hlt
          obtain ⟨x, ex⟩ : ∃ x, LS.getD k Lat.none = x := ⟨_, rfl⟩
          obtain ⟨y, ey⟩ : ∃ y, MS.getD k Lat.none = y := ⟨_, rfl⟩
          rw [ex] at hrx hokx
          rw [ey] at hry hoky
          have EX := Lib.hid ex
          have EY := Lib.hid ey
          clear ex ey
          have g1 : (k : Int) < n := by omega
          by_cases hxy : x = y
          · subst hxy
            have hq : ∀ W, (binOp .neq 34 (.agg x.cells.toArray) (.agg x.cells.toArray)).run Try.prog W = .ok (.bool false) W := fun W => Lat.neq hokx hokx (b := true) (by simp) W
            go_wp2
            have hx34 : (Try.prog.info? 34).map (·.size) = some x.cells.length := by rw [Lat.len hokx]; kernel_rfl
            refine wp_region_quiet_lit (by kernel_rfl) (by kernel_rfl) ?_
            repeat (first | go_big_quiet_skip | (go_big_quiet_want; first | ((first | (refine quiet_load_mid 34 _ rfl _ _ rfl x.cells _ (fun W ⟨nn, hn⟩ => hn ▸ rangeAt_ext hrx ((Ext.refl _).drewN nn)) Try.underlying34 rfl hx34 ?_) | (refine quiet_load_mid 34 _ rfl _ _ rfl x.cells _ (fun W ⟨nn, hn⟩ => hn ▸ rangeAt_ext hry ((Ext.refl _).drewN nn)) Try.underlying34 rfl hx34 ?_)); (try simp only [Act.put, List.setIfInBounds_toArray, List.set_cons_zero, List.set_cons_succ]); go_big_quiet_on) | (go_big_quiet_op; first | go_big_quiet_on | go_big_quiet_call (fail))))
            refine wpQuiet_nil ?_
            intro _ hw'
            obtain ⟨nq', hw''⟩ := hw'
            subst hw''
            go_wp2
            go_roundw
            case rel =>
              have hno' : ∀ j, j < k + 1 → LS.getD j Lat.none = MS.getD j Lat.none := fun j hj => by
                rcases Nat.lt_or_eq_of_le (Nat.lt_succ_iff.1 hj) with h | rfl
                · exact HNO.out j h
                · rw [EX.out, EY.out]
              first | exact ⟨k + 1, by omega, by go_num, hno', hx.drewN _⟩ | (refine ⟨_, ⟨k + 1, by omega, ?_, hno', hx.drewN _⟩, rfl⟩; go_num)
            case measure => simp [intOf]; omega
          · have hq : ∀ W, (binOp .neq 34 (.agg x.cells.toArray) (.agg y.cells.toArray)).run Try.prog W = .ok (.bool true) W := fun W => Lat.neq hokx hoky (b := false) (by simp [hxy]) W
            have hf : Hid (decide (LS = MS) = false) := decide_eq_false (fun e => hxy (by rw [← EX.out, ← EY.out, e]))
            go_wp2
            have hx34 : (Try.prog.info? 34).map (·.size) = some x.cells.length := by rw [Lat.len hokx]; kernel_rfl
            have hy34 : (Try.prog.info? 34).map (·.size) = some y.cells.length := by rw [Lat.len hoky]; kernel_rfl
            refine wp_region_quiet_lit (by kernel_rfl) (by kernel_rfl) ?_
            repeat (first | go_big_quiet_skip | (go_big_quiet_want; first | ((first | (refine quiet_load_mid 34 _ rfl _ _ rfl x.cells _ (fun W ⟨nn, hn⟩ => hn ▸ rangeAt_ext hrx ((Ext.refl _).drewN nn)) Try.underlying34 rfl hx34 ?_) | (refine quiet_load_mid 34 _ rfl _ _ rfl y.cells _ (fun W ⟨nn, hn⟩ => hn ▸ rangeAt_ext hry ((Ext.refl _).drewN nn)) Try.underlying34 rfl hy34 ?_)); (try simp only [Act.put, List.setIfInBounds_toArray, List.set_cons_zero, List.set_cons_succ]); go_big_quiet_on) | (go_big_quiet_op; first | go_big_quiet_on | go_big_quiet_call (fail))))
            refine wpQuiet_nil ?_
            intro _ hw'
            obtain ⟨nq', hw''⟩ := hw'
            subst hw''
            go_wp2
            go_ret
            exact ⟨by rw [hsv.out, hf.out]; rfl, k1.trans (hx.drewN _)⟩
        · have e : k = n := by omega
          subst e
          have hm : Hid (decide (LS = MS) = true) := decide_eq_true (lats_ext (by omega) (fun j hj => HNO.out j (by omega)))
          go_wp2
          go_ret
          exact ⟨by rw [hsv.out, hm.out]; rfl, k1.trans hx⟩
    · have hf : Hid (sameV LS o MS o2 = false) := by show sameV LS o MS o2 = false; unfold sameV; rw [decide_eq_false ho]; rfl
      have g1 : ((o : Int) != o2) = true := by simp; omega
      clear h g ho
      go_enter Try.func14, Try.ntmps14
      go_wp2
      go_ret
      exact ⟨by rw [hf.out]; rfl, (by repeat (first | assumption | exact Ext.refl _ | refine Ext.alloc ?_ _ | refine Ext.drew ?_ | refine Ext.drewN ?_ _ | refine Ext.setCell ?_ (by first | (simp; done) | omega | (simp; omega)) _ | refine Ext.trans (by assumption) ?_))⟩
  · have hf : Hid (sameV LS o MS o2 = false) := by show sameV LS o MS o2 = false; unfold sameV; rw [show decide (LS = MS) = false from decide_eq_false (fun e => hnm (by rw [← hl, ← gl, e]))]; simp
    have g1 : ((n : Int) != m) = true := by simp; omega
    clear h g hnm
    go_enter Try.func14, Try.ntmps14
    go_wp2
    go_ret
    exact ⟨by rw [hf.out]; rfl, (by repeat (first | assumption | exact Ext.refl _ | refine Ext.alloc ?_ _ | refine Ext.drew ?_ | refine Ext.drewN ?_ _ | refine Ext.setCell ?_ (by first | (simp; done) | omega | (simp; omega)) _ | refine Ext.trans (by assumption) ?_))⟩
end Go.Proofs.Ytnpopepannimiaa
