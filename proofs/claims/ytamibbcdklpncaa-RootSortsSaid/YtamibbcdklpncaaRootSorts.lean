/- RootSorts: roots in order are those that were there, each once, rising. No conditions. -/
import Derived.Test.YtamibbcdklpncaaRootAwake
import Derived.Test.YtamibbcdklpncaaQuietX
namespace Go.Proofs.Ytamibbcdklpncaa
open Go.RowKit Go.WideShapes Go.ChangeShapes Go.Joins Go.Deep Go.Sort
set_option linter.unusedVariables false
set_option linter.unusedSimpArgs false
set_option linter.unusedSectionVars false


/-- Is a among the first k? -/
def hasV (R : List (List Int)) (a : List Int) (k : Nat) : Bool := decide (a ∈ R.take k)
theorem has_step {R : List (List Int)} {a : List Int} {k : Nat} (h : k < R.length) : hasV R a (k + 1) = (hasV R a k || decide (R.getD k zeroR = a)) := by
  unfold hasV
  rw [List.take_add_one]
  have e : R[k]?.toList = [R.getD k zeroR] := by simp [List.getD, h]
  rw [e, Bool.eq_iff_iff]
  simp only [List.mem_append, List.mem_singleton, decide_eq_true_eq, Bool.or_eq_true]
  exact ⟨fun h => h.imp id Eq.symm, fun h => h.imp id Eq.symm⟩
theorem has_zero (R : List (List Int)) (a : List Int) : hasV R a 0 = false := by unfold hasV; simp
theorem has_all {R : List (List Int)} {a : List Int} {k : Nat} (h : R.length ≤ k) : hasV R a k = decide (a ∈ R) := by unfold hasV; rw [List.take_of_length_le h]




set_option maxHeartbeats 4000000 in
theorem RootSorts_walk {w : World} (lA : Option Addr) (ln lc : Nat) (l : List (List Int)) (hl : RL w lA ln lc l) (a : List Int) (ha : RootOk a) :
    Calls Try.prog 6 #[.slice lA ln lc, .agg (rootC a).toArray] w fun e' w' => e' = .returned (.bool true) ∧ Ext w w' := by
  have hlr := hl.row.room
  have HL := Lib.hid (fun W (kx : Ext w W) => hl.ext kx)
  have HLN := Lib.hid hl.len
  clear hl
  have hia : (Try.prog.info? 23).map (·.size) = some (rootC a).length := by rw [rootC_len ha]; kernel_rfl
  obtain ⟨w0, hw0, x0, ra0⟩ : ∃ w0, w.alloc (.cells (rootC a).toArray 23) = w0 ∧ Ext w w0 ∧ w0.rangeAt w.heap.size 0 (rootC a) := ⟨_, rfl, (by repeat (first | assumption | exact Ext.refl _ | refine Ext.alloc ?_ _ | refine Ext.drew ?_ | refine Ext.drewN ?_ _ | refine Ext.setCell ?_ (by first | (simp; done) | omega | (simp; omega)) _ | refine Ext.trans (by assumption) ?_)), range_new w (rootC a) _⟩
  by_cases h1 : 100 < ln
  · have g1 : decide ((100 : Int) < (ln : Int)) = true := by rw [decide_eq_true_iff]; omega
    go_enter Try.func6, Try.ntmps6
    go_wp2_with fail
    refine (awake_any _).mono ?_
    rintro e w1 ⟨rfl, x1⟩
    have y1 := x0.trans x1
    go_wp2
    go_ret
    exact ⟨rfl, y1⟩
  · have g1 : decide ((100 : Int) < (ln : Int)) = false := by rw [decide_eq_false_iff_not]; omega
    go_enter Try.func6, Try.ntmps6
    go_wp2_with fail
    refine (awake_any _).mono ?_
    rintro e w1 ⟨rfl, x1⟩
    have y1 := x0.trans x1
    go_wp2_with fail
    refine (sort_any lA ln lc l w1 (HL.out _ y1) (by omega)).mono ?_
    rintro e w2 ⟨⟨A2, n2, c2, rfl, h2⟩, x2⟩
    have y2 := y1.trans x2
    have HRA := Lib.hid (fun W (kx : Ext w2 W) => rangeAt_ext ra0 ((x1.trans x2).trans kx))
    have H2 := Lib.hid (fun W (kx : Ext w2 W) => h2.ext kx)
    have hn2 : n2 ≤ ln := by have := Root.sortV_len l; rw [h2.len, HLN.out] at this; exact this
    have HN2 := Lib.hid h2.len
    have hr2 := h2.row.room
    clear h2 ra0
    go_wp2
    go_loopw [7, 9] (fun q i wr => ∃ k : Nat, k ≤ ln ∧ i = .int .i64 k ∧ q = .bool (hasV l a k) ∧ Ext w2 wr) (fun _ i _ => ln - (intOf i).toNat)
    case atStart => exact ⟨0, Nat.zero_le _, rfl, by rw [has_zero], Ext.refl _⟩
    case round =>
      obtain ⟨k, hk, rfl, rfl, hx⟩ := hrel
      by_cases hlt : k < ln
      · have g2 : (k : Int) < ln := by omega
        have HS := Lib.hid (has_step (R := l) (a := a) (k := k) (by rw [HLN.out]; exact hlt))
        cases hq : hasV l a k with
        | true =>
          rw [hq] at HS
          clear hq
          go_wp2
          refine wp_region_quiet_lit (by kernel_rfl) (by kernel_rfl) ?_
          repeat (first | go_big_quiet_skip | (go_big_quiet_want; first | ((fail); (try simp only [Act.put, List.setIfInBounds_toArray, List.set_cons_zero, List.set_cons_succ]); go_big_quiet_on) | (go_big_quiet_op; first | go_big_quiet_on | go_big_quiet_call (fail))))
          refine wpQuiet_nil ?_
          intro _ hw'
          obtain ⟨nq', hw''⟩ := hw'
          subst hw''
          go_wp2
          go_roundw
          case rel => exact ⟨k + 1, by omega, by go_num, by rw [HS.out]; rfl, (by repeat (first | assumption | exact Ext.refl _ | refine Ext.alloc ?_ _ | refine Ext.drew ?_ | refine Ext.drewN ?_ _ | refine Ext.setCell ?_ (by first | (simp; done) | omega | (simp; omega)) _ | refine Ext.trans (by assumption) ?_))⟩
          case measure => simp [intOf]; omega
        | false =>
          rw [hq] at HS
          clear hq
          obtain ⟨b, off, rfl, hrx, hokx⟩ := (HL.out wr (y2.trans hx)).at' hlt
          have hra := HRA.out wr hx
          generalize l.getD k zeroR = x at *
          have hix : (Try.prog.info? 23).map (·.size) = some (rootC x).length := by rw [rootC_len hokx]; kernel_rfl
          have hq2 : ∀ W, (binOp .eql 23 (.agg (rootC x).toArray) (.agg (rootC a).toArray)).run Try.prog W = .ok (.bool (decide (x = a))) W := fun W => root_eql hokx ha (b := decide (x = a)) (by simp) W
          generalize decide (x = a) = q at *
          go_wp2
          refine wp_region_quiet_lit (by kernel_rfl) (by kernel_rfl) ?_
          repeat (first | go_big_quiet_skip | (go_big_quiet_want; first | ((first | (refine quiet_load_mid 23 _ rfl _ _ rfl (rootC x) _ (fun W ⟨nn, hn⟩ => hn ▸ rangeAt_ext hrx ((Ext.refl _).drewN nn)) Try.underlying23 rfl hix ?_) | (refine quiet_load_mid 23 _ rfl _ _ rfl (rootC a) _ (fun W ⟨nn, hn⟩ => hn ▸ rangeAt_ext hra ((Ext.refl _).drewN nn)) Try.underlying23 rfl hia ?_)); (try simp only [Act.put, List.setIfInBounds_toArray, List.set_cons_zero, List.set_cons_succ]); go_big_quiet_on) | (go_big_quiet_op; first | go_big_quiet_on | go_big_quiet_call (fail))))
          refine wpQuiet_nil ?_
          intro _ hw'
          obtain ⟨nq', hw''⟩ := hw'
          subst hw''
          go_wp2
          go_roundw
          case rel => exact ⟨k + 1, by omega, by go_num, by rw [HS.out]; rfl, (by repeat (first | assumption | exact Ext.refl _ | refine Ext.alloc ?_ _ | refine Ext.drew ?_ | refine Ext.drewN ?_ _ | refine Ext.setCell ?_ (by first | (simp; done) | omega | (simp; omega)) _ | refine Ext.trans (by assumption) ?_))⟩
          case measure => simp [intOf]; omega
      · have ek : k = ln := by omega
        subst ek
        have hall := has_all (R := l) (a := a) (k := k) (by rw [HLN.out]; exact Nat.le_refl _)
        rw [hall]
        clear hall
        obtain ⟨w3, rfl⟩ : ∃ w3, w3 = wr := ⟨_, rfl⟩
        have hmem : decide (a ∈ Root.sortV l) = decide (a ∈ l) := by simp [Root.mem_sortV]
        have HM := Lib.hid hmem
        clear hmem
        generalize decide (a ∈ l) = was at *
        have hxx := Lib.hid hx
        clear hx
        go_wp2
        go_loopw [8, 10] (fun q i wr => ∃ j : Nat, j ≤ n2 ∧ i = .int .i64 j ∧ q = .bool (hasV (Root.sortV l) a j) ∧ Ext w2 wr) (fun _ i _ => n2 - (intOf i).toNat)
        case atStart => exact ⟨0, Nat.zero_le _, rfl, by rw [has_zero], hxx.out⟩
        case round =>
          obtain ⟨j, hj, rfl, rfl, hx⟩ := hrel
          by_cases hlt : j < n2
          · have g2 : (j : Int) < n2 := by omega
            have HS := Lib.hid (has_step (R := Root.sortV l) (a := a) (k := j) (by rw [HN2.out]; exact hlt))
            obtain ⟨b, off, rfl, hry, hoky⟩ := (H2.out wr hx).at' hlt
            have hra := HRA.out wr hx
            rcases j with _ | j
            · generalize (Root.sortV l).getD 0 zeroR = x at *
              have hrx := hry
              have HZ := Lib.hid hry
              have hix : (Try.prog.info? 23).map (·.size) = some (rootC x).length := by rw [rootC_len hoky]; kernel_rfl
              have hq2 : ∀ W, (binOp .eql 23 (.agg (rootC x).toArray) (.agg (rootC a).toArray)).run Try.prog W = .ok (.bool (decide (x = a))) W := fun W => root_eql hoky ha (b := decide (x = a)) (by simp) W
              generalize decide (x = a) = q2 at *
              cases hq : hasV (Root.sortV l) a 0 with
              | true =>
                rw [hq] at HS
                clear hq
                go_wp2
                refine wp_region_quiet_lit (by kernel_rfl) (by kernel_rfl) ?_
                repeat (first | go_big_quiet_skip | (go_big_quiet_want; first | ((fail); (try simp only [Act.put, List.setIfInBounds_toArray, List.set_cons_zero, List.set_cons_succ]); go_big_quiet_on) | (go_big_quiet_op; first | go_big_quiet_on | go_big_quiet_call (fail))))
                refine wpQuiet_nil ?_
                intro _ hw'
                obtain ⟨nq', hw''⟩ := hw'
                subst hw''
                have kx := (Ext.refl wr).drewN nq'
                have hx9 := hx.trans kx
                have hrx9 := rangeAt_ext hrx kx
                have hry := rangeAt_ext HZ.out kx
                clear hrx
                have hrx := hrx9
                clear hrx9
                generalize wr.drewN nq' = wb at *
                go_wp2
                refine wp_region_quiet_below (by kernel_rfl) (by kernel_rfl) ?_
                repeat (first | go_big_quiet_skip | (go_big_quiet_want; first | ((fail); (try simp only [Act.put, List.setIfInBounds_toArray, List.set_cons_zero, List.set_cons_succ]); go_big_quiet_on) | (go_big_quiet_op; first | go_big_quiet_on | go_big_quiet_call (fail))))
                refine wpQuiet_nil ?_
                intro _ hw'
                obtain ⟨pq, hw''⟩ := hw'
                subst hw''
                have kb : Ext w2 _ := hx9.trans (ext_regrown wb pq)
                go_wp2
                go_roundw
                case rel => exact ⟨0 + 1, by omega, by go_num, by rw [HS.out]; rfl, kb⟩
                case measure => simp [intOf]; omega
              | false =>
                rw [hq] at HS
                clear hq
                go_wp2
                refine wp_region_quiet_lit (by kernel_rfl) (by kernel_rfl) ?_
                repeat (first | go_big_quiet_skip | (go_big_quiet_want; first | ((first | (refine quiet_load_mid 23 _ rfl _ _ rfl (rootC x) _ (fun W ⟨nn, hn⟩ => hn ▸ rangeAt_ext hrx ((Ext.refl _).drewN nn)) Try.underlying23 rfl hix ?_) | (refine quiet_load_mid 23 _ rfl _ _ rfl (rootC a) _ (fun W ⟨nn, hn⟩ => hn ▸ rangeAt_ext hra ((Ext.refl _).drewN nn)) Try.underlying23 rfl hia ?_)); (try simp only [Act.put, List.setIfInBounds_toArray, List.set_cons_zero, List.set_cons_succ]); go_big_quiet_on) | (go_big_quiet_op; first | go_big_quiet_on | go_big_quiet_call (fail))))
                refine wpQuiet_nil ?_
                intro _ hw'
                obtain ⟨nq', hw''⟩ := hw'
                subst hw''
                have kx := (Ext.refl wr).drewN nq'
                have hx9 := hx.trans kx
                have hrx9 := rangeAt_ext hrx kx
                have hry := rangeAt_ext HZ.out kx
                clear hrx
                have hrx := hrx9
                clear hrx9
                generalize wr.drewN nq' = wb at *
                go_wp2
                refine wp_region_quiet_below (by kernel_rfl) (by kernel_rfl) ?_
                repeat (first | go_big_quiet_skip | (go_big_quiet_want; first | ((fail); (try simp only [Act.put, List.setIfInBounds_toArray, List.set_cons_zero, List.set_cons_succ]); go_big_quiet_on) | (go_big_quiet_op; first | go_big_quiet_on | go_big_quiet_call (fail))))
                refine wpQuiet_nil ?_
                intro _ hw'
                obtain ⟨pq, hw''⟩ := hw'
                subst hw''
                have kb : Ext w2 _ := hx9.trans (ext_regrown wb pq)
                go_wp2
                go_roundw
                case rel => exact ⟨0 + 1, by omega, by go_num, by rw [HS.out]; rfl, kb⟩
                case measure => simp [intOf]; omega
            · obtain ⟨b', off', e', hrz, hokz⟩ := (H2.out wr hx).at' (i := j) (by omega)
              obtain ⟨rfl, rfl⟩ : b = b' ∧ off = off' := by simpa using e'
              clear e'
              have hless : Root.ltV ((Root.sortV l).getD j zeroR) ((Root.sortV l).getD (j + 1) zeroR) = true := by
                have h1 : j + 1 < (Root.sortV l).length := by rw [HN2.out]; exact hlt
                have := List.pairwise_iff_getElem.1 (Root.sortV_strict l) j (j + 1) (by omega) h1 (by omega)
                simpa [List.getD, h1, show j < (Root.sortV l).length by omega] using this
              generalize (Root.sortV l).getD (j + 1) zeroR = x at *
              generalize (Root.sortV l).getD j zeroR = y at *
              have hrx := hry
              have hix : (Try.prog.info? 23).map (·.size) = some (rootC x).length := by rw [rootC_len hoky]; kernel_rfl
              have hiy : (Try.prog.info? 23).map (·.size) = some (rootC y).length := by rw [rootC_len hokz]; kernel_rfl
              have HLE := Lib.hid (fun W => less_any y x hokz hoky W)
              rw [hless] at HLE
              have hq2 : ∀ W, (binOp .eql 23 (.agg (rootC x).toArray) (.agg (rootC a).toArray)).run Try.prog W = .ok (.bool (decide (x = a))) W := fun W => root_eql hoky ha (b := decide (x = a)) (by simp) W
              generalize decide (x = a) = q2 at *
              have HZ := Lib.hid hrz
              clear hless hry hrz
              cases hq : hasV (Root.sortV l) a (j + 1) with
              | true =>
                rw [hq] at HS
                clear hq
                go_wp2
                refine wp_region_quiet_lit (by kernel_rfl) (by kernel_rfl) ?_
                repeat (first | go_big_quiet_skip | (go_big_quiet_want; first | ((fail); (try simp only [Act.put, List.setIfInBounds_toArray, List.set_cons_zero, List.set_cons_succ]); go_big_quiet_on) | (go_big_quiet_op; first | go_big_quiet_on | go_big_quiet_call (fail))))
                refine wpQuiet_nil ?_
                intro _ hw'
                obtain ⟨nq', hw''⟩ := hw'
                subst hw''
                have kx := (Ext.refl wr).drewN nq'
                have hx9 := hx.trans kx
                have hrx9 := rangeAt_ext hrx kx
                have hry := rangeAt_ext HZ.out kx
                clear hrx
                have hrx := hrx9
                clear hrx9
                generalize wr.drewN nq' = wb at *
                go_wp2
                refine wp_region_quiet_below (by kernel_rfl) (by kernel_rfl) ?_
                repeat (first | go_big_quiet_skip | (go_big_quiet_want; first | ((first | (refine quiet_load_mid 23 _ rfl _ _ rfl (rootC x) _ (fun W ⟨p, hp⟩ => hp ▸ rangeAt_ext hrx (ext_regrown _ p)) Try.underlying23 rfl hix ?_) | (refine quiet_load_mid 23 _ rfl _ _ rfl (rootC y) _ (fun W ⟨p, hp⟩ => hp ▸ rangeAt_ext hry (ext_regrown _ p)) Try.underlying23 rfl hiy ?_)); (try simp only [Act.put, List.setIfInBounds_toArray, List.set_cons_zero, List.set_cons_succ]); go_big_quiet_on) | (go_big_quiet_op; first | go_big_quiet_on | go_big_quiet_call ((go_at_call 16; exact regrown_ext (HLE.out _))))))
                refine wpQuiet_nil ?_
                intro _ hw'
                obtain ⟨pq, hw''⟩ := hw'
                subst hw''
                have kb : Ext w2 _ := hx9.trans (ext_regrown wb pq)
                go_wp2
                go_roundw
                case rel => exact ⟨j + 1 + 1, by omega, by go_num, by rw [HS.out]; rfl, kb⟩
                case measure => simp [intOf]; omega
              | false =>
                rw [hq] at HS
                clear hq
                go_wp2
                refine wp_region_quiet_lit (by kernel_rfl) (by kernel_rfl) ?_
                repeat (first | go_big_quiet_skip | (go_big_quiet_want; first | ((first | (refine quiet_load_mid 23 _ rfl _ _ rfl (rootC x) _ (fun W ⟨nn, hn⟩ => hn ▸ rangeAt_ext hrx ((Ext.refl _).drewN nn)) Try.underlying23 rfl hix ?_) | (refine quiet_load_mid 23 _ rfl _ _ rfl (rootC a) _ (fun W ⟨nn, hn⟩ => hn ▸ rangeAt_ext hra ((Ext.refl _).drewN nn)) Try.underlying23 rfl hia ?_)); (try simp only [Act.put, List.setIfInBounds_toArray, List.set_cons_zero, List.set_cons_succ]); go_big_quiet_on) | (go_big_quiet_op; first | go_big_quiet_on | go_big_quiet_call (fail))))
                refine wpQuiet_nil ?_
                intro _ hw'
                obtain ⟨nq', hw''⟩ := hw'
                subst hw''
                have kx := (Ext.refl wr).drewN nq'
                have hx9 := hx.trans kx
                have hrx9 := rangeAt_ext hrx kx
                have hry := rangeAt_ext HZ.out kx
                clear hrx
                have hrx := hrx9
                clear hrx9
                generalize wr.drewN nq' = wb at *
                go_wp2
                refine wp_region_quiet_below (by kernel_rfl) (by kernel_rfl) ?_
                repeat (first | go_big_quiet_skip | (go_big_quiet_want; first | ((first | (refine quiet_load_mid 23 _ rfl _ _ rfl (rootC x) _ (fun W ⟨p, hp⟩ => hp ▸ rangeAt_ext hrx (ext_regrown _ p)) Try.underlying23 rfl hix ?_) | (refine quiet_load_mid 23 _ rfl _ _ rfl (rootC y) _ (fun W ⟨p, hp⟩ => hp ▸ rangeAt_ext hry (ext_regrown _ p)) Try.underlying23 rfl hiy ?_)); (try simp only [Act.put, List.setIfInBounds_toArray, List.set_cons_zero, List.set_cons_succ]); go_big_quiet_on) | (go_big_quiet_op; first | go_big_quiet_on | go_big_quiet_call ((go_at_call 16; exact regrown_ext (HLE.out _))))))
                refine wpQuiet_nil ?_
                intro _ hw'
                obtain ⟨pq, hw''⟩ := hw'
                subst hw''
                have kb : Ext w2 _ := hx9.trans (ext_regrown wb pq)
                go_wp2
                go_roundw
                case rel => exact ⟨j + 1 + 1, by omega, by go_num, by rw [HS.out]; rfl, kb⟩
                case measure => simp [intOf]; omega
          · have ej : j = n2 := by omega
            subst ej
            have hall := has_all (R := Root.sortV l) (a := a) (k := j) (by rw [HN2.out]; exact Nat.le_refl _)
            rw [hall, HM.out]
            have g3 : decide ((j : Int) ≤ (k : Int)) = true := by rw [decide_eq_true_iff]; omega
            clear hall
            go_wp2
            go_ret
            exact ⟨rfl, y2.trans hx⟩
set_option maxRecDepth 100000 in
theorem RootSorts_lifted (os : Os) (started : os.Started) (H : Type) (enc : TypeId × Value → H) :
    ReturnsInHanded {} Try.checked os 6 .any (Rows.rootSortsSpec.pre6 enc Try.prog Try.f6 Rows.rootSortsRow.domain false) (Rows.rootSortsSpec.post enc Try.prog Try.f6 false true false false) := by
  refine returnsInHanded_of_change_sized (C := Try.checked) own started (by kernel_rfl) Try.func6
    (ChangeSpec.witness6 (enc := enc) (C := Try.checked) false ⟨#[], #[.slice none 0 0, .agg (rootC zeroR).toArray], []⟩ 8 (by kernel_rfl) (by kernel_rfl) (by kernel_rfl) (by kernel_rfl)) ?_
  intro W base args ds gs before hval0 hW _hcnd hsz0 _
  have hval : ∀ (j : Nat) t v, Try.f6.params[j]? = some t → args[j]? = some v → Value.okWide Try.prog W .any base t v := hval0
  have hsz : (DataW.weightsEach Try.prog (Try.f6.params.toList ++ Rows.rootSortsSpec.plain.varTypes Try.prog) (ds ++ gs)).all (· ≤ reachBytes) = true := hsz0
  have hW' := hW
  obtain ⟨p, q, hA0, hV, rfl, hfz, hnd⟩ := hW
  have hA : DataW.TrodAll enc Try.prog W 0 (fun _ => true) true Try.f6.params.toList args.toList ds p := hA0
  rw [Try.params6] at hA hval hsz
  obtain ⟨v0, vs0, d0, ds0, p0, q0, hargs, rfl, rfl, h0, r0⟩ := trodAll_cons hA
  obtain ⟨v1, vs1, d1, ds1, p1, q1, rfl, rfl, rfl, h1, r1⟩ := trodAll_cons r0
  obtain ⟨rfl, rfl, rfl⟩ := trodAll_nil r1
  obtain rfl : args = #[v0, v1] := by cases args; simp_all
  obtain ⟨rfl, rfl⟩ := trodVars_none hV
  have h0k := h0
  have h1k := h1
  have hlt0 : ∀ x ∈ p0, x.block < W.heap.size := fun x hx => by have := hW'.lt x (by simp [hx]); simpa using this
  have hlt1 : ∀ x ∈ p1, x.block < W.heap.size := fun x hx => by have := hW'.lt x (by simp [hx]); simpa using this
  obtain ⟨lA, ln, lc, l, rfl, hl⟩ := open_roots (hval 0 24 v0 rfl rfl) h0 hsz (j := 0) rfl rfl
  obtain ⟨a, rfl, ha⟩ := open_root (hval 1 23 v1 rfl rfl) h1
  clear hA0 hval0
  simp only [List.append_nil] at hW'
  refine (RootSorts_walk lA ln lc l hl a ha (w := W)).mono fun e W' ⟨he, hg⟩ => ?_
  subst he
  exact ⟨_, rfl, post_law (pa := p0 ++ (p1 ++ [])) (pv := []) hW' (fun _ _ _ => (trodAll_cons_mk (shut_bool Try.underlying4 _) trodAll_mk0))
    (trodAll_cons_mk (Below.trod laidOut (by kernel_rfl) (of_decide_eq_true (by kernel_rfl)) h0k hg.out hlt0) (trodAll_cons_mk (Below.trod laidOut (by kernel_rfl) (of_decide_eq_true (by kernel_rfl)) h1k hg.out hlt1) trodAll_mk0)) rfl (by simp) hg⟩
theorem RootSorts_holds : Rows.RootSortsSaid :=
  OpenClaim.holds_of_wide 6 Try.f6 rfl rfl rfl rfl rfl rfl rfl ⟨rfl, rfl, rfl, rfl, rfl⟩ rfl rfl rfl rfl rfl (by kernel_rfl) Try.func6 (by kernel_rfl)
    (of_decide_eq_true (by kernel_rfl)) (by unfold Func.isWrapper; first | (rw [if_pos (by decide +kernel)]; kernel_rfl) | (rw [if_neg (by decide +kernel)]; exact ⟨rfl, rfl⟩))
    (fun os started H enc _ => RootSorts_lifted os started H enc)
#print axioms RootSorts_holds
end Go.Proofs.Ytamibbcdklpncaa
