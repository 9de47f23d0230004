/- VoteFirst: whoever has no vote, and did not vote twice, has the first one that is put; so of those who begin. No conditions. -/
import Derived.Test.YtnpopepannimiaaVoteLaw
import Derived.Test.YtnpopepannimiaaLatOpen
namespace Go.Proofs.Ytnpopepannimiaa
open Go.RowKit Go.WideShapes Go.ChangeShapes Go.Joins Go.Deep
set_option linter.unusedVariables false
set_option linter.unusedSimpArgs false







set_option maxHeartbeats 4000000 in
theorem VoteFirst_walk (n : Int) (n1 : -9223372036854775808 ≤ n) (n2 : n ≤ 9223372036854775807) (val : Int) (v1 : -9223372036854775808 ≤ val) (v2 : val ≤ 9223372036854775807) (r : List Int) (hr0 : RootOk r) (e : Nat) (he : e < 18446744073709551616) (w : World) :
    Calls Try.prog 5 #[.int .i64 n, .int .i64 val, .agg (rootC r).toArray, .int .u64 e] w fun e' w' => e' = .returned (.bool true) ∧ Ext w w' := by
  have HA := Lib.hid (fun W => awake_any W)
  have HN := Lib.hid (fun W => new_any n W)
  have hi32 : (Try.prog.info? 32).map (·.size) = some (rootC r).length := by rw [rootC_len hr0]; kernel_rfl
  cases hb : newVB n with
  | false =>
    rw [hb] at HN
    have hb' : n < 1 ∨ 8 < n := by unfold newVB at hb; have := of_decide_eq_false hb; omega
    clear hb
    have hcase : ∃ b1, decide (n < 1) = b1 ∧ (b1 = false → 8 < n) := ⟨_, rfl, fun h => by have := of_decide_eq_false h; omega⟩
    by_cases g1 : n < 1
    · clear hcase hb'
      go_enter Try.func5, Try.ntmps5
      go_wp2_with fail
      refine (HA.out _).mono ?_
      rintro k1 w1 ⟨rfl, hx1⟩
      have k1 : Ext w w1 := Ext.trans ((by repeat (first | assumption | exact Ext.refl _ | refine Ext.alloc ?_ _ | refine Ext.drew ?_ | refine Ext.drewN ?_ _ | refine Ext.setCell ?_ (by first | (simp; done) | omega | (simp; omega)) _ | refine Ext.trans (by assumption) ?_))) hx1
      go_wp2_with fail
      refine (HN.out _).mono ?_
      rintro k2 w2 ⟨⟨A, m, c, rfl, h⟩, hx2⟩
      have k2 : Ext w1 w2 := Ext.trans ((by repeat (first | assumption | exact Ext.refl _ | refine Ext.alloc ?_ _ | refine Ext.drew ?_ | refine Ext.drewN ?_ _ | refine Ext.setCell ?_ (by first | (simp; done) | omega | (simp; omega)) _ | refine Ext.trans (by assumption) ?_))) hx2
      go_wp2
      go_ret
      exact ⟨rfl, (by repeat (first | assumption | exact Ext.refl _ | refine Ext.alloc ?_ _ | refine Ext.drew ?_ | refine Ext.drewN ?_ _ | refine Ext.setCell ?_ (by first | (simp; done) | omega | (simp; omega)) _ | refine Ext.trans (by assumption) ?_))⟩
    · have g8 : 8 < n := by omega
      clear hcase hb'
      go_enter Try.func5, Try.ntmps5
      go_wp2_with fail
      refine (HA.out _).mono ?_
      rintro k1 w1 ⟨rfl, hx1⟩
      have k1 : Ext w w1 := Ext.trans ((by repeat (first | assumption | exact Ext.refl _ | refine Ext.alloc ?_ _ | refine Ext.drew ?_ | refine Ext.drewN ?_ _ | refine Ext.setCell ?_ (by first | (simp; done) | omega | (simp; omega)) _ | refine Ext.trans (by assumption) ?_))) hx1
      go_wp2_with fail
      refine (HN.out _).mono ?_
      rintro k2 w2 ⟨⟨A, m, c, rfl, h⟩, hx2⟩
      have k2 : Ext w1 w2 := Ext.trans ((by repeat (first | assumption | exact Ext.refl _ | refine Ext.alloc ?_ _ | refine Ext.drew ?_ | refine Ext.drewN ?_ _ | refine Ext.setCell ?_ (by first | (simp; done) | omega | (simp; omega)) _ | refine Ext.trans (by assumption) ?_))) hx2
      go_wp2
      go_ret
      exact ⟨rfl, (by repeat (first | assumption | exact Ext.refl _ | refine Ext.alloc ?_ _ | refine Ext.drew ?_ | refine Ext.drewN ?_ _ | refine Ext.setCell ?_ (by first | (simp; done) | omega | (simp; omega)) _ | refine Ext.trans (by assumption) ?_))⟩
  | true =>
    rw [hb] at HN
    have hb' : 1 ≤ n ∧ n ≤ 8 := by unfold newVB at hb; exact of_decide_eq_true hb
    clear hb
    obtain ⟨n, rfl⟩ := Int.eq_ofNat_of_zero_le (show 0 ≤ n by omega)
    by_cases hv : val < 0
    · go_enter Try.func5, Try.ntmps5
      go_wp2_with fail
      refine (HA.out _).mono ?_
      rintro k1 w1 ⟨rfl, hx1⟩
      have k1 : Ext w w1 := Ext.trans ((by repeat (first | assumption | exact Ext.refl _ | refine Ext.alloc ?_ _ | refine Ext.drew ?_ | refine Ext.drewN ?_ _ | refine Ext.setCell ?_ (by first | (simp; done) | omega | (simp; omega)) _ | refine Ext.trans (by assumption) ?_))) hx1
      go_wp2_with fail
      refine (HN.out _).mono ?_
      rintro k2 w2 ⟨⟨A, m, c, rfl, h⟩, hx2⟩
      have k2 : Ext w1 w2 := Ext.trans ((by repeat (first | assumption | exact Ext.refl _ | refine Ext.alloc ?_ _ | refine Ext.drew ?_ | refine Ext.drewN ?_ _ | refine Ext.setCell ?_ (by first | (simp; done) | omega | (simp; omega)) _ | refine Ext.trans (by assumption) ?_))) hx2
      go_wp2
      go_ret
      exact ⟨rfl, (by repeat (first | assumption | exact Ext.refl _ | refine Ext.alloc ?_ _ | refine Ext.drew ?_ | refine Ext.drewN ?_ _ | refine Ext.setCell ?_ (by first | (simp; done) | omega | (simp; omega)) _ | refine Ext.trans (by assumption) ?_))⟩
    · by_cases hvn : (n : Int) ≤ val
      · go_enter Try.func5, Try.ntmps5
        go_wp2_with fail
        refine (HA.out _).mono ?_
        rintro k1 w1 ⟨rfl, hx1⟩
        have k1 : Ext w w1 := Ext.trans ((by repeat (first | assumption | exact Ext.refl _ | refine Ext.alloc ?_ _ | refine Ext.drew ?_ | refine Ext.drewN ?_ _ | refine Ext.setCell ?_ (by first | (simp; done) | omega | (simp; omega)) _ | refine Ext.trans (by assumption) ?_))) hx1
        go_wp2_with fail
        refine (HN.out _).mono ?_
        rintro k2 w2 ⟨⟨A, m, c, rfl, h⟩, hx2⟩
        have k2 : Ext w1 w2 := Ext.trans ((by repeat (first | assumption | exact Ext.refl _ | refine Ext.alloc ?_ _ | refine Ext.drew ?_ | refine Ext.drewN ?_ _ | refine Ext.setCell ?_ (by first | (simp; done) | omega | (simp; omega)) _ | refine Ext.trans (by assumption) ?_))) hx2
        go_wp2
        go_ret
        exact ⟨rfl, (by repeat (first | assumption | exact Ext.refl _ | refine Ext.alloc ?_ _ | refine Ext.drew ?_ | refine Ext.drewN ?_ _ | refine Ext.setCell ?_ (by first | (simp; done) | omega | (simp; omega)) _ | refine Ext.trans (by assumption) ?_))⟩
      · obtain ⟨k, rfl⟩ := Int.eq_ofNat_of_zero_le (show 0 ≤ val by omega)
        have hk : k < n := by omega
        have hm := may_new (n := n) (by omega) (by omega)
        have hput : putV (List.replicate n Lat.none) 0 k r e = ((List.replicate n Lat.none).set k ⟨true, r, e⟩, 0, 1, 0) :=
          put_first hm (by simpa using hk) (by simp) (by simp [List.getD, hk]; rfl)
        have HP := Lib.hid (fun A c W (h : VL W A n c (List.replicate n Lat.none)) => (by have k0 := put_any A n c 0 (by decide) (List.replicate n Lat.none) k r hr0 e he W h; rw [hput] at k0; exact k0 : Calls Try.prog 11 #[.agg #[.slice A n c, .int .u64 0], .int .i64 k, .agg (rootC r).toArray, .int .u64 e] W fun e' w' => (∃ A2 c2, e' = .returned (.tuple #[.agg #[.slice A2 n c2, .int .u64 0], .int .i64 1, .int .i64 0]) ∧ VL w' A2 n c2 ((List.replicate n Lat.none).set k ⟨true, r, e⟩)) ∧ Ext W w'))
        clear hput hm
        have g1 : (k : Int) < n := by omega
        go_enter Try.func5, Try.ntmps5
        go_wp2_with fail
        refine (HA.out _).mono ?_
        rintro k1 w1 ⟨rfl, hx1⟩
        have k1 : Ext w w1 := Ext.trans ((by repeat (first | assumption | exact Ext.refl _ | refine Ext.alloc ?_ _ | refine Ext.drew ?_ | refine Ext.drewN ?_ _ | refine Ext.setCell ?_ (by first | (simp; done) | omega | (simp; omega)) _ | refine Ext.trans (by assumption) ?_))) hx1
        have rR := rangeAt_ext (range_at (w := w) (B := w.heap.size) (rootC r) 32 rfl) hx1
        go_wp2_with fail
        refine (HN.out _).mono ?_
        rintro k2 w2 ⟨⟨A, m, c, rfl, h⟩, hx2⟩
        have k2 : Ext w1 w2 := Ext.trans ((by repeat (first | assumption | exact Ext.refl _ | refine Ext.alloc ?_ _ | refine Ext.drew ?_ | refine Ext.drewN ?_ _ | refine Ext.setCell ?_ (by first | (simp; done) | omega | (simp; omega)) _ | refine Ext.trans (by assumption) ?_))) hx2
        replace rR := rangeAt_ext rR k2
        rw [if_pos trivial, Int.toNat_natCast] at h
        have hmn : m = n := by rw [← h.len]; simp
        subst hmn
        go_wp2_with (refine wpList_load_mid rfl 32 _ rfl _ _ rfl (rootC r) _ (rangeAt_ext rR ((by repeat (first | assumption | exact Ext.refl _ | refine Ext.alloc ?_ _ | refine Ext.drew ?_ | refine Ext.drewN ?_ _ | refine Ext.setCell ?_ (by first | (simp; done) | omega | (simp; omega)) _ | refine Ext.trans (by assumption) ?_)))) Try.underlying32 rfl hi32 ?_)
        refine (HP.out _ _ _ (h.ext ((by repeat (first | assumption | exact Ext.refl _ | refine Ext.alloc ?_ _ | refine Ext.drew ?_ | refine Ext.drewN ?_ _ | refine Ext.setCell ?_ (by first | (simp; done) | omega | (simp; omega)) _ | refine Ext.trans (by assumption) ?_))))).mono ?_
        rintro k3 w3 ⟨⟨A2, c2, rfl, h3⟩, hx3⟩
        have k3 : Ext w2 w3 := Ext.trans ((by repeat (first | assumption | exact Ext.refl _ | refine Ext.alloc ?_ _ | refine Ext.drew ?_ | refine Ext.drewN ?_ _ | refine Ext.setCell ?_ (by first | (simp; done) | omega | (simp; omega)) _ | refine Ext.trans (by assumption) ?_))) hx3
        replace rR := rangeAt_ext rR k3
        obtain ⟨b, off, rfl, hr, hok⟩ := h3.at' (i := k) hk
        rw [getD_set _ _ _ _ (by simpa using hk), if_pos rfl] at hr hok
        go_wp2
        obtain ⟨x, hx⟩ : ∃ x : Lat, x = ⟨true, r, e⟩ := ⟨_, rfl⟩
        rw [← hx] at hr hok
        have hi34 : (Try.prog.info? 34).map (·.size) = some x.cells.length := by rw [Lat.len hok]; kernel_rfl
        have hq : ∀ W, (binOp .eql 34 (.agg x.cells.toArray) (.agg x.cells.toArray)).run Try.prog W = .ok (.bool true) W := fun W => Lat.eql hok hok (b := true) (by simp) W
        have hbu : Try.prog.built 34 [(0, .bool true), (1, .agg (rootC r).toArray), (2, .int .u64 e)] = some x.cells.toArray := by rw [hx]; exact Lat.built hr0 e
        clear hx h h3 HP HN HA
        have k4 : Ext w2 (w3.alloc (.cells #[.slice (some ⟨b, off, none⟩) m c2, .int .u64 0] 28)) := Ext.trans ((by repeat (first | assumption | exact Ext.refl _ | refine Ext.alloc ?_ _ | refine Ext.drew ?_ | refine Ext.drewN ?_ _ | refine Ext.setCell ?_ (by first | (simp; done) | omega | (simp; omega)) _ | refine Ext.trans (by assumption) ?_))) (hx3.alloc _)
        refine wp_region_quiet_lit (by kernel_rfl) (by kernel_rfl) ?_
        repeat (first | go_big_quiet_skip | (go_big_quiet_want; first | ((first | (refine quiet_load_mid 34 _ rfl _ _ rfl x.cells _ (fun W ⟨nn, hn⟩ => hn ▸ rangeAt_ext hr (((Ext.refl _).alloc _).drewN nn)) Try.underlying34 rfl hi34 ?_) | (refine quiet_load_mid 32 _ rfl _ _ rfl (rootC r) _ (fun W ⟨nn, hn⟩ => hn ▸ rangeAt_ext rR (((Ext.refl _).alloc _).drewN nn)) Try.underlying32 rfl hi32 ?_) | (refine quiet_build_as 34 _ rfl x.cells.toArray (by simp [go_sem]; exact hbu) ?_)); (try simp only [Act.put, List.setIfInBounds_toArray, List.set_cons_zero, List.set_cons_succ]); go_big_quiet_on) | (go_big_quiet_op; first | go_big_quiet_on | go_big_quiet_call (fail))))
        refine wpQuiet_nil ?_
        intro _ hw'
        obtain ⟨nq', hw''⟩ := hw'
        subst hw''
        go_wp2
        go_ret
        exact ⟨rfl, k1.trans (k2.trans (k4.drewN _))⟩
set_option maxRecDepth 100000 in
theorem VoteFirst_lifted (os : Os) (started : os.Started) (H : Type) (enc : TypeId × Value → H) :
    ReturnsInHanded {} Try.checked os 5 .any (Rows.voteFirstSpec.pre6 enc Try.prog Try.f5 Rows.voteFirstRow.domain false) (Rows.voteFirstSpec.post enc Try.prog Try.f5 false true false false) := by
  refine returnsInHanded_of_change_sized (C := Try.checked) own started (by kernel_rfl) Try.func5
    (ChangeSpec.witness6 (enc := enc) (C := Try.checked) false ⟨#[], #[.int .i64 0, .int .i64 0, .agg (rootC zeroR).toArray, .int .u64 0], []⟩ 8 (by kernel_rfl) (by kernel_rfl) (by kernel_rfl) (by kernel_rfl)) ?_
  intro W base args ds gs before hval0 hW _hcnd hsz0 _
  have hval : ∀ (j : Nat) t v, Try.f5.params[j]? = some t → args[j]? = some v → Value.okWide Try.prog W .any base t v := hval0
  have hsz : (DataW.weightsEach Try.prog (Try.f5.params.toList ++ Rows.voteFirstSpec.plain.varTypes Try.prog) (ds ++ gs)).all (· ≤ reachBytes) = true := hsz0
  have hW' := hW
  obtain ⟨p, q, hA0, hV, rfl, hfz, hnd⟩ := hW
  have hA : DataW.TrodAll enc Try.prog W 0 (fun _ => true) true Try.f5.params.toList args.toList ds p := hA0
  rw [Try.params5] at hA hval hsz
  obtain ⟨v0, vs0, d0, ds0, p0, q0, hargs, rfl, rfl, h0, r0⟩ := trodAll_cons hA
  obtain ⟨v1, vs1, d1, ds1, p1, q1, rfl, rfl, rfl, h1, r1⟩ := trodAll_cons r0
  obtain ⟨v2, vs2, d2, ds2, p2, q2, rfl, rfl, rfl, h2, r2⟩ := trodAll_cons r1
  obtain ⟨v3, vs3, d3, ds3, p3, q3, rfl, rfl, rfl, h3, r3⟩ := trodAll_cons r2
  obtain ⟨rfl, rfl, rfl⟩ := trodAll_nil r3
  obtain rfl : args = #[v0, v1, v2, v3] := by cases args; simp_all
  obtain ⟨rfl, rfl⟩ := trodVars_none hV
  have h0k := h0
  have h1k := h1
  have h2k := h2
  have h3k := h3
  have hlt0 : ∀ x ∈ p0, x.block < W.heap.size := fun x hx => by have := hW'.lt x (by simp [hx]); simpa using this
  have hlt1 : ∀ x ∈ p1, x.block < W.heap.size := fun x hx => by have := hW'.lt x (by simp [hx]); simpa using this
  have hlt2 : ∀ x ∈ p2, x.block < W.heap.size := fun x hx => by have := hW'.lt x (by simp [hx]); simpa using this
  have hlt3 : ∀ x ∈ p3, x.block < W.heap.size := fun x hx => by have := hW'.lt x (by simp [hx]); simpa using this
  obtain ⟨n, rfl, hn1, hn2⟩ := open_I64 Try.underlying3 (hval 0 3 v0 rfl rfl) h0
  obtain ⟨val, rfl, hval1, hval2⟩ := open_I64 Try.underlying3 (hval 1 3 v1 rfl rfl) h1
  obtain ⟨r, rfl, hr⟩ := open_root (hval 2 32 v2 rfl rfl) h2
  obtain ⟨e, rfl, he⟩ := open_U64 Try.underlying26 (hval 3 26 v3 rfl rfl) h3
  clear hA0 hval0
  simp only [List.append_nil] at hW'
  refine (VoteFirst_walk n hn1 hn2 val hval1 hval2 r hr e he (w := W)).mono fun e W' ⟨he, hg⟩ => ?_
  subst he
  exact ⟨_, rfl, post_law (pa := p0 ++ (p1 ++ (p2 ++ (p3 ++ [])))) (pv := []) hW' (fun _ _ _ => (trodAll_cons_mk (shut_bool Try.underlying4 _) trodAll_mk0))
    (trodAll_cons_mk (Below.trod laidOut (by kernel_rfl) (of_decide_eq_true (by kernel_rfl)) h0k hg.out hlt0) (trodAll_cons_mk (Below.trod laidOut (by kernel_rfl) (of_decide_eq_true (by kernel_rfl)) h1k hg.out hlt1) (trodAll_cons_mk (Below.trod laidOut (by kernel_rfl) (of_decide_eq_true (by kernel_rfl)) h2k hg.out hlt2) (trodAll_cons_mk (Below.trod laidOut (by kernel_rfl) (of_decide_eq_true (by kernel_rfl)) h3k hg.out hlt3) trodAll_mk0)))) rfl (by simp) hg⟩
theorem VoteFirst_holds : Rows.VoteFirstSaid :=
  OpenClaim.holds_of_wide 5 Try.f5 rfl rfl rfl rfl rfl rfl rfl ⟨rfl, rfl, rfl, rfl, rfl⟩ rfl rfl rfl rfl rfl (by kernel_rfl) Try.func5 (by kernel_rfl)
    (of_decide_eq_true (by kernel_rfl)) (by unfold Func.isWrapper; first | (rw [if_pos (by decide +kernel)]; kernel_rfl) | (rw [if_neg (by decide +kernel)]; exact ⟨rfl, rfl⟩))
    (fun os started H enc _ => VoteFirst_lifted os started H enc)
#print axioms VoteFirst_holds
end Go.Proofs.Ytnpopepannimiaa
