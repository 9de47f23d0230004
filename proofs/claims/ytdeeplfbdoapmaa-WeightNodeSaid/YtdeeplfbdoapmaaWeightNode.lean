/- WeightNode: a node weighs its own, and what its children weigh; the first one all; for every tree, numbers and place. -/
import Derived.Test.YtdeeplfbdoapmaaWeightMake
import Derived.Test.YtdeeplfbdoapmaaTreeKids
namespace Go.Proofs.Ytdeeplfbdoapmaa
open Go.RowKit Go.WideShapes Go.ChangeShapes
set_option linter.unusedVariables false
set_option linter.unusedSimpArgs false











namespace Weight
open Tree
theorem sum_filter (n : Nat) (p : Nat → Bool) (f : Nat → Nat) : (((List.range n).filter p).map f).sum = sum n (fun c => if p c = true then f c else 0) := by
  induction n with
  | zero => rfl
  | succ n ih =>
    rw [sum_succ, List.range_succ, List.filter_append, List.map_append, List.sum_append, ih]
    congr 1
    cases h : p n <;> simp [List.filter, h]
theorem mem_kids {T : List Node} (hm : mayV T = true) {k c : Nat} (hc : c < T.length) : (nd T c).par = (k : Int) ↔ c ≠ 0 ∧ up T c = k := by
  constructor
  · intro h2
    have h0 : c ≠ 0 := fun e => by subst e; rw [par_zero hm] at h2; omega
    obtain ⟨_, _, hp⟩ := par_pos hm hc h0
    exact ⟨h0, by omega⟩
  · rintro ⟨h0, h2⟩
    obtain ⟨_, _, hp⟩ := par_pos hm hc h0
    omega
theorem S_list {T : List Node} (hm : mayV T = true) (o : Nat → Nat) {i : Nat} (hi : i < T.length) : S T o i = o i + ((kidsN T (i : Int)).map (S T o)).sum := by
  rw [S_kids T o hi]
  unfold kidsN
  rw [sum_filter]
  congr 1
  refine sum_congr (fun c hc => ?_)
  have := mem_kids hm (k := i) hc
  by_cases h : c ≠ 0 ∧ up T c = i
  · rw [if_pos h, if_pos (decide_eq_true (this.2 h))]
  · rw [if_neg h, if_neg (fun g => h (this.1 (of_decide_eq_true g)))]
theorem sum_take (L : List Nat) (f : Nat → Nat) (j : Nat) : ((L.take j).map f).sum ≤ (L.map f).sum := by
  have h := congrArg (fun l => (l.map f).sum) (List.take_append_drop j L)
  simp only [List.map_append, List.sum_append] at h
  omega
theorem sum_take_succ {L : List Nat} {j c : Nat} (h : L[j]? = some c) (f : Nat → Nat) : ((L.take (j + 1)).map f).sum = ((L.take j).map f).sum + f c := by
  rw [List.take_add_one, h]
  simp
theorem sum_mono {m n : Nat} (h : m ≤ n) (f : Nat → Nat) : sum m f ≤ sum n f := by
  induction h with
  | refl => exact Nat.le_refl _
  | step _ ih => rw [sum_succ]; omega
theorem kid_lt {T : List Node} {i : Int} {c : Nat} (h : c ∈ kidsN T i) : c < T.length := List.mem_range.1 (List.mem_filter.1 h).1
theorem kid_le {L : List Nat} {f : Nat → Nat} {c : Nat} (h : c ∈ L) : f c ≤ (L.map f).sum := by
  induction L with
  | nil => cases h
  | cons a L ih =>
    simp only [List.map_cons, List.sum_cons]
    rcases List.mem_cons.1 h with rfl | h
    · omega
    · have := ih h; omega
end Weight
set_option maxRecDepth 100000 in
set_option maxHeartbeats 2000000 in
theorem WeightNode_walk {w : World} (tA : Option Addr) (tn tc : Nat) (t : List Node) (ht : NL w tA tn tc t) (oA : Option Addr) (on oc : Nat) (lo : List Int) (ho : Ints w .u64 oA on oc lo) (i : Int) (i1 : -9223372036854775808 ≤ i) (i2 : i ≤ 9223372036854775807) :
    Calls Try.prog 8 #[.agg #[.slice tA tn tc], .slice oA on oc, .int .i64 i] w fun e' w' => e' = .returned (.bool true) ∧ Ext w w' := by
  have hlen := ht.len
  have hroom := ht.row.room
  have hol := ho.len
  have HAW := Lib.hid (fun W => awake_any W)
  obtain ⟨r, hr⟩ : ∃ r, (Weight.subV t lo).getD [] = r := ⟨_, rfl⟩
  cases hb : (Weight.subV t lo).isSome with
  | false =>
    go_enter Try.func8, Try.ntmps8
    try simp only [List.append_eq, List.cons_append, List.nil_append]
    go_wp2_with fail
    refine (HAW.out _).mono ?_
    rintro e0 w0 ⟨rfl, hx0⟩
    have k0 : Ext w w0 := Ext.trans ((by repeat (first | assumption | exact Ext.refl _ | refine Ext.alloc ?_ _ | refine Ext.drew ?_ | refine Ext.drewN ?_ _ | refine Ext.setCell ?_ (by first | (simp; done) | omega | (simp; omega)) _ | refine Ext.trans (by assumption) ?_))) hx0
    have t0 := hx0.cell (p := ⟨w.heap.size, 0, none⟩) (v := .slice tA tn tc) (by first | (simp; done) | (simp (maxDischargeDepth := 7) [go_sem]; done))
    go_wp2_with fail
    refine (sub_is tA tn tc t oA on oc lo false r hb hr _ (ht.ext k0) (ho.ext k0)).mono ?_
    rintro e w1 ⟨⟨v, rfl, ⟨A1, n1, c1, rfl, h1⟩⟩, hx1⟩
    have k1 : Ext w w1 := Ext.trans k0 hx1
    replace t0 := hx1.cell t0
    go_wp2
    go_ret
    exact ⟨rfl, k1⟩
  | true =>
    by_cases hok : 0 ≤ i ∧ i < tn
    · obtain ⟨p1, p2⟩ := hok
      obtain ⟨i, rfl⟩ := Int.eq_ofNat_of_zero_le p1
      have hsv : Tree.mayV t = true ∧ lo.length = t.length ∧ Weight.total t (Weight.at' lo) < 18446744073709551616 ∧ r = Weight.listOf tn (Weight.S t (Weight.at' lo)) := by
        rw [← hr, ← hlen]
        unfold Weight.subV at hb ⊢
        by_cases hc : Tree.mayV t = true ∧ lo.length = t.length ∧ Weight.total t (Weight.at' lo) < 18446744073709551616
        · rw [if_pos hc]; exact ⟨hc.1, hc.2.1, hc.2.2, rfl⟩
        · rw [if_neg hc] at hb; cases hb
      obtain ⟨hm, hlo, htot, hrr⟩ := hsv
      have h12 := Tree.len_le hm
      rw [hlen] at h12
      have hin : i < tn := by omega
      have li : i < t.length := by omega
      obtain ⟨L, hLdef⟩ : ∃ L, Tree.kidsN t (i : Int) = L := ⟨_, rfl⟩
      obtain ⟨S, hS⟩ : ∃ S, Weight.S t (Weight.at' lo) = S := ⟨_, rfl⟩
      have hSi : S i = Weight.at' lo i + (L.map S).sum := by rw [← hS, ← hLdef]; exact Weight.S_list hm _ li
      have hSle : ∀ x, S x < 18446744073709551616 := fun x => by have := Weight.S_le t (Weight.at' lo) x; rw [hS] at this; omega
      have hS0 : S 0 = Weight.sum tn (Weight.at' lo) := by rw [← hS, Weight.S_zero, ← hlen]; rfl
      have hkid : ∀ c ∈ L, c < tn ∧ S c ≤ S i := fun c hc => ⟨by have := Weight.kid_lt (hLdef.symm ▸ hc); omega, by rw [hSi]; have := Weight.kid_le (f := S) hc; omega⟩
      have hsum : ∀ k, k ≤ tn → Weight.sum k (Weight.at' lo) < 18446744073709551616 := fun k hk => by have := Weight.sum_mono hk (Weight.at' lo); have := hSle 0; omega
      rw [hS] at hrr
      have hkv : Tree.kidsV t (i : Int) = L.map (fun k => ((k : Nat) : Int)) := by unfold Tree.kidsV; rw [Tree.isV_in hm (by omega) (by omega), if_pos rfl, hLdef]
      obtain rfl : tn = on := by omega
      obtain ⟨bo, oo, rfl, hoc⟩ := ho.cells (by omega)
      have HO := Lib.hid (fun W (k : Ext w W) x (hx : x < tn) => (by have h := k.cell (hoc x hx); rw [(ho.nat64 x).1] at h; exact ⟨h, (ho.nat64 x).2⟩ : W.cell? ⟨bo, oo + x, none⟩ = some (.int .u64 (Weight.at' lo x : Nat)) ∧ Weight.at' lo x < 18446744073709551616))
      have r1 : decide ((i : Int) < 0) = false := decide_eq_false (by omega)
      have q1 : decide (tn ≤ i) = false := decide_eq_false (by omega)
      have HK := Lib.hid (fun W (kx : Ext w W) => (by have h := kids_any tA tn tc t (i : Int) (wf_i64 (by omega) (by omega)) W (ht.ext kx); rw [hkv] at h; exact h : Calls Try.prog 17 #[.agg #[.slice tA tn tc], .int .i64 i] W fun e w' => (∃ v, e = .returned v ∧ IsInts w' .i64 v (L.map (fun k => ((k : Nat) : Int)))) ∧ Ext W w'))
      have HR := Lib.hid hrr
      have HSI := Lib.hid hSi
      have HSL := Lib.hid hSle
      have HS0 := Lib.hid hS0
      have HKID := Lib.hid hkid
      have HSUM := Lib.hid hsum
      have HLEN := Lib.hid hlen
      clear hkv hS0 hsum hkid hSle hSi hS hLdef hm hlo htot hrr hol hoc
      go_enter Try.func8, Try.ntmps8
      try simp only [List.append_eq, List.cons_append, List.nil_append]
      go_wp2_with fail
      refine (HAW.out _).mono ?_
      rintro e0 w0 ⟨rfl, hx0⟩
      have k0 : Ext w w0 := Ext.trans ((by repeat (first | assumption | exact Ext.refl _ | refine Ext.alloc ?_ _ | refine Ext.drew ?_ | refine Ext.drewN ?_ _ | refine Ext.setCell ?_ (by first | (simp; done) | omega | (simp; omega)) _ | refine Ext.trans (by assumption) ?_))) hx0
      have t0 := hx0.cell (p := ⟨w.heap.size, 0, none⟩) (v := .slice tA tn tc) (by first | (simp; done) | (simp (maxDischargeDepth := 7) [go_sem]; done))
      go_wp2_with fail
      refine (sub_is tA tn tc t _ _ oc lo true r hb hr _ (ht.ext k0) (ho.ext k0)).mono ?_
      rintro e w1 ⟨⟨v, rfl, ⟨A1, n1, c1, rfl, h1⟩⟩, hx1⟩
      have k1 : Ext w w1 := Ext.trans k0 hx1
      replace t0 := hx1.cell t0
      obtain rfl : tn = n1 := by have := h1.len; rw [HR.out, Weight.listOf_len] at this; exact this
      obtain ⟨b1, o1, rfl, hc1⟩ := h1.cells (by omega)
      have HW := Lib.hid (fun W (k : Ext w1 W) x (hx : x < tn) => (by have h := k.cell (hc1 x hx); rw [HR.out, Weight.nth_listOf hx] at h; exact h : W.cell? ⟨b1, o1 + x, none⟩ = some (.int .u64 (S x : Nat))))
      clear hc1 h1 hb hr hlen HAW
      go_wp2_with fail
      refine (HK.out _ k1).mono ?_
      rintro e w2 ⟨⟨v, rfl, ⟨LA, m, d, rfl, hL⟩⟩, hx2⟩
      have k2 : Ext w w2 := k1.trans hx2
      have hlm : L.length = m := by have := hL.len; simpa using this
      have hm12 := hL.room
      have HLM := Lib.hid hlm
      have HL := Lib.hid hL
      obtain ⟨e1, e2⟩ := HO.out _ k2 i hin
      have g1 : (i : Int) < tn := by omega
      clear hlm hL HK t0 ht ho
      go_wp2
      clear e1
      generalize hai : Weight.at' lo i = ai at e2
      have HAI := Lib.hid hai
      clear hai
      go_loopw [11, 12] (fun n' k' wr => ∃ j : Nat, j ≤ m ∧ k' = .int .i64 j ∧ n' = .int .u64 (ai + ((L.take j).map S).sum : Nat) ∧ Ext w2 wr) (fun _ k' _ => m - (intOf k').toNat)
      case atStart => exact ⟨0, Nat.zero_le _, rfl, by simp, Ext.refl _⟩
      case round =>
        obtain ⟨j, hj, rfl, rfl, hxr⟩ := hrel
        by_cases hlt : j < m
        · obtain ⟨c, hc⟩ : ∃ c, L[j]? = some c := ⟨_, List.getElem?_eq_getElem (by rw [HLM.out]; exact hlt)⟩
          obtain ⟨hct, hcs⟩ := HKID.out c (List.mem_of_getElem? hc)
          obtain ⟨bl, ol, rfl, hcl⟩ := HL.out.cells (by omega)
          have d0 := hxr.cell (hcl j hlt)
          have hn : nth (L.map (fun k => ((k : Nat) : Int))) j = (c : Int) := by unfold nth; rw [List.getD_eq_getElem?_getD, List.getElem?_map, hc]; rfl
          rw [hn] at d0
          have d1 := HW.out _ (hx2.trans hxr) c hct
          have d2 := HW.out _ (hx2.trans hxr) i hin
          have hst := Weight.sum_take_succ hc S
          have htk := Weight.sum_take L S (j + 1)
          have hsi := HSI.out
          rw [HAI.out] at hsi
          have hsl := HSL.out i
          generalize S c = sc at *
          generalize S i = si at *
          generalize (L.map S).sum = st at *
          obtain ⟨u, hu⟩ : ∃ u, ((L.take (j + 1)).map S).sum = u := ⟨_, rfl⟩
          rw [hu] at hst htk
          obtain ⟨u', hu'⟩ : ∃ u, ((L.take j).map S).sum = u := ⟨_, rfl⟩
          rw [hu'] at hst ⊢
          have HU := Lib.hid hu
          have gj : (j : Int) < m := by omega
          have gc : (c : Int) < tn := by omega
          have gc2 : decide ((c : Int) < 0) = false := decide_eq_false (by omega)
          have gc3 : decide (tn ≤ c) = false := decide_eq_false (by omega)
          have gs : decide (si < sc) = false := decide_eq_false (by omega)
          have ha : ai + u' + sc < 18446744073709551616 := by omega
          have hb : ai + u' < 18446744073709551616 := by omega
          clear hcl hc hn hu hu' hct hcs
          go_wp2
          refine wp_region_quiet_lit (by kernel_rfl) (by kernel_rfl) ?_
          repeat (first | go_big_quiet_skip | (go_big_quiet_want; first | ((fail); (try simp only [Act.put, List.setIfInBounds_toArray, List.set_cons_zero, List.set_cons_succ]); go_big_quiet_on) | (go_big_quiet_op; first | go_big_quiet_on | go_big_quiet_call (fail))))
          refine wpQuiet_nil ?_
          intro _ hw'
          obtain ⟨nq', hw''⟩ := hw'
          subst hw''
          go_wp2
          go_roundw
          case rel => exact ⟨j + 1, by omega, by go_num, by rw [HU.out, hst]; go_num, hxr.drewN _⟩
          case measure => simp [intOf]; omega
        · obtain rfl : m = j := by omega
          have e9 : ai + ((L.take m).map S).sum = S i := by rw [List.take_of_length_le (by rw [HLM.out]; exact Nat.le_refl _), ← HAI.out]; exact HSI.out.symm
          rw [e9]
          have k3 : Ext w wr := k2.trans hxr
          have d2 := HW.out _ (hx2.trans hxr) i hin
          have d3 := HW.out _ (hx2.trans hxr) 0 (by omega)
          generalize hsi : S i = si at *
          rw [HS0.out] at d3
          simp only [Nat.add_zero] at d3
          have gt0 : (0 : Int) < tn := by omega
          clear hsi e9
          go_wp2
          obtain ⟨wo, rfl⟩ : ∃ wo : World, wo = wr := ⟨_, rfl⟩
          go_loopw [13, 14] (fun n' k' wq => ∃ j : Nat, j ≤ tn ∧ k' = .int .i64 j ∧ n' = .int .u64 (Weight.sum j (Weight.at' lo) : Nat) ∧ Ext wo wq) (fun _ k' _ => tn - (intOf k').toNat)
          case atStart => exact ⟨0, Nat.zero_le _, rfl, rfl, Ext.refl _⟩
          case round =>
            obtain ⟨j, hj, rfl, rfl, hxq⟩ := hrel
            by_cases hlt : j < tn
            · obtain ⟨d0, d1⟩ := HO.out _ (k3.trans hxq) j hlt
              have hs := HSUM.out (j + 1) (by omega)
              have hss := Weight.sum_succ j (Weight.at' lo)
              have HSS := Lib.hid hss
              rw [hss] at hs
              generalize Weight.sum j (Weight.at' lo) = sj at *
              generalize Weight.at' lo j = aj at *
              have gj : (j : Int) < tn := by omega
              have hs2 : sj < 18446744073709551616 := by omega
              clear hss
              go_wp2
              go_roundw
              case rel => exact ⟨j + 1, by omega, by go_num, by rw [HSS.out]; go_num, by assumption⟩
              case measure => simp [intOf]; omega
            · obtain rfl : tn = j := by omega
              replace d2 := hxq.cell d2
              replace d3 := hxq.cell d3
              go_wp2
              go_ret
              exact ⟨rfl, k3.trans hxq⟩
    · go_enter Try.func8, Try.ntmps8
      try simp only [List.append_eq, List.cons_append, List.nil_append]
      go_wp2_with fail
      refine (HAW.out _).mono ?_
      rintro e0 w0 ⟨rfl, hx0⟩
      have k0 : Ext w w0 := Ext.trans ((by repeat (first | assumption | exact Ext.refl _ | refine Ext.alloc ?_ _ | refine Ext.drew ?_ | refine Ext.drewN ?_ _ | refine Ext.setCell ?_ (by first | (simp; done) | omega | (simp; omega)) _ | refine Ext.trans (by assumption) ?_))) hx0
      have t0 := hx0.cell (p := ⟨w.heap.size, 0, none⟩) (v := .slice tA tn tc) (by first | (simp; done) | (simp (maxDischargeDepth := 7) [go_sem]; done))
      go_wp2_with fail
      refine (sub_is tA tn tc t oA on oc lo true r hb hr _ (ht.ext k0) (ho.ext k0)).mono ?_
      rintro e w1 ⟨⟨v, rfl, ⟨A1, n1, c1, rfl, h1⟩⟩, hx1⟩
      have k1 : Ext w w1 := Ext.trans k0 hx1
      replace t0 := hx1.cell t0
      clear HAW
      go_wp2_with fail
      all_goals (first | (go_ret; exact ⟨rfl, k1⟩) | (exfalso; apply hok; refine ⟨?_, ?_⟩ <;> omega))
set_option maxRecDepth 100000 in
theorem WeightNode_lifted (os : Os) (started : os.Started) (H : Type) (enc : TypeId × Value → H) :
    ReturnsInHanded {} Try.checked os 8 .any (Rows.weightNodeSpec.pre6 enc Try.prog Try.f8 Rows.weightNodeRow.domain false) (Rows.weightNodeSpec.post enc Try.prog Try.f8 false true false false) := by
  refine returnsInHanded_of_change_sized (C := Try.checked) own started (by kernel_rfl) Try.func8
    (ChangeSpec.witness6 (enc := enc) (C := Try.checked) false ⟨#[], #[.agg #[.slice none 0 0], .slice none 0 0, .int .i64 0], []⟩ 8 (by kernel_rfl) (by kernel_rfl) (by kernel_rfl) (by kernel_rfl)) ?_
  intro W base args ds gs before hval0 hW _hcnd hsz0 _
  have hval : ∀ (j : Nat) t v, Try.f8.params[j]? = some t → args[j]? = some v → Value.okWide Try.prog W .any base t v := hval0
  have hsz : (DataW.weightsEach Try.prog (Try.f8.params.toList ++ Rows.weightNodeSpec.plain.varTypes Try.prog) (ds ++ gs)).all (· ≤ reachBytes) = true := hsz0
  have hW' := hW
  obtain ⟨p, q, hA0, hV, rfl, hfz, hnd⟩ := hW
  have hA : DataW.TrodAll enc Try.prog W 0 (fun _ => true) true Try.f8.params.toList args.toList ds p := hA0
  rw [Try.params8] at hA hval hsz
  obtain ⟨v0, vs0, d0, ds0, p0, q0, hargs, rfl, rfl, h0, r0⟩ := trodAll_cons hA
  obtain ⟨v1, vs1, d1, ds1, p1, q1, rfl, rfl, rfl, h1, r1⟩ := trodAll_cons r0
  obtain ⟨v2, vs2, d2, ds2, p2, q2, rfl, rfl, rfl, h2, r2⟩ := trodAll_cons r1
  obtain ⟨rfl, rfl, rfl⟩ := trodAll_nil r2
  obtain rfl : args = #[v0, v1, v2] := by cases args; simp_all
  obtain ⟨rfl, rfl⟩ := trodVars_none hV
  have h0k := h0
  have h1k := h1
  have h2k := h2
  have hlt0 : ∀ x ∈ p0, x.block < W.heap.size := fun x hx => by have := hW'.lt x (by simp [hx]); simpa using this
  have hlt1 : ∀ x ∈ p1, x.block < W.heap.size := fun x hx => by have := hW'.lt x (by simp [hx]); simpa using this
  have hlt2 : ∀ x ∈ p2, x.block < W.heap.size := fun x hx => by have := hW'.lt x (by simp [hx]); simpa using this
  obtain ⟨tA, tn, tc, t, rfl, ht⟩ := open_tree (hval 0 24 v0 rfl rfl) h0 hsz (j := 0) rfl rfl
  obtain ⟨own, ownA, ownn, ownc, rfl, hown⟩ := open_Ints Try.underlying25 Try.underlying33 (by kernel_rfl) (by kernel_rfl) (hval 1 25 v1 rfl rfl) h1 hsz (j := 1) rfl rfl
  obtain ⟨i, rfl, hi1, hi2⟩ := open_I64 Try.underlying3 (hval 2 3 v2 rfl rfl) h2
  clear hA0 hval0
  simp only [List.append_nil] at hW'
  refine (WeightNode_walk tA tn tc t ht ownA ownn ownc own hown i hi1 hi2 (w := W)).mono fun e W' ⟨he, hg⟩ => ?_
  subst he
  exact ⟨_, rfl, post_law (pa := p0 ++ (p1 ++ (p2 ++ []))) (pv := []) hW' (fun _ _ _ => (trodAll_cons_mk (shut_bool Try.underlying4 _) trodAll_mk0))
    (trodAll_cons_mk (Below.trod laidOut (by kernel_rfl) (of_decide_eq_true (by kernel_rfl)) h0k hg.out hlt0) (trodAll_cons_mk (Below.trod laidOut (by kernel_rfl) (of_decide_eq_true (by kernel_rfl)) h1k hg.out hlt1) (trodAll_cons_mk (Below.trod laidOut (by kernel_rfl) (of_decide_eq_true (by kernel_rfl)) h2k hg.out hlt2) trodAll_mk0))) rfl (by simp) hg⟩
theorem WeightNode_holds : Rows.WeightNodeSaid :=
  OpenClaim.holds_of_wide 8 Try.f8 rfl rfl rfl rfl rfl rfl rfl ⟨rfl, rfl, rfl, rfl, rfl⟩ rfl rfl rfl rfl rfl (by kernel_rfl) Try.func8 (by kernel_rfl)
    (of_decide_eq_true (by kernel_rfl)) (by unfold Func.isWrapper; first | (rw [if_pos (by decide +kernel)]; kernel_rfl) | (rw [if_neg (by decide +kernel)]; exact ⟨rfl, rfl⟩))
    (fun os started H enc _ => WeightNode_lifted os started H enc)
#print axioms WeightNode_holds
end Go.Proofs.Ytdeeplfbdoapmaa
