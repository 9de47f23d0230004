/- ViewLeads: what leads on is a leaf that may be a head or has a child that leads on, and is above, or behind, what is final; for every tree, number and places. -/
import Derived.Test.YtophpemlaecglaaViewLaw
namespace Go.Proofs.Ytophpemlaecglaa
open Go.RowKit Go.WideShapes Go.ChangeShapes
set_option linter.unusedVariables false
set_option linter.unusedSimpArgs false
set_option linter.unusedSectionVars false






theorem any_take {L : List Nat} {k c : Nat} (h : L[k]? = some c) (o : Nat → Bool) : (L.take (k + 1)).any o = ((L.take k).any o || o c) := by
  rw [List.take_add_one, h]; simp
set_option maxHeartbeats 2000000 in
theorem ViewLeads_walk {w : World} (tA : Option Addr) (tn tc : Nat) (t : List Node) (ht : NL w tA tn tc t) (j : Nat) (hj : j < 18446744073709551616) (f : Int) (f1 : -9223372036854775808 ≤ f) (f2 : f ≤ 9223372036854775807) (i : Int) (i1 : -9223372036854775808 ≤ i) (i2 : i ≤ 9223372036854775807) :
    Calls Try.prog 4 #[.agg #[.slice tA tn tc], .int .u64 j, .int .i64 f, .int .i64 i] w fun e' w' => e' = .returned (.bool true) ∧ Ext w w' := by
  have hlen := ht.len
  have hroom := ht.row.room
  have HAW := Lib.hid (fun W => awake_any W)
  have HV := Lib.hid (fun W (k : Ext w W) => ht.ext k)
  have HM := Lib.hid (fun b (hb : Tree.mayV t = b) W (k : Ext w W) => treeMay_is tA tn tc t b hb W (ht.ext k))
  cases hm : Tree.mayV t with
  | false =>
    go_enter Try.func4, Try.ntmps4
    try simp only [List.append_eq, List.cons_append, List.nil_append]
    go_wp2_with fail
    refine (HAW.out _).mono ?_
    rintro e0 w0 ⟨rfl, hx0⟩
    have k0 : Ext w w0 := Ext.trans ((by repeat (first | assumption | exact Ext.refl _ | refine Ext.alloc ?_ _ | refine Ext.drew ?_ | refine Ext.drewN ?_ _ | refine Ext.setCell ?_ (by first | (simp; done) | omega | (simp; omega)) _ | refine Ext.trans (by assumption) ?_))) hx0
    have t0 := hx0.cell (p := ⟨w.heap.size, 0, none⟩) (v := .slice tA tn tc) (by first | (simp; done) | (simp (maxDischargeDepth := 7) [go_sem]; done))
    go_wp2_with fail
    refine (HM.out false hm _ k0).mono ?_
    rintro e1 w1 ⟨rfl, hx1⟩
    have k1 : Ext w w1 := k0.trans hx1
    replace t0 := hx1.cell t0
    go_wp2
    go_ret
    exact ⟨rfl, k1⟩
  | true =>
    have wf := wf_i64 f1 f2
    have wi := wf_i64 i1 i2
    by_cases hok : (0 ≤ f ∧ f < tn) ∧ 0 ≤ i ∧ i < tn
    · obtain ⟨⟨p1, p2⟩, p3, hin⟩ := hok
      obtain ⟨i, rfl⟩ := Int.eq_ofNat_of_zero_le p3
      obtain ⟨f, rfl⟩ := Int.eq_ofNat_of_zero_le p1
      replace hin : i < tn := by omega
      have gin : (i : Int) < tn := by omega
      have li : i < t.length := by omega
      have lf : f < t.length := by omega
      have h12 := Tree.len_le hm
      rw [hlen] at h12
      have HL := Lib.hid (fun W (kx : Ext w W) => vleads_may tA tn tc t hm j hj f wf W (ht.ext kx))
      have hKV : Tree.kidsV t (i : Int) = (Tree.kidsN t (i : Int)).map (fun k => ((k : Nat) : Int)) := by unfold Tree.kidsV; rw [Tree.isV_in hm (by omega) (by omega), if_pos rfl]
      have HK := Lib.hid (fun W (kx : Ext w W) => kids_any tA tn tc t i wi W (ht.ext kx))
      rw [hKV] at HK
      obtain ⟨lb, hlb⟩ : ∃ lb, View.leafV t j f (i : Int) = lb := ⟨_, rfl⟩
      have HLF := Lib.hid (fun W (kx : Ext w W) => vleaf_is tA tn tc t j hj f i wf wi lb hlb W (ht.ext kx))
      have hld : View.leadB t j f i = (lb || (Tree.kidsN t (i : Int)).any (View.leadB t j f)) := by
        apply Bool.eq_iff_iff.2
        rw [View.lead_kid hm, hlb]
        simp [li]
      have hkn := fun c (h : c ∈ Tree.kidsN t (i : Int)) => (Tree.mem_kidsN hm).1 h
      have hkl := Tree.kidsN_len t (i : Int)
      have hln := View.lead_line hm (j := j) (f := (f : Int)) li
      generalize Tree.kidsN t (i : Int) = K at *
      obtain ⟨a1, ha1⟩ : ∃ a, Tree.aboveV t i f = a := ⟨_, rfl⟩
      obtain ⟨a2, ha2⟩ : ∃ a, Tree.aboveV t f i = a := ⟨_, rfl⟩
      have HA1 := Lib.hid (fun W (kx : Ext w W) => above_is tA tn tc t i f wi wf a1 ha1 W (ht.ext kx))
      have HA2 := Lib.hid (fun W (kx : Ext w W) => above_is tA tn tc t f i wf wi a2 ha2 W (ht.ext kx))
      replace hln : View.leadB t (j : Nat) (f : Int) i = true → a1 = true ∨ a2 = true := fun h => by
        obtain ⟨_, _, _, h⟩ := hln h
        rwa [ha1, ha2] at h
      generalize View.leadB t j f = ld at *
      have q1 : decide ((f : Int) < 0) = false := decide_eq_false (by omega)
      have q2 : decide (tn ≤ f) = false := decide_eq_false (by omega)
      have q3 : decide ((i : Int) < 0) = false := decide_eq_false (by omega)
      have q4 : decide (tn ≤ i) = false := decide_eq_false (by omega)
      have HLD := Lib.hid hld
      have HLN := Lib.hid hln
      have HKN := Lib.hid (fun c (h : c ∈ K) => (by have := (hkn c h).1; omega : c < tn))
      have HKL := Lib.hid hkl
      clear hld hln hkn hkl ha1 ha2 hlb hKV
      go_enter Try.func4, Try.ntmps4
      try simp only [List.append_eq, List.cons_append, List.nil_append]
      go_wp2_with fail
      refine (HAW.out _).mono ?_
      rintro e0 w0 ⟨rfl, hx0⟩
      have k0 : Ext w w0 := Ext.trans ((by repeat (first | assumption | exact Ext.refl _ | refine Ext.alloc ?_ _ | refine Ext.drew ?_ | refine Ext.drewN ?_ _ | refine Ext.setCell ?_ (by first | (simp; done) | omega | (simp; omega)) _ | refine Ext.trans (by assumption) ?_))) hx0
      have t0 := hx0.cell (p := ⟨w.heap.size, 0, none⟩) (v := .slice tA tn tc) (by first | (simp; done) | (simp (maxDischargeDepth := 7) [go_sem]; done))
      go_wp2_with fail
      refine (HM.out true hm _ k0).mono ?_
      rintro e1 w1 ⟨rfl, hx1⟩
      have k1 : Ext w w1 := k0.trans hx1
      replace t0 := hx1.cell t0
      clear HAW HM hm HV ht
      go_wp2_with fail
      refine (HL.out _ k1).mono ?_
      rintro e2 w2 ⟨⟨B, d, rfl, hB⟩, hx2⟩
      have k2 : Ext w w2 := k1.trans hx2
      replace t0 := hx2.cell t0
      obtain ⟨bl, bo, rfl, cs⟩ := hB (by omega)
      clear hB
      go_wp2_with fail
      refine (HK.out _ k2).mono ?_
      rintro e3 w3 ⟨⟨v, rfl, ⟨KA, m, kd, rfl, hKi⟩⟩, hx3⟩
      have k3 : Ext w w3 := k2.trans hx3
      replace t0 := hx3.cell t0
      have hkm : K.length = m := by have := hKi.len; rwa [List.length_map] at this
      have HKM := Lib.hid hkm
      have hm12 : m ≤ 12 := by have := HKL.out; omega
      go_wp2_with fail
      refine (HLF.out _ k3).mono ?_
      rintro e4 w4 ⟨rfl, hx4⟩
      have k4 : Ext w w4 := k3.trans hx4
      replace t0 := hx4.cell t0
      have T0 := Lib.hid t0
      have CS := Lib.hid (fun W (kx : Ext w4 W) i hi => (hx3.trans (hx4.trans kx)).cell (cs i hi))
      have KI := Lib.hid (fun W (kx : Ext w4 W) => hKi.ext (hx4.trans kx))
      clear t0 cs hKi hkm
      go_wp2
      go_loopw [12, 13] (fun b' k' wr => ∃ k : Nat, k ≤ m ∧ k' = .int .i64 k ∧ b' = .bool (lb || (K.take k).any ld) ∧ Ext w4 wr) (fun _ k' _ => m - (intOf k').toNat)
      case atStart => exact ⟨0, Nat.zero_le _, rfl, by simp, Ext.refl _⟩
      case round =>
        obtain ⟨k, hk, rfl, rfl, hxr⟩ := hrel
        have kk := k4.trans hxr
        by_cases hlt : k < m
        · have gk : (k : Int) < m := by omega
          obtain ⟨c, hc⟩ : ∃ c, K[k]? = some c := ⟨_, List.getElem?_eq_getElem (by rw [HKM.out]; exact hlt)⟩
          obtain ⟨kb, ko, rfl, kcs⟩ := (KI.out _ hxr).cells (by omega)
          have dx := kcs k hlt
          rw [show nth (K.map (fun k => ((k : Nat) : Int))) k = (c : Int) from by simp [nth, List.getD, List.getElem?_map, hc]] at dx
          have hcn := HKN.out c (List.mem_of_getElem? hc)
          have gc : (c : Int) < tn := by omega
          have vc := CS.out _ hxr c hcn
          have hst := any_take hc ld
          have hst2 : (lb || (K.take (k + 1)).any ld) = ((lb || (K.take k).any ld) || ld c) := by rw [hst, Bool.or_assoc]
          obtain ⟨x1, hx1e⟩ : ∃ x1, (lb || (K.take (k + 1)).any ld) = x1 := ⟨_, rfl⟩
          rw [hx1e] at hst2
          have HX1 := Lib.hid hx1e
          generalize (lb || (K.take k).any ld) = x0 at hst2 ⊢
          generalize ld c = x2 at vc hst2
          have HST := Lib.hid hst2
          clear hst hst2 hc kcs hx1e
          cases x0 with
          | true =>
            have HE : Hid (x1 = true) := by show _ = _; rw [HST.out]; rfl
            clear vc dx
            go_wp2
            go_roundw
            case rel => exact ⟨k + 1, by omega, by go_num, by rw [HX1.out, HE.out], by assumption⟩
            case measure => simp [intOf]; omega
          | false =>
            have HE : Hid (x1 = x2) := by show _ = _; rw [HST.out]; rfl
            go_wp2
            go_roundw
            case rel => exact ⟨k + 1, by omega, by go_num, by rw [HX1.out, HE.out], by assumption⟩
            case measure => simp [intOf]; omega
        · obtain rfl : m = k := by omega
          have hall : ld i = (lb || (K.take m).any ld) := by rw [List.take_of_length_le (by rw [HKM.out]; exact Nat.le_refl _)]; exact HLD.out
          generalize (lb || (K.take m).any ld) = x0 at hall ⊢
          have vi := CS.out _ hxr i hin
          have hln := HLN.out
          rw [hall] at vi hln
          have tt := hxr.cell T0.out
          clear hall
          cases x0 with
          | false =>
            go_wp2
            go_ret
            exact ⟨rfl, kk⟩
          | true =>
            have hln := hln rfl
            cases a1 with
            | true =>
              go_wp2_with fail
              refine (HA1.out _ kk).mono ?_
              rintro e5 w5 ⟨rfl, hx5⟩
              go_wp2
              go_ret
              exact ⟨rfl, kk.trans hx5⟩
            | false =>
              obtain rfl : a2 = true := by rcases hln with h | h; cases h; exact h
              go_wp2_with fail
              refine (HA1.out _ kk).mono ?_
              rintro e5 w5 ⟨rfl, hx5⟩
              replace tt := hx5.cell tt
              go_wp2_with fail
              refine (HA2.out _ (kk.trans hx5)).mono ?_
              rintro e6 w6 ⟨rfl, hx6⟩
              go_wp2
              go_ret
              exact ⟨rfl, kk.trans (hx5.trans hx6)⟩
    · go_enter Try.func4, Try.ntmps4
      try simp only [List.append_eq, List.cons_append, List.nil_append]
      go_wp2_with fail
      refine (HAW.out _).mono ?_
      rintro e0 w0 ⟨rfl, hx0⟩
      have k0 : Ext w w0 := Ext.trans ((by repeat (first | assumption | exact Ext.refl _ | refine Ext.alloc ?_ _ | refine Ext.drew ?_ | refine Ext.drewN ?_ _ | refine Ext.setCell ?_ (by first | (simp; done) | omega | (simp; omega)) _ | refine Ext.trans (by assumption) ?_))) hx0
      have t0 := hx0.cell (p := ⟨w.heap.size, 0, none⟩) (v := .slice tA tn tc) (by first | (simp; done) | (simp (maxDischargeDepth := 7) [go_sem]; done))
      go_wp2_with fail
      refine (HM.out true hm _ k0).mono ?_
      rintro e1 w1 ⟨rfl, hx1⟩
      have k1 : Ext w w1 := k0.trans hx1
      replace t0 := hx1.cell t0
      clear HAW HM HV
      go_wp2_with fail
      all_goals (first | (go_ret; exact ⟨rfl, k1⟩) | (exfalso; apply hok; refine ⟨⟨?_, ?_⟩, ?_, ?_⟩ <;> omega))
set_option maxRecDepth 100000 in
theorem ViewLeads_lifted (os : Os) (started : os.Started) (H : Type) (enc : TypeId × Value → H) :
    ReturnsInHanded {} Try.checked os 4 .any (Rows.viewLeadsSpec.pre6 enc Try.prog Try.f4 Rows.viewLeadsRow.domain false) (Rows.viewLeadsSpec.post enc Try.prog Try.f4 false true false false) := by
  refine returnsInHanded_of_change_sized (C := Try.checked) own started (by kernel_rfl) Try.func4
    (ChangeSpec.witness6 (enc := enc) (C := Try.checked) false ⟨#[], #[.agg #[.slice none 0 0], .int .u64 0, .int .i64 0, .int .i64 0], []⟩ 8 (by kernel_rfl) (by kernel_rfl) (by kernel_rfl) (by kernel_rfl)) ?_
  intro W base args ds gs before hval0 hW _hcnd hsz0 _
  have hval : ∀ (j : Nat) t v, Try.f4.params[j]? = some t → args[j]? = some v → Value.okWide Try.prog W .any base t v := hval0
  have hsz : (DataW.weightsEach Try.prog (Try.f4.params.toList ++ Rows.viewLeadsSpec.plain.varTypes Try.prog) (ds ++ gs)).all (· ≤ reachBytes) = true := hsz0
  have hW' := hW
  obtain ⟨p, q, hA0, hV, rfl, hfz, hnd⟩ := hW
  have hA : DataW.TrodAll enc Try.prog W 0 (fun _ => true) true Try.f4.params.toList args.toList ds p := hA0
  rw [Try.params4] at hA hval hsz
  obtain ⟨v0, vs0, d0, ds0, p0, q0, hargs, rfl, rfl, h0, r0⟩ := trodAll_cons hA
  obtain ⟨v1, vs1, d1, ds1, p1, q1, rfl, rfl, rfl, h1, r1⟩ := trodAll_cons r0
  obtain ⟨v2, vs2, d2, ds2, p2, q2, rfl, rfl, rfl, h2, r2⟩ := trodAll_cons r1
  obtain ⟨v3, vs3, d3, ds3, p3, q3, rfl, rfl, rfl, h3, r3⟩ := trodAll_cons r2
  obtain ⟨rfl, rfl, rfl⟩ := trodAll_nil r3
  obtain rfl : args = #[v0, v1, v2, v3] := by cases args; simp_all
  obtain ⟨rfl, rfl⟩ := trodVars_none hV
  have h0k := h0
  have h1k := h1
  have h2k := h2
  have h3k := h3
  have hlt0 : ∀ x ∈ p0, x.block < W.heap.size := fun x hx => by have := hW'.lt x (by simp [hx]); simpa using this
  have hlt1 : ∀ x ∈ p1, x.block < W.heap.size := fun x hx => by have := hW'.lt x (by simp [hx]); simpa using this
  have hlt2 : ∀ x ∈ p2, x.block < W.heap.size := fun x hx => by have := hW'.lt x (by simp [hx]); simpa using this
  have hlt3 : ∀ x ∈ p3, x.block < W.heap.size := fun x hx => by have := hW'.lt x (by simp [hx]); simpa using this
  obtain ⟨tA, tn, tc, t, rfl, ht⟩ := open_tree (hval 0 24 v0 rfl rfl) h0 hsz (j := 0) rfl rfl
  obtain ⟨j, rfl, hj⟩ := open_U64 Try.underlying25 (hval 1 25 v1 rfl rfl) h1
  obtain ⟨f, rfl, hf1, hf2⟩ := open_I64 Try.underlying3 (hval 2 3 v2 rfl rfl) h2
  obtain ⟨i, rfl, hi1, hi2⟩ := open_I64 Try.underlying3 (hval 3 3 v3 rfl rfl) h3
  clear hA0 hval0
  simp only [List.append_nil] at hW'
  refine (ViewLeads_walk tA tn tc t ht j hj f hf1 hf2 i hi1 hi2 (w := W)).mono fun e W' ⟨he, hg⟩ => ?_
  subst he
  exact ⟨_, rfl, post_law (pa := p0 ++ (p1 ++ (p2 ++ (p3 ++ [])))) (pv := []) hW' (fun _ _ _ => (trodAll_cons_mk (shut_bool Try.underlying4 _) trodAll_mk0))
    (trodAll_cons_mk (Below.trod laidOut (by kernel_rfl) (of_decide_eq_true (by kernel_rfl)) h0k hg.out hlt0) (trodAll_cons_mk (Below.trod laidOut (by kernel_rfl) (of_decide_eq_true (by kernel_rfl)) h1k hg.out hlt1) (trodAll_cons_mk (Below.trod laidOut (by kernel_rfl) (of_decide_eq_true (by kernel_rfl)) h2k hg.out hlt2) (trodAll_cons_mk (Below.trod laidOut (by kernel_rfl) (of_decide_eq_true (by kernel_rfl)) h3k hg.out hlt3) trodAll_mk0)))) rfl (by simp) hg⟩
theorem ViewLeads_holds : Rows.ViewLeadsSaid :=
  OpenClaim.holds_of_wide 4 Try.f4 rfl rfl rfl rfl rfl rfl rfl ⟨rfl, rfl, rfl, rfl, rfl⟩ rfl rfl rfl rfl rfl (by kernel_rfl) Try.func4 (by kernel_rfl)
    (of_decide_eq_true (by kernel_rfl)) (by unfold Func.isWrapper; first | (rw [if_pos (by decide +kernel)]; kernel_rfl) | (rw [if_neg (by decide +kernel)]; exact ⟨rfl, rfl⟩))
    (fun os started H enc _ => ViewLeads_lifted os started H enc)
#print axioms ViewLeads_holds
end Go.Proofs.Ytophpemlaecglaa
