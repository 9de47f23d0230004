/- TreeCut: what is cut may be, has just those that descend from the one, and between them all is as it was; for every tree, three places and a slot. -/
import Derived.Test.YtoifhpcpahfddaaTreeAwake
import Derived.Test.YtoifhpcpahfddaaTreeCutLaw
import Derived.Test.YtoifhpcpahfddaaQuietX
namespace Go.Proofs.Ytoifhpcpahfddaa
open Go.RowKit Go.WideShapes Go.ChangeShapes Go.Sort
set_option linter.unusedVariables false
set_option linter.unusedSimpArgs false
set_option linter.unusedSectionVars false






set_option maxHeartbeats 4000000 in
set_option maxRecDepth 100000 in
theorem TreeCut_walk {w : World} (tA : Option Addr) (tn tc : Nat) (t : List Node) (ht : NL w tA tn tc t) (i : Int) (i1 : -9223372036854775808 ≤ i) (i2 : i ≤ 9223372036854775807) (a : Int) (a1 : -9223372036854775808 ≤ a) (a2 : a ≤ 9223372036854775807) (b : Int) (b1 : -9223372036854775808 ≤ b) (b2 : b ≤ 9223372036854775807) (s : Nat) (hs : s < 18446744073709551616) :
    Calls Try.prog 5 #[.agg #[.slice tA tn tc], .int .i64 i, .int .i64 a, .int .i64 b, .int .u64 s] w fun e' w' => e' = .returned (.bool true) ∧ Ext w w' := by
  have hlen := ht.len
  have hroom := ht.row.room
  have HAW := Lib.hid (fun W => awake_any W)
  have HV := Lib.hid (fun W (k : Ext w W) => ht.ext k)
  have HM := Lib.hid (fun b (hb : Tree.mayV t = b) W (k : Ext w W) => treeMay_is tA tn tc t b hb W (ht.ext k))
  cases hm : Tree.mayV t with
  | false =>
    go_enter Try.func5, Try.ntmps5
    try simp only [List.append_eq, List.cons_append, List.nil_append]
    go_wp2_with fail
    refine (HAW.out _).mono ?_
    rintro e0 w0 ⟨rfl, hx0⟩
    have k0 : Ext w w0 := Ext.trans ((by repeat (first | assumption | exact Ext.refl _ | refine Ext.alloc ?_ _ | refine Ext.drew ?_ | refine Ext.drewN ?_ _ | refine Ext.setCell ?_ (by first | (simp; done) | omega | (simp; omega)) _ | refine Ext.trans (by assumption) ?_))) hx0
    have t0 := hx0.cell (p := ⟨w.heap.size, 0, none⟩) (v := .slice tA tn tc) (by first | (simp; done) | (simp (maxDischargeDepth := 7) [go_sem]; done))
    go_wp2_with fail
    refine (HM.out false hm _ k0).mono ?_
    rintro e1 w1 ⟨rfl, hx1⟩
    have k1 : Ext w w1 := k0.trans hx1
    replace t0 := hx1.cell t0
    go_wp2
    go_ret
    exact ⟨rfl, k1⟩
  | true =>
    by_cases hok : (0 ≤ i ∧ i < tn) ∧ (0 ≤ a ∧ a < tn) ∧ 0 ≤ b ∧ b < tn
    · obtain ⟨⟨pi, qi⟩, ⟨pa, qa⟩, pb, qb⟩ := hok
      obtain ⟨i, rfl⟩ := Int.eq_ofNat_of_zero_le pi
      obtain ⟨a, rfl⟩ := Int.eq_ofNat_of_zero_le pa
      obtain ⟨b, rfl⟩ := Int.eq_ofNat_of_zero_le pb
      have li : i < t.length := by omega
      have la : a < t.length := by omega
      have lb : b < t.length := by omega
      have hin : i < tn := by omega
      have hna : a < tn := by omega
      have hnb : b < tn := by omega
      have h12 := Tree.len_le hm
      rw [hlen] at h12
      have wi := wf_i64 i1 i2
      have wa := wf_i64 a1 a2
      have wb := wf_i64 b1 b2
      obtain ⟨C, hC⟩ : ∃ C, Tree.cutTo t i t.length = C := ⟨_, rfl⟩
      have hCV : Tree.cutV t (i : Int) = C := by unfold Tree.cutV; rw [Tree.isV_in hm (by omega) (by omega), if_pos rfl, Int.toNat_natCast, hC]
      have HC := Lib.hid (fun W (kx : Ext w W) => cut_any tA tn tc t i wi W (ht.ext kx))
      rw [hCV] at HC
      have HCM := Lib.hid (hC ▸ Tree.cut_may hm li)
      have hclen : 0 < C.length := Tree.len_pos HCM.out
      have HC0 : Hid ((Tree.nd C 0).root = (Tree.nd t i).root) := by
        show _ = _
        rw [← hC, Tree.nd_cut (j := i) (by have := Tree.pos_get li (Tree.mem_self t i); rwa [Tree.pos_self li] at this)]
      have s1 : decide ((i : Int) < 0) = false := decide_eq_false (by omega)
      have s2 : decide ((a : Int) < 0) = false := decide_eq_false (by omega)
      have s3 : decide ((b : Int) < 0) = false := decide_eq_false (by omega)
      have s4 : decide (tn ≤ i) = false := decide_eq_false (by omega)
      have s5 : decide (tn ≤ a) = false := decide_eq_false (by omega)
      have s6 : decide (tn ≤ b) = false := decide_eq_false (by omega)
      have s7 : (i : Int) < tn := by omega
      have s8 : (a : Int) < tn := by omega
      have s9 : (b : Int) < tn := by omega
      have s10 : (0 : Int) < (C.length : Int) := by omega
      by_cases hka : i ∈ Tree.line t a
      · have hia := (Tree.above_iff hm li la).2 hka
        have HIA := Lib.hid (fun W (kx : Ext w W) => above_is tA tn tc t i a wi wa true hia W (ht.ext kx))
        obtain ⟨x, hx⟩ : ∃ x, Tree.posK t i a = x := ⟨_, rfl⟩
        have HX : Hid (Tree.findV C (Tree.nd t a).root = (x : Int)) := by show _ = _; rw [← hC, Tree.find_kept hm li la hka, hx]
        have hxl := Tree.pos_lt_len la hka
        by_cases hkb : i ∈ Tree.line t b
        · obtain ⟨y, hy⟩ : ∃ y, Tree.posK t i b = y := ⟨_, rfl⟩
          have HY : Hid (Tree.findV C (Tree.nd t b).root = (y : Int)) := by show _ = _; rw [← hC, Tree.find_kept hm li lb hkb, hy]
          have hyl := Tree.pos_lt_len lb hkb
          rw [hx, ← Tree.cut_len, hC] at hxl
          rw [hy, ← Tree.cut_len, hC] at hyl
          have hcl := Tree.kept_len t i t.length
          rw [← Tree.cut_len, hC] at hcl
          have habeq : Tree.aboveV C x y = Tree.aboveV t a b := by
            rw [Tree.above_eq HCM.out hxl hyl, Tree.above_eq hm la lb, decide_eq_decide, ← hC, ← hx, ← hy]
            exact Tree.line_cut hm li (Tree.pos_get lb hkb) (Tree.pos_get la hka)
          have hat := Tree.at_cut hm li la hka s
          obtain ⟨si, hsi⟩ : ∃ si, (Tree.nd t i).slot = si := ⟨_, rfl⟩
          rw [hC, hx, hsi] at hat
          have HSI := Lib.hid hsi
          obtain ⟨v, hv⟩ : ∃ v, Tree.aboveV t a b = v := ⟨_, rfl⟩
          rw [hv] at habeq
          have wx : (Lit.int .i64 (x : Int)).wf = true := wf_i64 (by omega) (by omega)
          have wy : (Lit.int .i64 (y : Int)).wf = true := wf_i64 (by omega) (by omega)
          have HAB := Lib.hid (fun W (kx : Ext w W) => above_is tA tn tc t a b wa wb v hv W (ht.ext kx))
          have HABC := Lib.hid habeq
          have HAT := Lib.hid hat
          have HQR := Lib.hid (fun p q (h : (Tree.keptTo t i t.length)[p]? = some q) => (by rw [← hC, Tree.nd_cut h] : (Tree.nd C p).root = (Tree.nd t q).root))
          have HATT := Lib.hid (fun z (hz : Tree.atV t (a : Int) s = z) W (kx : Ext w W) => at_is tA tn tc t a wa s hs z hz W (ht.ext kx))
          clear hat habeq hv hsi hx hy hka hkb hia hC hCV
          go_enter Try.func5, Try.ntmps5
          try simp only [List.append_eq, List.cons_append, List.nil_append]
          go_wp2_with fail
          refine (HAW.out _).mono ?_
          rintro e0 w0 ⟨rfl, hx0⟩
          have k0 : Ext w w0 := Ext.trans ((by repeat (first | assumption | exact Ext.refl _ | refine Ext.alloc ?_ _ | refine Ext.drew ?_ | refine Ext.drewN ?_ _ | refine Ext.setCell ?_ (by first | (simp; done) | omega | (simp; omega)) _ | refine Ext.trans (by assumption) ?_))) hx0
          have t0 := hx0.cell (p := ⟨w.heap.size, 0, none⟩) (v := .slice tA tn tc) (by first | (simp; done) | (simp (maxDischargeDepth := 7) [go_sem]; done))
          go_wp2_with fail
          refine (HM.out true hm _ k0).mono ?_
          rintro e1 w1 ⟨rfl, hx1⟩
          have k1 : Ext w w1 := k0.trans hx1
          replace t0 := hx1.cell t0
          clear HAW HM hm ht
          go_wp2_with fail
          refine (HC.out _ k1).mono ?_
          rintro e2 w2 ⟨⟨A2, m, c2, rfl, h2⟩, hx2⟩
          have k2 := k1.trans hx2
          replace t0 := hx2.cell t0
          have tl := lt_of_cell t0
          have hm2 := h2.len
          go_upto_region 5 with fail
          obtain ⟨w3, hw3⟩ : ∃ w3, w2.alloc (.cells #[.slice A2 m c2] 24) = w3 := ⟨_, rfl⟩
          have x3 : Ext w2 w3 := by rw [← hw3]; exact (by repeat (first | assumption | exact Ext.refl _ | refine Ext.alloc ?_ _ | refine Ext.drew ?_ | refine Ext.drewN ?_ _ | refine Ext.setCell ?_ (by first | (simp; done) | omega | (simp; omega)) _ | refine Ext.trans (by assumption) ?_))
          have b0 : w3.cell? ⟨w2.heap.size, 0, none⟩ = some (.slice A2 m c2) := by rw [← hw3]; simp
          rw [hw3]
          clear hw3
          have hbne : w.heap.size ≠ w2.heap.size := by replace tl : w.heap.size < w2.heap.size := tl; omega
          generalize w2.heap.size = Bc at b0 hbne ⊢
          replace t0 := x3.cell t0
          have k3 := k2.trans x3
          have H2 := Lib.hid (fun W (k : Ext w3 W) => h2.ext (x3.trans k))
          have HF := Lib.hid (fun r xx (hr : RootOk r) (hx : Tree.findV C r = xx) W (kx : Ext w3 W) => find_is A2 m c2 C r hr xx hx W (H2.out W kx))
          have HMC := Lib.hid (fun W (kx : Ext w3 W) => treeMay_is A2 m c2 C true HCM.out W (H2.out W kx))
          obtain ⟨bb, off, rfl, hra, hoka⟩ := (HV.out _ k3).at' hna
          obtain ⟨bb', off', e', hrb, hokb⟩ := (HV.out _ k3).at' hnb
          cases e'
          obtain ⟨bb', off', e', hri, hoki⟩ := (HV.out _ k3).at' hin
          cases e'
          have rA := range_root0 hra
          have rB := range_root0 hrb
          have rI := range_root0 hri
          have dI := rangeAt_head hri (Node.at33 hoki)
          have okA := hoka.1
          have okB := hokb.1
          have okI := hoki.1
          change w3.rangeAt _ _ (rootC (Tree.nd t a).root) at rA
          change w3.rangeAt _ _ (rootC (Tree.nd t b).root) at rB
          change w3.rangeAt _ _ (rootC (Tree.nd t i).root) at rI
          change World.cell? _ _ = some (.int .u64 (Tree.nd t i).slot) at dI
          change RootOk (Tree.nd t a).root at okA
          change RootOk (Tree.nd t b).root at okB
          change RootOk (Tree.nd t i).root at okI
          obtain ⟨cb, co, rfl, hr0, hok0⟩ := (H2.out _ (Ext.refl _)).at' (i := 0) (by omega)
          have r0 := range_root0 hr0
          change w3.rangeAt _ _ (rootC (Tree.nd C 0).root) at r0
          rw [HC0.out] at r0
          simp only [Nat.zero_mul, Nat.add_zero] at r0
          have fA := fun W kx => HF.out _ _ okA HX.out W kx
          have fB := fun W kx => HF.out _ _ okB HY.out W kx
          have iA : (Try.prog.info? 32).map (·.size) = some (rootC (Tree.nd t a).root).length := by rw [rootC_len okA]; kernel_rfl
          have iB : (Try.prog.info? 32).map (·.size) = some (rootC (Tree.nd t b).root).length := by rw [rootC_len okB]; kernel_rfl
          have iI : (Try.prog.info? 32).map (·.size) = some (rootC (Tree.nd t i).root).length := by rw [rootC_len okI]; kernel_rfl
          have qI : ∀ W, (binOp .neq 32 (.agg (rootC (Tree.nd t i).root).toArray) (.agg (rootC (Tree.nd t i).root).toArray)).run Try.prog W = .ok (.bool false) W := fun W => root_neq okI okI (b := true) (by simp) W
          have FA := Lib.hid fA
          have FB := Lib.hid fB
          clear hra hrb hri hoka hokb hoki hr0 hok0 fA fB HF h2 okA okB
          have z0 := fun p => cell_in t0 p
          have z1 := fun p => cell_in b0 p
          refine wp_region_quiet_below (by kernel_rfl) (by kernel_rfl) ?_
          repeat (first | go_big_quiet_skip | (go_big_quiet_want; first | ((refine quiet_load_mid 32 _ rfl _ _ rfl (rootC (Tree.nd t a).root) _ (fun W ⟨p, hp⟩ => hp ▸ rangeAt_ext rA (ext_regrown _ p)) Try.underlying32 rfl iA ?_); (try simp only [Act.put, List.setIfInBounds_toArray, List.set_cons_zero, List.set_cons_succ]); go_big_quiet_on) | (go_big_quiet_op; first | go_big_quiet_on | go_big_quiet_call ((go_at_call 16; exact regrown_ext (FA.out _ (ext_regrown _ _)))))))
          refine wpQuiet_nil ?_
          intro _ hw'
          obtain ⟨pq, hw''⟩ := hw'
          subst hw''
          have y4 := ext_regrown w3 pq
          replace t0 := z0 pq
          replace b0 := z1 pq
          clear z0 z1 rA iA FA
          generalize grow (redrawn w3 pq.d) pq.os = w4 at *
          have rB4 := rangeAt_ext rB y4
          have rI4 := rangeAt_ext rI y4
          have r04 := rangeAt_ext r0 y4
          have dI4 := y4.cell dI
          clear rB rI r0 dI
          go_wp2
          have z0 := fun p => cell_in t0 p
          have z1 := fun p => cell_in b0 p
          refine wp_region_quiet_below (by kernel_rfl) (by kernel_rfl) ?_
          repeat (first | go_big_quiet_skip | (go_big_quiet_want; first | ((refine quiet_load_mid 32 _ rfl _ _ rfl (rootC (Tree.nd t b).root) _ (fun W ⟨p, hp⟩ => hp ▸ rangeAt_ext rB4 (ext_regrown _ p)) Try.underlying32 rfl iB ?_); (try simp only [Act.put, List.setIfInBounds_toArray, List.set_cons_zero, List.set_cons_succ]); go_big_quiet_on) | (go_big_quiet_op; first | go_big_quiet_on | go_big_quiet_call ((go_at_call 16; exact regrown_ext (FB.out _ (y4.trans (ext_regrown _ _))))))))
          refine wpQuiet_nil ?_
          intro _ hw'
          obtain ⟨pq, hw''⟩ := hw'
          subst hw''
          have y5 := y4.trans (ext_regrown w4 pq)
          have rI5 := rangeAt_ext rI4 (ext_regrown w4 pq)
          have r05 := rangeAt_ext r04 (ext_regrown w4 pq)
          have dI5 := (ext_regrown w4 pq).cell dI4
          replace t0 := z0 pq
          replace b0 := z1 pq
          clear z0 z1 rB4 iB FB rI4 r04 dI4
          generalize grow (redrawn w4 pq.d) pq.os = w5 at *
          go_wp2
          have z0 := fun p => cell_in t0 p
          have z1 := fun p => cell_in b0 p
          refine wp_region_quiet_below (by kernel_rfl) (by kernel_rfl) ?_
          repeat (first | go_big_quiet_skip | (go_big_quiet_want; first | ((first | (refine quiet_load_mid 32 _ rfl _ _ rfl (rootC (Tree.nd t i).root) _ (fun W ⟨p, hp⟩ => hp ▸ rangeAt_ext r05 (ext_regrown _ p)) Try.underlying32 rfl iI ?_) | (refine quiet_load_mid 32 _ rfl _ _ rfl (rootC (Tree.nd t i).root) _ (fun W ⟨p, hp⟩ => hp ▸ rangeAt_ext rI5 (ext_regrown _ p)) Try.underlying32 rfl iI ?_)); (try simp only [Act.put, List.setIfInBounds_toArray, List.set_cons_zero, List.set_cons_succ]); go_big_quiet_on) | (go_big_quiet_op; first | go_big_quiet_on | go_big_quiet_call (first | (go_at_call 12; exact regrown_ext (HMC.out _ (y5.trans (ext_regrown _ _)))) | (go_at_call 13; exact regrown_ext (HIA.out _ (k3.trans (y5.trans (ext_regrown _ _)))))))))
          refine wpQuiet_nil ?_
          intro _ hw'
          obtain ⟨pq, hw''⟩ := hw'
          subst hw''
          have y6 := y5.trans (ext_regrown w5 pq)
          have dI6 := (ext_regrown w5 pq).cell dI5
          replace t0 := z0 pq
          replace b0 := z1 pq
          clear z0 z1 rI5 r05 dI5 iI qI HMC HIA
          generalize grow (redrawn w5 pq.d) pq.os = w6 at *
          have k6 := k3.trans y6
          go_wp2
          have hvv : (v != v) = false := by simp
          have z0 := fun p => cell_in t0 p
          have z1 := fun p => cell_in b0 p
          have HABC2 := Lib.hid (fun W (kx : Ext w3 W) => above_is (some ⟨cb, co, none⟩) m c2 C x y wx wy v HABC.out W (H2.out W kx))
          refine wp_region_quiet_below (by kernel_rfl) (by kernel_rfl) ?_
          repeat (first | go_big_quiet_skip | (go_big_quiet_want; first | ((fail); (try simp only [Act.put, List.setIfInBounds_toArray, List.set_cons_zero, List.set_cons_succ]); go_big_quiet_on) | (go_big_quiet_op; first | go_big_quiet_on | go_big_quiet_call (first | (go_at_call 13; with_reducible (show Calls _ _ #[Value.agg #[Value.slice (some ⟨cb, co, none⟩) m c2], _, _] _ _); exact regrown_ext (HABC2.out _ (y6.trans (ext_regrown _ _)))) | (go_at_call 13; exact regrown_ext (HAB.out _ (k6.trans (ext_regrown _ _))))))))
          refine wpQuiet_nil ?_
          intro _ hw'
          obtain ⟨pq, hw''⟩ := hw'
          subst hw''
          have y7 := y6.trans (ext_regrown w6 pq)
          have dI7 := (ext_regrown w6 pq).cell dI6
          replace t0 := z0 pq
          replace b0 := z1 pq
          clear z0 z1 dI6 HAB HABC HABC2
          generalize grow (redrawn w6 pq.d) pq.os = w7 at *
          have k7 := k3.trans y7
          rw [HSI.out] at dI7
          obtain ⟨zq, hzq⟩ : ∃ z, Tree.atV t (a : Int) s = z := ⟨_, rfl⟩
          obtain ⟨zp, hzp⟩ : ∃ z, Tree.atV C (x : Int) s = z := ⟨_, rfl⟩
          have hat := HAT.out
          rw [hzq, hzp] at hat
          have HTQ := Lib.hid (HATT.out zq hzq)
          have HTP := Lib.hid (fun W (kx : Ext w3 W) => at_is (some ⟨cb, co, none⟩) m c2 C x wx s hs zp hzp W (H2.out W kx))
          clear HAT HATT hzq hzp
          go_wp2_with fail
          refine (HTP.out _ y7).mono ?_
          rintro e8 w8 ⟨rfl, hx8⟩
          have y8 := y7.trans hx8
          replace t0 := hx8.cell t0
          replace b0 := hx8.cell b0
          have dI8 := hx8.cell dI7
          go_wp2_with fail
          refine (HTQ.out _ (k3.trans y8)).mono ?_
          rintro e9 w9 ⟨rfl, hx9⟩
          have y9 := y8.trans hx9
          have k9 := k3.trans y9
          replace t0 := hx9.cell t0
          replace b0 := hx9.cell b0
          have dI9 := hx9.cell dI8
          clear dI7 dI8 HTP HTQ
          rcases hat with ⟨hsl, hp⟩ | ⟨hsl, p, q, hp, hq, hpl, hql, hpq⟩
          · subst hp
            have gs : (s : Int) < si := by omega
            clear hsl
            go_wp2
            go_ret
            exact ⟨rfl, k9⟩
          · subst hp hq
            have gs : ¬ (s : Int) < si := by omega
            have gs2 : decide (s < si) = false := decide_eq_false (by omega)
            have hrr := HQR.out p q hpq
            obtain ⟨bb', off', e', hrq, hokq⟩ := (HV.out _ k9).at' (i := q) (by omega)
            cases e'
            obtain ⟨bb', off', e', hrp, hokp⟩ := (H2.out _ y9).at' (i := p) (by omega)
            cases e'
            have rq := range_root0 hrq
            have rp := range_root0 hrp
            change w9.rangeAt _ _ (rootC (Tree.nd t q).root) at rq
            change w9.rangeAt _ _ (rootC (Tree.nd C p).root) at rp
            rw [hrr] at rp
            have okq := hokq.1
            change RootOk (Tree.nd t q).root at okq
            have iq : (Try.prog.info? 32).map (·.size) = some (rootC (Tree.nd t q).root).length := by rw [rootC_len okq]; kernel_rfl
            have qq : ∀ W, (binOp .eql 32 (.agg (rootC (Tree.nd t q).root).toArray) (.agg (rootC (Tree.nd t q).root).toArray)).run Try.prog W = .ok (.bool true) W := fun W => root_eql okq okq (b := true) (by simp) W
            have gp1 : (p : Int) < m := by omega
            have gq1 : (q : Int) < tn := by omega
            clear hrr hrq hrp hokq hokp hpq hsl hpl hql
            go_wp2
            have z0 := fun p => cell_in t0 p
            have z1 := fun p => cell_in b0 p
            refine wp_region_quiet_below (by kernel_rfl) (by kernel_rfl) ?_
            repeat (first | go_big_quiet_skip | (go_big_quiet_want; first | ((first | (refine quiet_load_mid 32 _ rfl _ _ rfl (rootC (Tree.nd t q).root) _ (fun W ⟨p, hp⟩ => hp ▸ rangeAt_ext rp (ext_regrown _ p)) Try.underlying32 rfl iq ?_) | (refine quiet_load_mid 32 _ rfl _ _ rfl (rootC (Tree.nd t q).root) _ (fun W ⟨p, hp⟩ => hp ▸ rangeAt_ext rq (ext_regrown _ p)) Try.underlying32 rfl iq ?_)); (try simp only [Act.put, List.setIfInBounds_toArray, List.set_cons_zero, List.set_cons_succ]); go_big_quiet_on) | (go_big_quiet_op; first | go_big_quiet_on | go_big_quiet_call (fail))))
            refine wpQuiet_nil ?_
            intro _ hw'
            obtain ⟨pq, hw''⟩ := hw'
            subst hw''
            go_wp2
            go_ret
            exact ⟨rfl, k9.trans (ext_regrown _ _)⟩
        · have HY : Hid (Tree.findV C (Tree.nd t b).root = -1) := by show _ = _; rw [← hC, Tree.find_gone hm li lb hkb]
          obtain ⟨y, hy⟩ : ∃ y : Int, y = -1 := ⟨_, rfl⟩
          rw [← hy] at HY
          clear hx hka hkb hia hC hCV
          subst hy
          go_enter Try.func5, Try.ntmps5
          try simp only [List.append_eq, List.cons_append, List.nil_append]
          go_wp2_with fail
          refine (HAW.out _).mono ?_
          rintro e0 w0 ⟨rfl, hx0⟩
          have k0 : Ext w w0 := Ext.trans ((by repeat (first | assumption | exact Ext.refl _ | refine Ext.alloc ?_ _ | refine Ext.drew ?_ | refine Ext.drewN ?_ _ | refine Ext.setCell ?_ (by first | (simp; done) | omega | (simp; omega)) _ | refine Ext.trans (by assumption) ?_))) hx0
          have t0 := hx0.cell (p := ⟨w.heap.size, 0, none⟩) (v := .slice tA tn tc) (by first | (simp; done) | (simp (maxDischargeDepth := 7) [go_sem]; done))
          go_wp2_with fail
          refine (HM.out true hm _ k0).mono ?_
          rintro e1 w1 ⟨rfl, hx1⟩
          have k1 : Ext w w1 := k0.trans hx1
          replace t0 := hx1.cell t0
          clear HAW HM hm ht
          go_wp2_with fail
          refine (HC.out _ k1).mono ?_
          rintro e2 w2 ⟨⟨A2, m, c2, rfl, h2⟩, hx2⟩
          have k2 := k1.trans hx2
          replace t0 := hx2.cell t0
          have tl := lt_of_cell t0
          have hm2 := h2.len
          go_upto_region 5 with fail
          obtain ⟨w3, hw3⟩ : ∃ w3, w2.alloc (.cells #[.slice A2 m c2] 24) = w3 := ⟨_, rfl⟩
          have x3 : Ext w2 w3 := by rw [← hw3]; exact (by repeat (first | assumption | exact Ext.refl _ | refine Ext.alloc ?_ _ | refine Ext.drew ?_ | refine Ext.drewN ?_ _ | refine Ext.setCell ?_ (by first | (simp; done) | omega | (simp; omega)) _ | refine Ext.trans (by assumption) ?_))
          have b0 : w3.cell? ⟨w2.heap.size, 0, none⟩ = some (.slice A2 m c2) := by rw [← hw3]; simp
          rw [hw3]
          clear hw3
          have hbne : w.heap.size ≠ w2.heap.size := by replace tl : w.heap.size < w2.heap.size := tl; omega
          generalize w2.heap.size = Bc at b0 hbne ⊢
          replace t0 := x3.cell t0
          have k3 := k2.trans x3
          have H2 := Lib.hid (fun W (k : Ext w3 W) => h2.ext (x3.trans k))
          have HF := Lib.hid (fun r xx (hr : RootOk r) (hx : Tree.findV C r = xx) W (kx : Ext w3 W) => find_is A2 m c2 C r hr xx hx W (H2.out W kx))
          have HMC := Lib.hid (fun W (kx : Ext w3 W) => treeMay_is A2 m c2 C true HCM.out W (H2.out W kx))
          obtain ⟨bb, off, rfl, hra, hoka⟩ := (HV.out _ k3).at' hna
          obtain ⟨bb', off', e', hrb, hokb⟩ := (HV.out _ k3).at' hnb
          cases e'
          obtain ⟨bb', off', e', hri, hoki⟩ := (HV.out _ k3).at' hin
          cases e'
          have rA := range_root0 hra
          have rB := range_root0 hrb
          have rI := range_root0 hri
          have dI := rangeAt_head hri (Node.at33 hoki)
          have okA := hoka.1
          have okB := hokb.1
          have okI := hoki.1
          change w3.rangeAt _ _ (rootC (Tree.nd t a).root) at rA
          change w3.rangeAt _ _ (rootC (Tree.nd t b).root) at rB
          change w3.rangeAt _ _ (rootC (Tree.nd t i).root) at rI
          change World.cell? _ _ = some (.int .u64 (Tree.nd t i).slot) at dI
          change RootOk (Tree.nd t a).root at okA
          change RootOk (Tree.nd t b).root at okB
          change RootOk (Tree.nd t i).root at okI
          obtain ⟨cb, co, rfl, hr0, hok0⟩ := (H2.out _ (Ext.refl _)).at' (i := 0) (by omega)
          have r0 := range_root0 hr0
          change w3.rangeAt _ _ (rootC (Tree.nd C 0).root) at r0
          rw [HC0.out] at r0
          simp only [Nat.zero_mul, Nat.add_zero] at r0
          have fA := fun W kx => HF.out _ _ okA HX.out W kx
          have fB := fun W kx => HF.out _ _ okB HY.out W kx
          have iA : (Try.prog.info? 32).map (·.size) = some (rootC (Tree.nd t a).root).length := by rw [rootC_len okA]; kernel_rfl
          have iB : (Try.prog.info? 32).map (·.size) = some (rootC (Tree.nd t b).root).length := by rw [rootC_len okB]; kernel_rfl
          have iI : (Try.prog.info? 32).map (·.size) = some (rootC (Tree.nd t i).root).length := by rw [rootC_len okI]; kernel_rfl
          have qI : ∀ W, (binOp .neq 32 (.agg (rootC (Tree.nd t i).root).toArray) (.agg (rootC (Tree.nd t i).root).toArray)).run Try.prog W = .ok (.bool false) W := fun W => root_neq okI okI (b := true) (by simp) W
          have FA := Lib.hid fA
          have FB := Lib.hid fB
          clear hra hrb hri hoka hokb hoki hr0 hok0 fA fB HF h2 okA okB
          have z0 := fun p => cell_in t0 p
          have z1 := fun p => cell_in b0 p
          refine wp_region_quiet_below (by kernel_rfl) (by kernel_rfl) ?_
          repeat (first | go_big_quiet_skip | (go_big_quiet_want; first | ((refine quiet_load_mid 32 _ rfl _ _ rfl (rootC (Tree.nd t a).root) _ (fun W ⟨p, hp⟩ => hp ▸ rangeAt_ext rA (ext_regrown _ p)) Try.underlying32 rfl iA ?_); (try simp only [Act.put, List.setIfInBounds_toArray, List.set_cons_zero, List.set_cons_succ]); go_big_quiet_on) | (go_big_quiet_op; first | go_big_quiet_on | go_big_quiet_call ((go_at_call 16; exact regrown_ext (FA.out _ (ext_regrown _ _)))))))
          refine wpQuiet_nil ?_
          intro _ hw'
          obtain ⟨pq, hw''⟩ := hw'
          subst hw''
          have y4 := ext_regrown w3 pq
          replace t0 := z0 pq
          replace b0 := z1 pq
          clear z0 z1 rA iA FA
          generalize grow (redrawn w3 pq.d) pq.os = w4 at *
          have rB4 := rangeAt_ext rB y4
          have rI4 := rangeAt_ext rI y4
          have r04 := rangeAt_ext r0 y4
          have dI4 := y4.cell dI
          clear rB rI r0 dI
          go_wp2
          have z0 := fun p => cell_in t0 p
          have z1 := fun p => cell_in b0 p
          refine wp_region_quiet_below (by kernel_rfl) (by kernel_rfl) ?_
          repeat (first | go_big_quiet_skip | (go_big_quiet_want; first | ((refine quiet_load_mid 32 _ rfl _ _ rfl (rootC (Tree.nd t b).root) _ (fun W ⟨p, hp⟩ => hp ▸ rangeAt_ext rB4 (ext_regrown _ p)) Try.underlying32 rfl iB ?_); (try simp only [Act.put, List.setIfInBounds_toArray, List.set_cons_zero, List.set_cons_succ]); go_big_quiet_on) | (go_big_quiet_op; first | go_big_quiet_on | go_big_quiet_call ((go_at_call 16; exact regrown_ext (FB.out _ (y4.trans (ext_regrown _ _))))))))
          refine wpQuiet_nil ?_
          intro _ hw'
          obtain ⟨pq, hw''⟩ := hw'
          subst hw''
          have y5 := y4.trans (ext_regrown w4 pq)
          have rI5 := rangeAt_ext rI4 (ext_regrown w4 pq)
          have r05 := rangeAt_ext r04 (ext_regrown w4 pq)
          have dI5 := (ext_regrown w4 pq).cell dI4
          replace t0 := z0 pq
          replace b0 := z1 pq
          clear z0 z1 rB4 iB FB rI4 r04 dI4
          generalize grow (redrawn w4 pq.d) pq.os = w5 at *
          go_wp2
          have z0 := fun p => cell_in t0 p
          have z1 := fun p => cell_in b0 p
          refine wp_region_quiet_below (by kernel_rfl) (by kernel_rfl) ?_
          repeat (first | go_big_quiet_skip | (go_big_quiet_want; first | ((first | (refine quiet_load_mid 32 _ rfl _ _ rfl (rootC (Tree.nd t i).root) _ (fun W ⟨p, hp⟩ => hp ▸ rangeAt_ext r05 (ext_regrown _ p)) Try.underlying32 rfl iI ?_) | (refine quiet_load_mid 32 _ rfl _ _ rfl (rootC (Tree.nd t i).root) _ (fun W ⟨p, hp⟩ => hp ▸ rangeAt_ext rI5 (ext_regrown _ p)) Try.underlying32 rfl iI ?_)); (try simp only [Act.put, List.setIfInBounds_toArray, List.set_cons_zero, List.set_cons_succ]); go_big_quiet_on) | (go_big_quiet_op; first | go_big_quiet_on | go_big_quiet_call (first | (go_at_call 12; exact regrown_ext (HMC.out _ (y5.trans (ext_regrown _ _)))) | (go_at_call 13; exact regrown_ext (HIA.out _ (k3.trans (y5.trans (ext_regrown _ _)))))))))
          refine wpQuiet_nil ?_
          intro _ hw'
          obtain ⟨pq, hw''⟩ := hw'
          subst hw''
          have y6 := y5.trans (ext_regrown w5 pq)
          have dI6 := (ext_regrown w5 pq).cell dI5
          replace t0 := z0 pq
          replace b0 := z1 pq
          clear z0 z1 rI5 r05 dI5 iI qI HMC HIA
          generalize grow (redrawn w5 pq.d) pq.os = w6 at *
          have k6 := k3.trans y6
          go_wp2
          go_ret
          exact ⟨rfl, k6⟩
      · have hia : Tree.aboveV t (i : Int) (a : Int) = false := by rw [Tree.above_eq hm li la]; exact decide_eq_false hka
        have HIA := Lib.hid (fun W (kx : Ext w W) => above_is tA tn tc t i a wi wa false hia W (ht.ext kx))
        have HX : Hid (Tree.findV C (Tree.nd t a).root = -1) := by show _ = _; rw [← hC, Tree.find_gone hm li la hka]
        obtain ⟨y, hy⟩ : ∃ y, Tree.findV C (Tree.nd t b).root = y := ⟨_, rfl⟩
        have HY := Lib.hid hy
        clear hy hka hia hC hCV
        go_enter Try.func5, Try.ntmps5
        try simp only [List.append_eq, List.cons_append, List.nil_append]
        go_wp2_with fail
        refine (HAW.out _).mono ?_
        rintro e0 w0 ⟨rfl, hx0⟩
        have k0 : Ext w w0 := Ext.trans ((by repeat (first | assumption | exact Ext.refl _ | refine Ext.alloc ?_ _ | refine Ext.drew ?_ | refine Ext.drewN ?_ _ | refine Ext.setCell ?_ (by first | (simp; done) | omega | (simp; omega)) _ | refine Ext.trans (by assumption) ?_))) hx0
        have t0 := hx0.cell (p := ⟨w.heap.size, 0, none⟩) (v := .slice tA tn tc) (by first | (simp; done) | (simp (maxDischargeDepth := 7) [go_sem]; done))
        go_wp2_with fail
        refine (HM.out true hm _ k0).mono ?_
        rintro e1 w1 ⟨rfl, hx1⟩
        have k1 : Ext w w1 := k0.trans hx1
        replace t0 := hx1.cell t0
        clear HAW HM hm ht
        go_wp2_with fail
        refine (HC.out _ k1).mono ?_
        rintro e2 w2 ⟨⟨A2, m, c2, rfl, h2⟩, hx2⟩
        have k2 := k1.trans hx2
        replace t0 := hx2.cell t0
        have tl := lt_of_cell t0
        have hm2 := h2.len
        go_upto_region 5 with fail
        obtain ⟨w3, hw3⟩ : ∃ w3, w2.alloc (.cells #[.slice A2 m c2] 24) = w3 := ⟨_, rfl⟩
        have x3 : Ext w2 w3 := by rw [← hw3]; exact (by repeat (first | assumption | exact Ext.refl _ | refine Ext.alloc ?_ _ | refine Ext.drew ?_ | refine Ext.drewN ?_ _ | refine Ext.setCell ?_ (by first | (simp; done) | omega | (simp; omega)) _ | refine Ext.trans (by assumption) ?_))
        have b0 : w3.cell? ⟨w2.heap.size, 0, none⟩ = some (.slice A2 m c2) := by rw [← hw3]; simp
        rw [hw3]
        clear hw3
        have hbne : w.heap.size ≠ w2.heap.size := by replace tl : w.heap.size < w2.heap.size := tl; omega
        generalize w2.heap.size = Bc at b0 hbne ⊢
        replace t0 := x3.cell t0
        have k3 := k2.trans x3
        have H2 := Lib.hid (fun W (k : Ext w3 W) => h2.ext (x3.trans k))
        have HF := Lib.hid (fun r xx (hr : RootOk r) (hx : Tree.findV C r = xx) W (kx : Ext w3 W) => find_is A2 m c2 C r hr xx hx W (H2.out W kx))
        have HMC := Lib.hid (fun W (kx : Ext w3 W) => treeMay_is A2 m c2 C true HCM.out W (H2.out W kx))
        obtain ⟨bb, off, rfl, hra, hoka⟩ := (HV.out _ k3).at' hna
        obtain ⟨bb', off', e', hrb, hokb⟩ := (HV.out _ k3).at' hnb
        cases e'
        obtain ⟨bb', off', e', hri, hoki⟩ := (HV.out _ k3).at' hin
        cases e'
        have rA := range_root0 hra
        have rB := range_root0 hrb
        have rI := range_root0 hri
        have dI := rangeAt_head hri (Node.at33 hoki)
        have okA := hoka.1
        have okB := hokb.1
        have okI := hoki.1
        change w3.rangeAt _ _ (rootC (Tree.nd t a).root) at rA
        change w3.rangeAt _ _ (rootC (Tree.nd t b).root) at rB
        change w3.rangeAt _ _ (rootC (Tree.nd t i).root) at rI
        change World.cell? _ _ = some (.int .u64 (Tree.nd t i).slot) at dI
        change RootOk (Tree.nd t a).root at okA
        change RootOk (Tree.nd t b).root at okB
        change RootOk (Tree.nd t i).root at okI
        obtain ⟨cb, co, rfl, hr0, hok0⟩ := (H2.out _ (Ext.refl _)).at' (i := 0) (by omega)
        have r0 := range_root0 hr0
        change w3.rangeAt _ _ (rootC (Tree.nd C 0).root) at r0
        rw [HC0.out] at r0
        simp only [Nat.zero_mul, Nat.add_zero] at r0
        have fA := fun W kx => HF.out _ _ okA HX.out W kx
        have fB := fun W kx => HF.out _ _ okB HY.out W kx
        have iA : (Try.prog.info? 32).map (·.size) = some (rootC (Tree.nd t a).root).length := by rw [rootC_len okA]; kernel_rfl
        have iB : (Try.prog.info? 32).map (·.size) = some (rootC (Tree.nd t b).root).length := by rw [rootC_len okB]; kernel_rfl
        have iI : (Try.prog.info? 32).map (·.size) = some (rootC (Tree.nd t i).root).length := by rw [rootC_len okI]; kernel_rfl
        have qI : ∀ W, (binOp .neq 32 (.agg (rootC (Tree.nd t i).root).toArray) (.agg (rootC (Tree.nd t i).root).toArray)).run Try.prog W = .ok (.bool false) W := fun W => root_neq okI okI (b := true) (by simp) W
        have FA := Lib.hid fA
        have FB := Lib.hid fB
        clear hra hrb hri hoka hokb hoki hr0 hok0 fA fB HF h2 okA okB
        have z0 := fun p => cell_in t0 p
        have z1 := fun p => cell_in b0 p
        refine wp_region_quiet_below (by kernel_rfl) (by kernel_rfl) ?_
        repeat (first | go_big_quiet_skip | (go_big_quiet_want; first | ((refine quiet_load_mid 32 _ rfl _ _ rfl (rootC (Tree.nd t a).root) _ (fun W ⟨p, hp⟩ => hp ▸ rangeAt_ext rA (ext_regrown _ p)) Try.underlying32 rfl iA ?_); (try simp only [Act.put, List.setIfInBounds_toArray, List.set_cons_zero, List.set_cons_succ]); go_big_quiet_on) | (go_big_quiet_op; first | go_big_quiet_on | go_big_quiet_call ((go_at_call 16; exact regrown_ext (FA.out _ (ext_regrown _ _)))))))
        refine wpQuiet_nil ?_
        intro _ hw'
        obtain ⟨pq, hw''⟩ := hw'
        subst hw''
        have y4 := ext_regrown w3 pq
        replace t0 := z0 pq
        replace b0 := z1 pq
        clear z0 z1 rA iA FA
        generalize grow (redrawn w3 pq.d) pq.os = w4 at *
        have rB4 := rangeAt_ext rB y4
        have rI4 := rangeAt_ext rI y4
        have r04 := rangeAt_ext r0 y4
        have dI4 := y4.cell dI
        clear rB rI r0 dI
        go_wp2
        have z0 := fun p => cell_in t0 p
        have z1 := fun p => cell_in b0 p
        refine wp_region_quiet_below (by kernel_rfl) (by kernel_rfl) ?_
        repeat (first | go_big_quiet_skip | (go_big_quiet_want; first | ((refine quiet_load_mid 32 _ rfl _ _ rfl (rootC (Tree.nd t b).root) _ (fun W ⟨p, hp⟩ => hp ▸ rangeAt_ext rB4 (ext_regrown _ p)) Try.underlying32 rfl iB ?_); (try simp only [Act.put, List.setIfInBounds_toArray, List.set_cons_zero, List.set_cons_succ]); go_big_quiet_on) | (go_big_quiet_op; first | go_big_quiet_on | go_big_quiet_call ((go_at_call 16; exact regrown_ext (FB.out _ (y4.trans (ext_regrown _ _))))))))
        refine wpQuiet_nil ?_
        intro _ hw'
        obtain ⟨pq, hw''⟩ := hw'
        subst hw''
        have y5 := y4.trans (ext_regrown w4 pq)
        have rI5 := rangeAt_ext rI4 (ext_regrown w4 pq)
        have r05 := rangeAt_ext r04 (ext_regrown w4 pq)
        have dI5 := (ext_regrown w4 pq).cell dI4
        replace t0 := z0 pq
        replace b0 := z1 pq
        clear z0 z1 rB4 iB FB rI4 r04 dI4
        generalize grow (redrawn w4 pq.d) pq.os = w5 at *
        go_wp2
        have z0 := fun p => cell_in t0 p
        have z1 := fun p => cell_in b0 p
        refine wp_region_quiet_below (by kernel_rfl) (by kernel_rfl) ?_
        repeat (first | go_big_quiet_skip | (go_big_quiet_want; first | ((first | (refine quiet_load_mid 32 _ rfl _ _ rfl (rootC (Tree.nd t i).root) _ (fun W ⟨p, hp⟩ => hp ▸ rangeAt_ext r05 (ext_regrown _ p)) Try.underlying32 rfl iI ?_) | (refine quiet_load_mid 32 _ rfl _ _ rfl (rootC (Tree.nd t i).root) _ (fun W ⟨p, hp⟩ => hp ▸ rangeAt_ext rI5 (ext_regrown _ p)) Try.underlying32 rfl iI ?_)); (try simp only [Act.put, List.setIfInBounds_toArray, List.set_cons_zero, List.set_cons_succ]); go_big_quiet_on) | (go_big_quiet_op; first | go_big_quiet_on | go_big_quiet_call (first | (go_at_call 12; exact regrown_ext (HMC.out _ (y5.trans (ext_regrown _ _)))) | (go_at_call 13; exact regrown_ext (HIA.out _ (k3.trans (y5.trans (ext_regrown _ _)))))))))
        refine wpQuiet_nil ?_
        intro _ hw'
        obtain ⟨pq, hw''⟩ := hw'
        subst hw''
        have y6 := y5.trans (ext_regrown w5 pq)
        have dI6 := (ext_regrown w5 pq).cell dI5
        replace t0 := z0 pq
        replace b0 := z1 pq
        clear z0 z1 rI5 r05 dI5 iI qI HMC HIA
        generalize grow (redrawn w5 pq.d) pq.os = w6 at *
        have k6 := k3.trans y6
        go_wp2
        go_ret
        exact ⟨rfl, k6⟩
    · go_enter Try.func5, Try.ntmps5
      try simp only [List.append_eq, List.cons_append, List.nil_append]
      go_wp2_with fail
      refine (HAW.out _).mono ?_
      rintro e0 w0 ⟨rfl, hx0⟩
      have k0 : Ext w w0 := Ext.trans ((by repeat (first | assumption | exact Ext.refl _ | refine Ext.alloc ?_ _ | refine Ext.drew ?_ | refine Ext.drewN ?_ _ | refine Ext.setCell ?_ (by first | (simp; done) | omega | (simp; omega)) _ | refine Ext.trans (by assumption) ?_))) hx0
      have t0 := hx0.cell (p := ⟨w.heap.size, 0, none⟩) (v := .slice tA tn tc) (by first | (simp; done) | (simp (maxDischargeDepth := 7) [go_sem]; done))
      go_wp2_with fail
      refine (HM.out true hm _ k0).mono ?_
      rintro e1 w1 ⟨rfl, hx1⟩
      have k1 : Ext w w1 := k0.trans hx1
      replace t0 := hx1.cell t0
      clear HAW HM HV
      go_wp2_with fail
      all_goals (first | (go_ret; exact ⟨rfl, k1⟩) | (exfalso; apply hok; refine ⟨⟨?_, ?_⟩, ⟨?_, ?_⟩, ?_, ?_⟩ <;> omega))
set_option maxRecDepth 100000 in
theorem TreeCut_lifted (os : Os) (started : os.Started) (H : Type) (enc : TypeId × Value → H) :
    ReturnsInHanded {} Try.checked os 5 .any (Rows.treeCutSpec.pre6 enc Try.prog Try.f5 Rows.treeCutRow.domain false) (Rows.treeCutSpec.post enc Try.prog Try.f5 false true false false) := by
  refine returnsInHanded_of_change_sized (C := Try.checked) own started (by kernel_rfl) Try.func5
    (ChangeSpec.witness6 (enc := enc) (C := Try.checked) false ⟨#[], #[.agg #[.slice none 0 0], .int .i64 0, .int .i64 0, .int .i64 0, .int .u64 0], []⟩ 8 (by kernel_rfl) (by kernel_rfl) (by kernel_rfl) (by kernel_rfl)) ?_
  intro W base args ds gs before hval0 hW _hcnd hsz0 _
  have hval : ∀ (j : Nat) t v, Try.f5.params[j]? = some t → args[j]? = some v → Value.okWide Try.prog W .any base t v := hval0
  have hsz : (DataW.weightsEach Try.prog (Try.f5.params.toList ++ Rows.treeCutSpec.plain.varTypes Try.prog) (ds ++ gs)).all (· ≤ reachBytes) = true := hsz0
  have hW' := hW
  obtain ⟨p, q, hA0, hV, rfl, hfz, hnd⟩ := hW
  have hA : DataW.TrodAll enc Try.prog W 0 (fun _ => true) true Try.f5.params.toList args.toList ds p := hA0
  rw [Try.params5] at hA hval hsz
  obtain ⟨v0, vs0, d0, ds0, p0, q0, hargs, rfl, rfl, h0, r0⟩ := trodAll_cons hA
  obtain ⟨v1, vs1, d1, ds1, p1, q1, rfl, rfl, rfl, h1, r1⟩ := trodAll_cons r0
  obtain ⟨v2, vs2, d2, ds2, p2, q2, rfl, rfl, rfl, h2, r2⟩ := trodAll_cons r1
  obtain ⟨v3, vs3, d3, ds3, p3, q3, rfl, rfl, rfl, h3, r3⟩ := trodAll_cons r2
  obtain ⟨v4, vs4, d4, ds4, p4, q4, rfl, rfl, rfl, h4, r4⟩ := trodAll_cons r3
  obtain ⟨rfl, rfl, rfl⟩ := trodAll_nil r4
  obtain rfl : args = #[v0, v1, v2, v3, v4] := by cases args; simp_all
  obtain ⟨rfl, rfl⟩ := trodVars_none hV
  have h0k := h0
  have h1k := h1
  have h2k := h2
  have h3k := h3
  have h4k := h4
  have hlt0 : ∀ x ∈ p0, x.block < W.heap.size := fun x hx => by have := hW'.lt x (by simp [hx]); simpa using this
  have hlt1 : ∀ x ∈ p1, x.block < W.heap.size := fun x hx => by have := hW'.lt x (by simp [hx]); simpa using this
  have hlt2 : ∀ x ∈ p2, x.block < W.heap.size := fun x hx => by have := hW'.lt x (by simp [hx]); simpa using this
  have hlt3 : ∀ x ∈ p3, x.block < W.heap.size := fun x hx => by have := hW'.lt x (by simp [hx]); simpa using this
  have hlt4 : ∀ x ∈ p4, x.block < W.heap.size := fun x hx => by have := hW'.lt x (by simp [hx]); simpa using this
  obtain ⟨tA, tn, tc, t, rfl, ht⟩ := open_tree (hval 0 24 v0 rfl rfl) h0 hsz (j := 0) rfl rfl
  obtain ⟨i, rfl, hi1, hi2⟩ := open_I64 Try.underlying3 (hval 1 3 v1 rfl rfl) h1
  obtain ⟨a, rfl, ha1, ha2⟩ := open_I64 Try.underlying3 (hval 2 3 v2 rfl rfl) h2
  obtain ⟨b, rfl, hb1, hb2⟩ := open_I64 Try.underlying3 (hval 3 3 v3 rfl rfl) h3
  obtain ⟨s, rfl, hs⟩ := open_U64 Try.underlying29 (hval 4 29 v4 rfl rfl) h4
  clear hA0 hval0
  simp only [List.append_nil] at hW'
  refine (TreeCut_walk tA tn tc t ht i hi1 hi2 a ha1 ha2 b hb1 hb2 s hs (w := W)).mono fun e W' ⟨he, hg⟩ => ?_
  subst he
  exact ⟨_, rfl, post_law (pa := p0 ++ (p1 ++ (p2 ++ (p3 ++ (p4 ++ []))))) (pv := []) hW' (fun _ _ _ => (trodAll_cons_mk (shut_bool Try.underlying4 _) trodAll_mk0))
    (trodAll_cons_mk (Below.trod laidOut (by kernel_rfl) (of_decide_eq_true (by kernel_rfl)) h0k hg.out hlt0) (trodAll_cons_mk (Below.trod laidOut (by kernel_rfl) (of_decide_eq_true (by kernel_rfl)) h1k hg.out hlt1) (trodAll_cons_mk (Below.trod laidOut (by kernel_rfl) (of_decide_eq_true (by kernel_rfl)) h2k hg.out hlt2) (trodAll_cons_mk (Below.trod laidOut (by kernel_rfl) (of_decide_eq_true (by kernel_rfl)) h3k hg.out hlt3) (trodAll_cons_mk (Below.trod laidOut (by kernel_rfl) (of_decide_eq_true (by kernel_rfl)) h4k hg.out hlt4) trodAll_mk0))))) rfl (by simp) hg⟩
theorem TreeCut_holds : Rows.TreeCutSaid :=
  OpenClaim.holds_of_wide 5 Try.f5 rfl rfl rfl rfl rfl rfl rfl ⟨rfl, rfl, rfl, rfl, rfl⟩ rfl rfl rfl rfl rfl (by kernel_rfl) Try.func5 (by kernel_rfl)
    (of_decide_eq_true (by kernel_rfl)) (by unfold Func.isWrapper; first | (rw [if_pos (by decide +kernel)]; kernel_rfl) | (rw [if_neg (by decide +kernel)]; exact ⟨rfl, rfl⟩))
    (fun os started H enc _ => TreeCut_lifted os started H enc)
#print axioms TreeCut_holds
end Go.Proofs.Ytoifhpcpahfddaa
