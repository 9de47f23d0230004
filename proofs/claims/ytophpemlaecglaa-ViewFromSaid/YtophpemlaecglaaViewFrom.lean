/- ViewFrom: where one begins is behind what is final, and is what is justified if that is, else what is final; for every tree, root and place. -/
import Derived.Test.YtophpemlaecglaaViewLaw
namespace Go.Proofs.Ytophpemlaecglaa
open Go.RowKit Go.WideShapes Go.ChangeShapes
set_option linter.unusedVariables false
set_option linter.unusedSimpArgs false
set_option linter.unusedSectionVars false







theorem ViewFrom_walk {w : World} (tA : Option Addr) (tn tc : Nat) (t : List Node) (ht : NL w tA tn tc t) (r : List Int) (hr : RootOk r) (f : Int) (f1 : -9223372036854775808 ≤ f) (f2 : f ≤ 9223372036854775807) :
    Calls Try.prog 6 #[.agg #[.slice tA tn tc], .agg (rootC r).toArray, .int .i64 f] w fun e' w' => e' = .returned (.bool true) ∧ Ext w w' := by
  have hlen := ht.len
  have hroom := ht.row.room
  have HAW := Lib.hid (fun W => awake_any W)
  have HV := Lib.hid (fun W (k : Ext w W) => ht.ext k)
  have HM := Lib.hid (fun b (hb : Tree.mayV t = b) W (k : Ext w W) => treeMay_is tA tn tc t b hb W (ht.ext k))
  have hi32 : (Try.prog.info? 27).map (·.size) = some (rootC r).length := by rw [rootC_len hr]; kernel_rfl
  cases hm : Tree.mayV t with
  | false =>
    go_enter Try.func6, Try.ntmps6
    try simp only [List.append_eq, List.cons_append, List.nil_append]
    go_wp2_with fail
    refine (HAW.out _).mono ?_
    rintro e0 w0 ⟨rfl, hx0⟩
    have k0 : Ext w w0 := Ext.trans ((by repeat (first | assumption | exact Ext.refl _ | refine Ext.alloc ?_ _ | refine Ext.drew ?_ | refine Ext.drewN ?_ _ | refine Ext.setCell ?_ (by first | (simp; done) | omega | (simp; omega)) _ | refine Ext.trans (by assumption) ?_))) hx0
    have t0 := hx0.cell (p := ⟨w.heap.size, 0, none⟩) (v := .slice tA tn tc) (by first | (simp; done) | (simp (maxDischargeDepth := 7) [go_sem]; done))
    go_wp2_with fail
    refine (HM.out false hm _ k0).mono ?_
    rintro e1 w1 ⟨rfl, hx1⟩
    have k1 : Ext w w1 := k0.trans hx1
    replace t0 := hx1.cell t0
    go_wp2
    go_ret
    exact ⟨rfl, k1⟩
  | true =>
    have wf := wf_i64 f1 f2
    have HFX := Lib.hid (fun x (hx : View.fromV t r f = x) W (kx : Ext w W) => vfrom_is tA tn tc t r hr f wf x hx W (ht.ext kx))
    by_cases hok : 0 ≤ f ∧ f < tn
    · have wk := findV_lo t r
      obtain ⟨x, hx⟩ : ∃ x, Tree.findV t r = x := ⟨_, rfl⟩
      rw [hx] at wk
      have wx := wf_i64 (x := x) (by omega) (by omega)
      have hff : Tree.aboveV t f f = true := by
        obtain ⟨f, rfl⟩ := Int.eq_ofNat_of_zero_le hok.1
        exact (Tree.above_iff hm (by omega) (by omega)).2 (Tree.mem_self t f)
      have HA := Lib.hid (fun i b (hi : (Lit.int .i64 i).wf = true) (hb : Tree.aboveV t f i = b) W (kx : Ext w W) => above_is tA tn tc t f i wf hi b hb W (ht.ext kx))
      have HD := Lib.hid (fun W (kx : Ext w W) => find_is tA tn tc t r hr x hx W (ht.ext kx))
      have q1 : decide (f < 0) = false := decide_eq_false (by omega)
      have q2 : decide ((tn : Int) ≤ f) = false := decide_eq_false (by omega)
      cases hb : Tree.aboveV t f x with
      | true =>
        have HF := Lib.hid (fun W (kx : Ext w W) => HFX.out x (by unfold View.fromV; rw [hx, hb, if_pos rfl]) W kx)
        have HA1 := Lib.hid (fun W (kx : Ext w W) => HA.out x true wx hb W kx)
        clear hx hb hff HA HFX hok
        go_enter Try.func6, Try.ntmps6
        try simp only [List.append_eq, List.cons_append, List.nil_append]
        go_wp2_with fail
        refine (HAW.out _).mono ?_
        rintro e0 w0 ⟨rfl, hx0⟩
        have k0 : Ext w w0 := Ext.trans ((by repeat (first | assumption | exact Ext.refl _ | refine Ext.alloc ?_ _ | refine Ext.drew ?_ | refine Ext.drewN ?_ _ | refine Ext.setCell ?_ (by first | (simp; done) | omega | (simp; omega)) _ | refine Ext.trans (by assumption) ?_))) hx0
        have t0 := hx0.cell (p := ⟨w.heap.size, 0, none⟩) (v := .slice tA tn tc) (by first | (simp; done) | (simp (maxDischargeDepth := 7) [go_sem]; done))
        have rR := (rangeAt_ext (range_at (w := w.alloc (.cells #[.slice tA tn tc] 24)) (B := w.heap.size + 1) (rootC r) 27 (by simp)) hx0)
        go_wp2_with fail
        refine (HM.out true hm _ k0).mono ?_
        rintro e1 w1 ⟨rfl, hx1⟩
        have k1 : Ext w w1 := k0.trans hx1
        replace t0 := hx1.cell t0
        replace rR := rangeAt_ext rR hx1
        clear HAW HM
        go_wp2_with (refine wpList_load_mid rfl 27 _ rfl _ _ rfl (rootC r) _ rR Try.underlying27 rfl hi32 ?_)
        refine (HF.out _ k1).mono ?_
        rintro e2 w2 ⟨rfl, hx2⟩
        have k2 : Ext w w2 := k1.trans hx2
        replace t0 := hx2.cell t0
        replace rR := rangeAt_ext rR hx2
        go_wp2_with (refine wpList_load_mid rfl 27 _ rfl _ _ rfl (rootC r) _ rR Try.underlying27 rfl hi32 ?_)
        refine (HD.out _ k2).mono ?_
        rintro e3 w3 ⟨rfl, hx3⟩
        have k3 : Ext w w3 := k2.trans hx3
        replace t0 := hx3.cell t0
        clear rR
        go_wp2_with fail
        refine (HA1.out _ k3).mono ?_
        rintro e4 w4 ⟨rfl, hx4⟩
        have k4 : Ext w w4 := k3.trans hx4
        replace t0 := hx4.cell t0
        go_wp2_with fail
        refine (HA1.out _ k4).mono ?_
        rintro e5 w5 ⟨rfl, hx5⟩
        have k5 : Ext w w5 := k4.trans hx5
        go_wp2
        go_ret
        exact ⟨rfl, k5⟩
      | false =>
        have HF := Lib.hid (fun W (kx : Ext w W) => HFX.out f (by unfold View.fromV; rw [hx, hb, if_neg (by simp), if_pos hff]) W kx)
        have HA1 := Lib.hid (fun W (kx : Ext w W) => HA.out f true wf hff W kx)
        have HA2 := Lib.hid (fun W (kx : Ext w W) => HA.out x false wx hb W kx)
        clear hx hb hff HA HFX hok
        go_enter Try.func6, Try.ntmps6
        try simp only [List.append_eq, List.cons_append, List.nil_append]
        go_wp2_with fail
        refine (HAW.out _).mono ?_
        rintro e0 w0 ⟨rfl, hx0⟩
        have k0 : Ext w w0 := Ext.trans ((by repeat (first | assumption | exact Ext.refl _ | refine Ext.alloc ?_ _ | refine Ext.drew ?_ | refine Ext.drewN ?_ _ | refine Ext.setCell ?_ (by first | (simp; done) | omega | (simp; omega)) _ | refine Ext.trans (by assumption) ?_))) hx0
        have t0 := hx0.cell (p := ⟨w.heap.size, 0, none⟩) (v := .slice tA tn tc) (by first | (simp; done) | (simp (maxDischargeDepth := 7) [go_sem]; done))
        have rR := (rangeAt_ext (range_at (w := w.alloc (.cells #[.slice tA tn tc] 24)) (B := w.heap.size + 1) (rootC r) 27 (by simp)) hx0)
        go_wp2_with fail
        refine (HM.out true hm _ k0).mono ?_
        rintro e1 w1 ⟨rfl, hx1⟩
        have k1 : Ext w w1 := k0.trans hx1
        replace t0 := hx1.cell t0
        replace rR := rangeAt_ext rR hx1
        clear HAW HM
        go_wp2_with (refine wpList_load_mid rfl 27 _ rfl _ _ rfl (rootC r) _ rR Try.underlying27 rfl hi32 ?_)
        refine (HF.out _ k1).mono ?_
        rintro e2 w2 ⟨rfl, hx2⟩
        have k2 : Ext w w2 := k1.trans hx2
        replace t0 := hx2.cell t0
        replace rR := rangeAt_ext rR hx2
        go_wp2_with (refine wpList_load_mid rfl 27 _ rfl _ _ rfl (rootC r) _ rR Try.underlying27 rfl hi32 ?_)
        refine (HD.out _ k2).mono ?_
        rintro e3 w3 ⟨rfl, hx3⟩
        have k3 : Ext w w3 := k2.trans hx3
        replace t0 := hx3.cell t0
        clear rR
        go_wp2_with fail
        refine (HA1.out _ k3).mono ?_
        rintro e4 w4 ⟨rfl, hx4⟩
        have k4 : Ext w w4 := k3.trans hx4
        replace t0 := hx4.cell t0
        go_wp2_with fail
        refine (HA2.out _ k4).mono ?_
        rintro e5 w5 ⟨rfl, hx5⟩
        have k5 : Ext w w5 := k4.trans hx5
        replace t0 := hx5.cell t0
        go_wp2_with fail
        refine (HA2.out _ k5).mono ?_
        rintro e6 w6 ⟨rfl, hx6⟩
        have k6 : Ext w w6 := k5.trans hx6
        go_wp2
        go_ret
        exact ⟨rfl, k6⟩
    · have HF := Lib.hid (fun W (kx : Ext w W) => HFX.out (-1) (by unfold View.fromV; rw [Tree.above_out (by omega), if_neg (by simp), Tree.above_out (by omega), if_neg (by simp)]) W kx)
      clear HFX
      by_cases hf : f < 0
      · have q1 : decide (f < 0) = true := decide_eq_true hf
        go_enter Try.func6, Try.ntmps6
        try simp only [List.append_eq, List.cons_append, List.nil_append]
        go_wp2_with fail
        refine (HAW.out _).mono ?_
        rintro e0 w0 ⟨rfl, hx0⟩
        have k0 : Ext w w0 := Ext.trans ((by repeat (first | assumption | exact Ext.refl _ | refine Ext.alloc ?_ _ | refine Ext.drew ?_ | refine Ext.drewN ?_ _ | refine Ext.setCell ?_ (by first | (simp; done) | omega | (simp; omega)) _ | refine Ext.trans (by assumption) ?_))) hx0
        have t0 := hx0.cell (p := ⟨w.heap.size, 0, none⟩) (v := .slice tA tn tc) (by first | (simp; done) | (simp (maxDischargeDepth := 7) [go_sem]; done))
        have rR := (rangeAt_ext (range_at (w := w.alloc (.cells #[.slice tA tn tc] 24)) (B := w.heap.size + 1) (rootC r) 27 (by simp)) hx0)
        go_wp2_with fail
        refine (HM.out true hm _ k0).mono ?_
        rintro e1 w1 ⟨rfl, hx1⟩
        have k1 : Ext w w1 := k0.trans hx1
        replace t0 := hx1.cell t0
        replace rR := rangeAt_ext rR hx1
        clear HAW HM
        go_wp2_with (refine wpList_load_mid rfl 27 _ rfl _ _ rfl (rootC r) _ rR Try.underlying27 rfl hi32 ?_)
        refine (HF.out _ k1).mono ?_
        rintro e2 w2 ⟨rfl, hx2⟩
        have k2 : Ext w w2 := k1.trans hx2
        replace t0 := hx2.cell t0
        replace rR := rangeAt_ext rR hx2
        go_wp2
        go_ret
        exact ⟨rfl, k2⟩
      · have q1 : decide (f < 0) = false := decide_eq_false hf
        have q2 : decide ((tn : Int) ≤ f) = true := decide_eq_true (by omega)
        go_enter Try.func6, Try.ntmps6
        try simp only [List.append_eq, List.cons_append, List.nil_append]
        go_wp2_with fail
        refine (HAW.out _).mono ?_
        rintro e0 w0 ⟨rfl, hx0⟩
        have k0 : Ext w w0 := Ext.trans ((by repeat (first | assumption | exact Ext.refl _ | refine Ext.alloc ?_ _ | refine Ext.drew ?_ | refine Ext.drewN ?_ _ | refine Ext.setCell ?_ (by first | (simp; done) | omega | (simp; omega)) _ | refine Ext.trans (by assumption) ?_))) hx0
        have t0 := hx0.cell (p := ⟨w.heap.size, 0, none⟩) (v := .slice tA tn tc) (by first | (simp; done) | (simp (maxDischargeDepth := 7) [go_sem]; done))
        have rR := (rangeAt_ext (range_at (w := w.alloc (.cells #[.slice tA tn tc] 24)) (B := w.heap.size + 1) (rootC r) 27 (by simp)) hx0)
        go_wp2_with fail
        refine (HM.out true hm _ k0).mono ?_
        rintro e1 w1 ⟨rfl, hx1⟩
        have k1 : Ext w w1 := k0.trans hx1
        replace t0 := hx1.cell t0
        replace rR := rangeAt_ext rR hx1
        clear HAW HM
        go_wp2_with (refine wpList_load_mid rfl 27 _ rfl _ _ rfl (rootC r) _ rR Try.underlying27 rfl hi32 ?_)
        refine (HF.out _ k1).mono ?_
        rintro e2 w2 ⟨rfl, hx2⟩
        have k2 : Ext w w2 := k1.trans hx2
        replace t0 := hx2.cell t0
        replace rR := rangeAt_ext rR hx2
        go_wp2
        go_ret
        exact ⟨rfl, k2⟩
set_option maxRecDepth 100000 in
theorem ViewFrom_lifted (os : Os) (started : os.Started) (H : Type) (enc : TypeId × Value → H) :
    ReturnsInHanded {} Try.checked os 6 .any (Rows.viewFromSpec.pre6 enc Try.prog Try.f6 Rows.viewFromRow.domain false) (Rows.viewFromSpec.post enc Try.prog Try.f6 false true false false) := by
  refine returnsInHanded_of_change_sized (C := Try.checked) own started (by kernel_rfl) Try.func6
    (ChangeSpec.witness6 (enc := enc) (C := Try.checked) false ⟨#[], #[.agg #[.slice none 0 0], .agg (rootC zeroR).toArray, .int .i64 0], []⟩ 8 (by kernel_rfl) (by kernel_rfl) (by kernel_rfl) (by kernel_rfl)) ?_
  intro W base args ds gs before hval0 hW _hcnd hsz0 _
  have hval : ∀ (j : Nat) t v, Try.f6.params[j]? = some t → args[j]? = some v → Value.okWide Try.prog W .any base t v := hval0
  have hsz : (DataW.weightsEach Try.prog (Try.f6.params.toList ++ Rows.viewFromSpec.plain.varTypes Try.prog) (ds ++ gs)).all (· ≤ reachBytes) = true := hsz0
  have hW' := hW
  obtain ⟨p, q, hA0, hV, rfl, hfz, hnd⟩ := hW
  have hA : DataW.TrodAll enc Try.prog W 0 (fun _ => true) true Try.f6.params.toList args.toList ds p := hA0
  rw [Try.params6] at hA hval hsz
  obtain ⟨v0, vs0, d0, ds0, p0, q0, hargs, rfl, rfl, h0, r0⟩ := trodAll_cons hA
  obtain ⟨v1, vs1, d1, ds1, p1, q1, rfl, rfl, rfl, h1, r1⟩ := trodAll_cons r0
  obtain ⟨v2, vs2, d2, ds2, p2, q2, rfl, rfl, rfl, h2, r2⟩ := trodAll_cons r1
  obtain ⟨rfl, rfl, rfl⟩ := trodAll_nil r2
  obtain rfl : args = #[v0, v1, v2] := by cases args; simp_all
  obtain ⟨rfl, rfl⟩ := trodVars_none hV
  have h0k := h0
  have h1k := h1
  have h2k := h2
  have hlt0 : ∀ x ∈ p0, x.block < W.heap.size := fun x hx => by have := hW'.lt x (by simp [hx]); simpa using this
  have hlt1 : ∀ x ∈ p1, x.block < W.heap.size := fun x hx => by have := hW'.lt x (by simp [hx]); simpa using this
  have hlt2 : ∀ x ∈ p2, x.block < W.heap.size := fun x hx => by have := hW'.lt x (by simp [hx]); simpa using this
  obtain ⟨tA, tn, tc, t, rfl, ht⟩ := open_tree (hval 0 24 v0 rfl rfl) h0 hsz (j := 0) rfl rfl
  obtain ⟨r, rfl, hr⟩ := open_root (hval 1 27 v1 rfl rfl) h1
  obtain ⟨f, rfl, hf1, hf2⟩ := open_I64 Try.underlying3 (hval 2 3 v2 rfl rfl) h2
  clear hA0 hval0
  simp only [List.append_nil] at hW'
  refine (ViewFrom_walk tA tn tc t ht r hr f hf1 hf2 (w := W)).mono fun e W' ⟨he, hg⟩ => ?_
  subst he
  exact ⟨_, rfl, post_law (pa := p0 ++ (p1 ++ (p2 ++ []))) (pv := []) hW' (fun _ _ _ => (trodAll_cons_mk (shut_bool Try.underlying4 _) trodAll_mk0))
    (trodAll_cons_mk (Below.trod laidOut (by kernel_rfl) (of_decide_eq_true (by kernel_rfl)) h0k hg.out hlt0) (trodAll_cons_mk (Below.trod laidOut (by kernel_rfl) (of_decide_eq_true (by kernel_rfl)) h1k hg.out hlt1) (trodAll_cons_mk (Below.trod laidOut (by kernel_rfl) (of_decide_eq_true (by kernel_rfl)) h2k hg.out hlt2) trodAll_mk0))) rfl (by simp) hg⟩
theorem ViewFrom_holds : Rows.ViewFromSaid :=
  OpenClaim.holds_of_wide 6 Try.f6 rfl rfl rfl rfl rfl rfl rfl ⟨rfl, rfl, rfl, rfl, rfl⟩ rfl rfl rfl rfl rfl (by kernel_rfl) Try.func6 (by kernel_rfl)
    (of_decide_eq_true (by kernel_rfl)) (by unfold Func.isWrapper; first | (rw [if_pos (by decide +kernel)]; kernel_rfl) | (rw [if_neg (by decide +kernel)]; exact ⟨rfl, rfl⟩))
    (fun os started H enc _ => ViewFrom_lifted os started H enc)
#print axioms ViewFrom_holds
end Go.Proofs.Ytophpemlaecglaa
