/- The document's answer of layer 5: May, Same, New, Close. -/
import Derived.Test.YtfngnajcmdaphaaBoxHold
namespace Go.Proofs.Ytfngnajcmdaphaa
open Go.RowKit Go.WideShapes Go.ChangeShapes
set_option linter.unusedVariables false
set_option linter.unusedSimpArgs false









set_option maxHeartbeats 2000000 in
theorem rmay_any (A : Option Addr) (n c : Nat) (NS : List Note) (cap : Int) (lag cl : Bool) (w : World) (h : TL w A n c NS) :
    Calls Try.prog 22 #[.agg #[.int .i64 cap, .slice A n c, .bool lag, .bool cl]] w fun e w' => e = .returned (.bool (Box.mayV cap NS)) ∧ Ext w w' := by
  have hlen := h.len
  have HL := Lib.hid hlen
  have hroom := h.row.room
  have HV := Lib.hid (fun W (k : Ext w W) => h.ext k)
  clear h
  go_enter Try.func22, Try.ntmps22
  go_wp2
  obtain ⟨w1, hw1⟩ : ∃ w1, (w.alloc (.cells #[.int .i64 cap, .slice A n c, .bool lag, .bool cl] 24)) = w1 := ⟨_, rfl⟩
  have p0 : w1.cell? ⟨w.heap.size, 0, none⟩ = some (.int .i64 cap) := by rw [← hw1]; simp (maxDischargeDepth := 7) [go_sem]
  have p1 : w1.cell? ⟨w.heap.size, 1, none⟩ = some (.slice A n c) := by rw [← hw1]; simp (maxDischargeDepth := 7) [go_sem]
  have k1 : Ext w w1 := by rw [← hw1]; exact (by repeat (first | assumption | exact Ext.refl _ | refine Ext.alloc ?_ _ | refine Ext.drew ?_ | refine Ext.drewN ?_ _ | refine Ext.setCell ?_ (by first | (simp; done) | omega | (simp; omega)) _ | refine Ext.trans (by assumption) ?_))
  rw [hw1]
  have P0 := Lib.hid p0
  have P1 := Lib.hid p1
  clear hw1 p0 p1
  go_loopw [2, 3] (fun _ i wr => ∃ k : Nat, (k + 1 ≤ n ∨ k = 0) ∧ i = .int .i64 ((k + 1 : Nat) : Int) ∧ (∀ j, j < k + 1 → Box.badAt NS j = false) ∧ Ext w1 wr) (fun _ i _ => n - (intOf i).toNat)
  case atStart => exact ⟨0, .inr rfl, rfl, (fun j hj => by obtain rfl : j = 0 := (by omega); rfl), Ext.refl _⟩
  case round =>
    obtain ⟨k, hk, rfl, hno, hx⟩ := hrel
    have p0 := hx.cell P0.out
    have p1 := hx.cell P1.out
    have HNO := Lib.hid hno
    clear hno
    by_cases hlt : k + 1 < n
    · have hT := HV.out wr (k1.trans hx)
      obtain ⟨b, off, rfl, r1, _⟩ := hT.at' hlt
      obtain ⟨b2, off2, e2, r2, _⟩ := hT.at' (show k < n by omega)
      obtain ⟨rfl, rfl⟩ : b = b2 ∧ off = off2 := by simpa using e2
      have d1 := r1 0 _ (Note.at0 _)
      have d2 := r2 0 _ (Note.at0 _)
      simp only [Nat.add_zero] at d1 d2
      have hbad : Hid (Box.badAt NS (k + 1) = decide ((Box.nt NS (k + 1)).ver ≤ (Box.nt NS k).ver)) := by show _ = _; unfold Box.badAt; simp
      change wr.cell? _ = some (.int .i64 (Box.nt NS (k + 1)).ver) at d1
      change wr.cell? _ = some (.int .i64 (Box.nt NS k).ver) at d2
      generalize Box.nt NS (k + 1) = x at *
      generalize Box.nt NS k = y at *
      have g1 : (k : Int) + 1 < n := by omega
      have gk : (k : Int) < n := by omega
      have hsub : ((k : Int) + 1) - 1 = (k : Int) := by omega
      have hwr : IntKind.i64.wrap (((k : Int) + 1) - 1) = (k : Int) := by rw [hsub]; exact IntWalk.i64_in _ ⟨by omega, by omega⟩
      have hlb : (0 : Int) ≤ (k : Int) + 1 := by omega
      clear r1 r2 e2 hT
      by_cases hv : x.ver ≤ y.ver
      · have HR : Hid (Box.mayV cap NS = false) := Box.mayV_bad (i := k + 1) (by rw [HL.out]; omega) (by rw [hbad.out]; simpa using hv)
        clear hbad
        go_wp2
        refine wp_region_quiet_lit (by kernel_rfl) (by kernel_rfl) ?_
        repeat (first | go_big_quiet_skip | (go_big_quiet_want; first | ((fail); (try simp only [Act.put, List.setIfInBounds_toArray, List.set_cons_zero, List.set_cons_succ]); go_big_quiet_on) | (go_big_quiet_op; first | go_big_quiet_on | go_big_quiet_call (fail))))
        refine wpQuiet_nil ?_
        intro _ hw'
        obtain ⟨nq', hw''⟩ := hw'
        subst hw''
        go_wp2
        go_ret
        exact ⟨by rw [HR.out]; rfl, (k1.trans hx).drewN _⟩
      · have HB : Hid (Box.badAt NS (k + 1) = false) := by show _ = _; rw [hbad.out]; simpa using hv
        clear hbad
        go_wp2
        refine wp_region_quiet_lit (by kernel_rfl) (by kernel_rfl) ?_
        repeat (first | go_big_quiet_skip | (go_big_quiet_want; first | ((fail); (try simp only [Act.put, List.setIfInBounds_toArray, List.set_cons_zero, List.set_cons_succ]); go_big_quiet_on) | (go_big_quiet_op; first | go_big_quiet_on | go_big_quiet_call (fail))))
        refine wpQuiet_nil ?_
        intro _ hw'
        obtain ⟨nq', hw''⟩ := hw'
        subst hw''
        go_wp2
        go_roundw
        case rel =>
          have hno' : ∀ j, j < k + 1 + 1 → Box.badAt NS j = false := fun j hj => by
            rcases Nat.lt_or_eq_of_le (Nat.lt_succ_iff.1 hj) with h | rfl
            · exact HNO.out j h
            · exact HB.out
          first | exact ⟨k + 1, .inl (by omega), by go_num, hno', hx.drewN _⟩ | (refine ⟨_, ⟨k + 1, .inl (by omega), ?_, hno', hx.drewN _⟩, rfl⟩; go_num) | (refine ⟨_, _, ⟨k + 1, .inl (by omega), ?_, hno', hx.drewN _⟩, rfl, rfl⟩; go_num)
        case measure => simp [intOf]; omega
    · have g1 : ¬ (k : Int) + 1 < n := by omega
      have hme := Box.mayV_end (cap := cap) (l := NS) (fun i hi => HNO.out i (by rw [HL.out] at hi; omega))
      rw [HL.out] at hme
      have HR := Lib.hid hme
      clear hme
      by_cases c0 : 0 ≤ cap
      · have d0 : decide (0 ≤ cap) = true := by simpa using c0
        by_cases c8 : cap ≤ 8
        · have d8 : decide (cap ≤ 8) = true := by simpa using c8
          have HR' := HR.out
          rw [d0, d8, Bool.true_and, Bool.true_and] at HR'
          clear HR
          have HR := Lib.hid HR'
          clear HR'
          cases dn : decide ((n : Int) ≤ cap) with
          | true =>
            rw [dn] at HR; clear c0 c8
            go_wp2
            go_ret
            exact ⟨by rw [HR.out]; rfl, k1.trans hx⟩
          | false =>
            rw [dn] at HR; clear c0 c8
            go_wp2
            go_ret
            exact ⟨by rw [HR.out]; rfl, k1.trans hx⟩
        · have d8 : decide (cap ≤ 8) = false := by simpa using c8
          rw [d0, d8] at HR
          clear c0 c8
          go_wp2
          go_ret
          exact ⟨by rw [HR.out]; rfl, k1.trans hx⟩
      · have d0 : decide (0 ≤ cap) = false := by simpa using c0
        rw [d0] at HR
        clear c0
        go_wp2
        go_ret
        exact ⟨by rw [HR.out]; rfl, k1.trans hx⟩
set_option maxHeartbeats 2000000 in
theorem rsame_any (A : Option Addr) (n c : Nat) (l : List Note) (cap : Int) (lag cl : Bool) (B : Option Addr) (m d : Nat) (k : List Note) (cap2 : Int) (lag2 cl2 : Bool) (w : World) (h : TL w A n c l) (g : TL w B m d k) :
    Calls Try.prog 15 #[.agg #[.int .i64 cap, .slice A n c, .bool lag, .bool cl], .agg #[.int .i64 cap2, .slice B m d, .bool lag2, .bool cl2]] w fun e w' => e = .returned (.bool (sameV cap cap2 lag lag2 cl cl2 l k)) ∧ Ext w w' := by
  have H := Lib.hid (fun W (kx : Ext w W) => rnotes_any A n c B m d l k W (h.ext kx) (g.ext kx))
  clear h g
  have HV : Hid (sameV cap cap2 lag lag2 cl cl2 l k = (decide (cap = cap2) && (lag == lag2) && (cl == cl2) && eqT l k)) := by show _ = _; rfl
  generalize eqT l k = q at *
  generalize sameV cap cap2 lag lag2 cl cl2 l k = r at *
  cases q with
  | false =>
    have HR : Hid (r = false) := by show _ = _; rw [HV.out]; simp
    clear HV
    go_enter Try.func15, Try.ntmps15
    go_wp2_with fail
    refine (H.out _ ((by repeat (first | assumption | exact Ext.refl _ | refine Ext.alloc ?_ _ | refine Ext.drew ?_ | refine Ext.drewN ?_ _ | refine Ext.setCell ?_ (by first | (simp; done) | omega | (simp; omega)) _ | refine Ext.trans (by assumption) ?_)))).mono ?_
    rintro e w1 ⟨rfl, hx1⟩
    obtain ⟨u0, u1, u2, u3, uf⟩ := (hx1).box4 (B := w.heap.size) (a := .int .i64 cap) (b := .slice A n c) (c := .bool lag) (d := .bool cl) (by simp (maxDischargeDepth := 7) [go_sem]) (by simp (maxDischargeDepth := 7) [go_sem]) (by simp (maxDischargeDepth := 7) [go_sem]) (by simp (maxDischargeDepth := 7) [go_sem]) (fun o => by simp (maxDischargeDepth := 7) [go_sem])
    have ul := lt_of_cell u0
    obtain ⟨v0, v1, v2, v3, vf⟩ := (hx1).box4 (B := w.heap.size + 1) (a := .int .i64 cap2) (b := .slice B m d) (c := .bool lag2) (d := .bool cl2) (by simp (maxDischargeDepth := 7) [go_sem]) (by simp (maxDischargeDepth := 7) [go_sem]) (by simp (maxDischargeDepth := 7) [go_sem]) (by simp (maxDischargeDepth := 7) [go_sem]) (fun o => by simp (maxDischargeDepth := 7) [go_sem])
    have vl := lt_of_cell v0
    go_wp2
    go_ret
    exact ⟨by rw [HR.out]; rfl, Ext.trans ((by repeat (first | assumption | exact Ext.refl _ | refine Ext.alloc ?_ _ | refine Ext.drew ?_ | refine Ext.drewN ?_ _ | refine Ext.setCell ?_ (by first | (simp; done) | omega | (simp; omega)) _ | refine Ext.trans (by assumption) ?_))) hx1⟩
  | true =>
    by_cases hc : cap = cap2
    · have e1 : (cap == cap2) = true := by simpa using hc
      cases hlag : (lag == lag2) with
      | false =>
        have HR : Hid (r = false) := by show _ = _; rw [HV.out, hlag]; simp
        clear HV hc
        go_enter Try.func15, Try.ntmps15
        go_wp2_with fail
        refine (H.out _ ((by repeat (first | assumption | exact Ext.refl _ | refine Ext.alloc ?_ _ | refine Ext.drew ?_ | refine Ext.drewN ?_ _ | refine Ext.setCell ?_ (by first | (simp; done) | omega | (simp; omega)) _ | refine Ext.trans (by assumption) ?_)))).mono ?_
        rintro e w1 ⟨rfl, hx1⟩
        obtain ⟨u0, u1, u2, u3, uf⟩ := (hx1).box4 (B := w.heap.size) (a := .int .i64 cap) (b := .slice A n c) (c := .bool lag) (d := .bool cl) (by simp (maxDischargeDepth := 7) [go_sem]) (by simp (maxDischargeDepth := 7) [go_sem]) (by simp (maxDischargeDepth := 7) [go_sem]) (by simp (maxDischargeDepth := 7) [go_sem]) (fun o => by simp (maxDischargeDepth := 7) [go_sem])
        have ul := lt_of_cell u0
        obtain ⟨v0, v1, v2, v3, vf⟩ := (hx1).box4 (B := w.heap.size + 1) (a := .int .i64 cap2) (b := .slice B m d) (c := .bool lag2) (d := .bool cl2) (by simp (maxDischargeDepth := 7) [go_sem]) (by simp (maxDischargeDepth := 7) [go_sem]) (by simp (maxDischargeDepth := 7) [go_sem]) (by simp (maxDischargeDepth := 7) [go_sem]) (fun o => by simp (maxDischargeDepth := 7) [go_sem])
        have vl := lt_of_cell v0
        go_wp2
        go_ret
        exact ⟨by rw [HR.out]; rfl, Ext.trans ((by repeat (first | assumption | exact Ext.refl _ | refine Ext.alloc ?_ _ | refine Ext.drew ?_ | refine Ext.drewN ?_ _ | refine Ext.setCell ?_ (by first | (simp; done) | omega | (simp; omega)) _ | refine Ext.trans (by assumption) ?_))) hx1⟩
      | true =>
        cases hcl : (cl == cl2) with
        | false =>
          have HR : Hid (r = false) := by show _ = _; rw [HV.out, hcl]; simp
          clear HV hc
          go_enter Try.func15, Try.ntmps15
          go_wp2_with fail
          refine (H.out _ ((by repeat (first | assumption | exact Ext.refl _ | refine Ext.alloc ?_ _ | refine Ext.drew ?_ | refine Ext.drewN ?_ _ | refine Ext.setCell ?_ (by first | (simp; done) | omega | (simp; omega)) _ | refine Ext.trans (by assumption) ?_)))).mono ?_
          rintro e w1 ⟨rfl, hx1⟩
          obtain ⟨u0, u1, u2, u3, uf⟩ := (hx1).box4 (B := w.heap.size) (a := .int .i64 cap) (b := .slice A n c) (c := .bool lag) (d := .bool cl) (by simp (maxDischargeDepth := 7) [go_sem]) (by simp (maxDischargeDepth := 7) [go_sem]) (by simp (maxDischargeDepth := 7) [go_sem]) (by simp (maxDischargeDepth := 7) [go_sem]) (fun o => by simp (maxDischargeDepth := 7) [go_sem])
          have ul := lt_of_cell u0
          obtain ⟨v0, v1, v2, v3, vf⟩ := (hx1).box4 (B := w.heap.size + 1) (a := .int .i64 cap2) (b := .slice B m d) (c := .bool lag2) (d := .bool cl2) (by simp (maxDischargeDepth := 7) [go_sem]) (by simp (maxDischargeDepth := 7) [go_sem]) (by simp (maxDischargeDepth := 7) [go_sem]) (by simp (maxDischargeDepth := 7) [go_sem]) (fun o => by simp (maxDischargeDepth := 7) [go_sem])
          have vl := lt_of_cell v0
          go_wp2
          go_ret
          exact ⟨by rw [HR.out]; rfl, Ext.trans ((by repeat (first | assumption | exact Ext.refl _ | refine Ext.alloc ?_ _ | refine Ext.drew ?_ | refine Ext.drewN ?_ _ | refine Ext.setCell ?_ (by first | (simp; done) | omega | (simp; omega)) _ | refine Ext.trans (by assumption) ?_))) hx1⟩
        | true =>
          have HR : Hid (r = true) := by show _ = _; rw [HV.out, hcl, hlag, decide_eq_true hc]; rfl
          clear HV hc
          go_enter Try.func15, Try.ntmps15
          go_wp2_with fail
          refine (H.out _ ((by repeat (first | assumption | exact Ext.refl _ | refine Ext.alloc ?_ _ | refine Ext.drew ?_ | refine Ext.drewN ?_ _ | refine Ext.setCell ?_ (by first | (simp; done) | omega | (simp; omega)) _ | refine Ext.trans (by assumption) ?_)))).mono ?_
          rintro e w1 ⟨rfl, hx1⟩
          obtain ⟨u0, u1, u2, u3, uf⟩ := (hx1).box4 (B := w.heap.size) (a := .int .i64 cap) (b := .slice A n c) (c := .bool lag) (d := .bool cl) (by simp (maxDischargeDepth := 7) [go_sem]) (by simp (maxDischargeDepth := 7) [go_sem]) (by simp (maxDischargeDepth := 7) [go_sem]) (by simp (maxDischargeDepth := 7) [go_sem]) (fun o => by simp (maxDischargeDepth := 7) [go_sem])
          have ul := lt_of_cell u0
          obtain ⟨v0, v1, v2, v3, vf⟩ := (hx1).box4 (B := w.heap.size + 1) (a := .int .i64 cap2) (b := .slice B m d) (c := .bool lag2) (d := .bool cl2) (by simp (maxDischargeDepth := 7) [go_sem]) (by simp (maxDischargeDepth := 7) [go_sem]) (by simp (maxDischargeDepth := 7) [go_sem]) (by simp (maxDischargeDepth := 7) [go_sem]) (fun o => by simp (maxDischargeDepth := 7) [go_sem])
          have vl := lt_of_cell v0
          go_wp2
          go_ret
          exact ⟨by rw [HR.out]; rfl, Ext.trans ((by repeat (first | assumption | exact Ext.refl _ | refine Ext.alloc ?_ _ | refine Ext.drew ?_ | refine Ext.drewN ?_ _ | refine Ext.setCell ?_ (by first | (simp; done) | omega | (simp; omega)) _ | refine Ext.trans (by assumption) ?_))) hx1⟩
    · have e1 : (cap == cap2) = false := by simpa using hc
      have HR : Hid (r = false) := by show _ = _; rw [HV.out, decide_eq_false hc]; simp
      clear HV hc
      go_enter Try.func15, Try.ntmps15
      go_wp2_with fail
      refine (H.out _ ((by repeat (first | assumption | exact Ext.refl _ | refine Ext.alloc ?_ _ | refine Ext.drew ?_ | refine Ext.drewN ?_ _ | refine Ext.setCell ?_ (by first | (simp; done) | omega | (simp; omega)) _ | refine Ext.trans (by assumption) ?_)))).mono ?_
      rintro e w1 ⟨rfl, hx1⟩
      obtain ⟨u0, u1, u2, u3, uf⟩ := (hx1).box4 (B := w.heap.size) (a := .int .i64 cap) (b := .slice A n c) (c := .bool lag) (d := .bool cl) (by simp (maxDischargeDepth := 7) [go_sem]) (by simp (maxDischargeDepth := 7) [go_sem]) (by simp (maxDischargeDepth := 7) [go_sem]) (by simp (maxDischargeDepth := 7) [go_sem]) (fun o => by simp (maxDischargeDepth := 7) [go_sem])
      have ul := lt_of_cell u0
      obtain ⟨v0, v1, v2, v3, vf⟩ := (hx1).box4 (B := w.heap.size + 1) (a := .int .i64 cap2) (b := .slice B m d) (c := .bool lag2) (d := .bool cl2) (by simp (maxDischargeDepth := 7) [go_sem]) (by simp (maxDischargeDepth := 7) [go_sem]) (by simp (maxDischargeDepth := 7) [go_sem]) (by simp (maxDischargeDepth := 7) [go_sem]) (fun o => by simp (maxDischargeDepth := 7) [go_sem])
      have vl := lt_of_cell v0
      go_wp2
      go_ret
      exact ⟨by rw [HR.out]; rfl, Ext.trans ((by repeat (first | assumption | exact Ext.refl _ | refine Ext.alloc ?_ _ | refine Ext.drew ?_ | refine Ext.drewN ?_ _ | refine Ext.setCell ?_ (by first | (simp; done) | omega | (simp; omega)) _ | refine Ext.trans (by assumption) ?_))) hx1⟩
end Go.Proofs.Ytfngnajcmdaphaa
