/- The document's answer of layer 5: New, Close, Post. -/
import Derived.Test.YtfngnajcmdaphaaBoxRef
namespace Go.Proofs.Ytfngnajcmdaphaa
open Go.RowKit Go.WideShapes Go.ChangeShapes
set_option linter.unusedVariables false
set_option linter.unusedSimpArgs false










theorem newQ_eq (room : Int) : newQ room = decide (0 ≤ room ∧ room ≤ 8) := by
  unfold newQ Box.mayV
  by_cases h1 : 0 ≤ room
  · by_cases h2 : room ≤ 8
    · simp [h1, h2]
    · simp [h2]
  · simp [h1]
theorem rnew_any (room : Int) (w : World) :
    Calls Try.prog 21 #[.int .i64 room] w fun e w' => e = .returned (.tuple #[.agg #[.int .i64 (newC room), .slice none 0 0, .bool false, .bool false], .bool (newQ room)]) ∧ Ext w w' := by
  have hq := newQ_eq room
  by_cases h1 : room < 0
  · have HQ : Hid (newQ room = false) := by show _ = _; rw [hq]; exact decide_eq_false (by omega)
    have HC : Hid (newC room = 0) := by show _ = _; unfold newC; rw [HQ.out, if_neg (by simp)]
    clear hq
    go_enter Try.func21, Try.ntmps21
    go_wp2
    refine bodyPost_ret (v := .tuple #[.agg #[.int .i64 0, .slice none 0 0, .bool false, .bool false], .bool false]) (by simp (maxDischargeDepth := 7) [results, Try.results21, go_sem]) rfl ⟨by rw [HQ.out, HC.out], (by repeat (first | assumption | exact Ext.refl _ | refine Ext.alloc ?_ _ | refine Ext.drew ?_ | refine Ext.drewN ?_ _ | refine Ext.setCell ?_ (by first | (simp; done) | omega | (simp; omega)) _ | refine Ext.trans (by assumption) ?_))⟩
  · by_cases h2 : 8 < room
    · have HQ : Hid (newQ room = false) := by show _ = _; rw [hq]; exact decide_eq_false (by omega)
      have HC : Hid (newC room = 0) := by show _ = _; unfold newC; rw [HQ.out, if_neg (by simp)]
      clear hq
      go_enter Try.func21, Try.ntmps21
      go_wp2
      refine bodyPost_ret (v := .tuple #[.agg #[.int .i64 0, .slice none 0 0, .bool false, .bool false], .bool false]) (by simp (maxDischargeDepth := 7) [results, Try.results21, go_sem]) rfl ⟨by rw [HQ.out, HC.out], (by repeat (first | assumption | exact Ext.refl _ | refine Ext.alloc ?_ _ | refine Ext.drew ?_ | refine Ext.drewN ?_ _ | refine Ext.setCell ?_ (by first | (simp; done) | omega | (simp; omega)) _ | refine Ext.trans (by assumption) ?_))⟩
    · have HQ : Hid (newQ room = true) := by show _ = _; rw [hq]; exact decide_eq_true (by omega)
      have HC : Hid (newC room = room) := by show _ = _; unfold newC; rw [HQ.out, if_pos rfl]
      clear hq
      go_enter Try.func21, Try.ntmps21
      go_wp2
      refine bodyPost_ret (v := .tuple #[.agg #[.int .i64 room, .slice none 0 0, .bool false, .bool false], .bool true]) (by simp (maxDischargeDepth := 7) [results, Try.results21, go_sem]) rfl ⟨by rw [HQ.out, HC.out], (by repeat (first | assumption | exact Ext.refl _ | refine Ext.alloc ?_ _ | refine Ext.drew ?_ | refine Ext.drewN ?_ _ | refine Ext.setCell ?_ (by first | (simp; done) | omega | (simp; omega)) _ | refine Ext.trans (by assumption) ?_))⟩
theorem Box4.other {W : World} {X m c : Nat} {bk : Int} {A : Option Addr} {bg bd : Bool} (h : Box4 W X bk A m c bg bd) {p : Addr} (hp : X ≠ p.block) (v : Value) : Box4 (W.setCell p v) X bk A m c bg bd := by
  have hne : ∀ o, p ≠ (⟨X, o, none⟩ : Addr) := fun o e => hp (by rw [e])
  exact ⟨(World.cell?_setCell_other _ _ _ _ (hne 0)).trans h.c0, (World.cell?_setCell_other _ _ _ _ (hne 1)).trans h.c1, (World.cell?_setCell_other _ _ _ _ (hne 2)).trans h.c2, (World.cell?_setCell_other _ _ _ _ (hne 3)).trans h.c3, fun o => by rw [World.frozen?_setCell]; exact h.f o⟩
theorem Box4.set1 {W : World} {X m c : Nat} {bk : Int} {A : Option Addr} {bg bd : Bool} (h : Box4 W X bk A m c bg bd) (A2 : Option Addr) (m2 c2 : Nat) : Box4 (W.setCell ⟨X, 1, none⟩ (.slice A2 m2 c2)) X bk A2 m2 c2 bg bd :=
  ⟨(World.cell?_setCell_other _ _ _ _ (by simp)).trans h.c0, World.cell?_setCell_same' _ _ _ (by rw [h.c1]; rfl), (World.cell?_setCell_other _ _ _ _ (by simp)).trans h.c2, (World.cell?_setCell_other _ _ _ _ (by simp)).trans h.c3, fun o => by rw [World.frozen?_setCell]; exact h.f o⟩
theorem Box4.set2 {W : World} {X m c : Nat} {bk : Int} {A : Option Addr} {bg bd : Bool} (h : Box4 W X bk A m c bg bd) (b : Bool) : Box4 (W.setCell ⟨X, 2, none⟩ (.bool b)) X bk A m c b bd :=
  ⟨(World.cell?_setCell_other _ _ _ _ (by simp)).trans h.c0, (World.cell?_setCell_other _ _ _ _ (by simp)).trans h.c1, World.cell?_setCell_same' _ _ _ (by rw [h.c2]; rfl), (World.cell?_setCell_other _ _ _ _ (by simp)).trans h.c3, fun o => by rw [World.frozen?_setCell]; exact h.f o⟩
theorem Box4.set3 {W : World} {X m c : Nat} {bk : Int} {A : Option Addr} {bg bd : Bool} (h : Box4 W X bk A m c bg bd) (b : Bool) : Box4 (W.setCell ⟨X, 3, none⟩ (.bool b)) X bk A m c bg b :=
  ⟨(World.cell?_setCell_other _ _ _ _ (by simp)).trans h.c0, (World.cell?_setCell_other _ _ _ _ (by simp)).trans h.c1, (World.cell?_setCell_other _ _ _ _ (by simp)).trans h.c2, World.cell?_setCell_same' _ _ _ (by rw [h.c3]; rfl), fun o => by rw [World.frozen?_setCell]; exact h.f o⟩
set_option maxHeartbeats 1000000 in
theorem rclose_any (A : Option Addr) (n c : Nat) (NS : List Note) (cap : Int) (lag cl : Bool) (w : World) (h : TL w A n c NS) (b cl' : Bool) (hp : Box.closeD cap NS cl = (b, cl')) :
    Calls Try.prog 19 #[.agg #[.int .i64 cap, .slice A n c, .bool lag, .bool cl]] w fun e w' => (∃ A' c', e = .returned (.tuple #[.agg #[.int .i64 cap, .slice A' n c', .bool lag, .bool cl'], .bool b]) ∧ TL w' A' n c' NS) ∧ Ext w w' := by
  have HM := Lib.hid (fun W (k : Ext w W) => rmay_any A n c NS cap lag cl W (h.ext k))
  have HB := Lib.hid (fun W (k : Ext w W) => h.ext k)
  clear h
  cases hm : Box.mayV cap NS with
  | false =>
    rw [Box.close_no hm] at hp
    obtain ⟨rfl, rfl⟩ : false = b ∧ cl = cl' := by simpa using hp
    rw [hm] at HM
    clear hm hp
    go_enter Try.func19, Try.ntmps19
    go_wp2_with fail
    refine (HM.out _ ((by repeat (first | assumption | exact Ext.refl _ | refine Ext.alloc ?_ _ | refine Ext.drew ?_ | refine Ext.drewN ?_ _ | refine Ext.setCell ?_ (by first | (simp; done) | omega | (simp; omega)) _ | refine Ext.trans (by assumption) ?_)))).mono ?_
    rintro e w1 ⟨rfl, hx1⟩
    have kk : Ext w w1 := Ext.trans ((by repeat (first | assumption | exact Ext.refl _ | refine Ext.alloc ?_ _ | refine Ext.drew ?_ | refine Ext.drewN ?_ _ | refine Ext.setCell ?_ (by first | (simp; done) | omega | (simp; omega)) _ | refine Ext.trans (by assumption) ?_))) hx1
    obtain ⟨u0, u1, u2, u3, uf⟩ := (hx1).box4 (B := w.heap.size) (a := .int .i64 cap) (b := .slice A n c) (c := .bool lag) (d := .bool cl) (by simp (maxDischargeDepth := 7) [go_sem]) (by simp (maxDischargeDepth := 7) [go_sem]) (by simp (maxDischargeDepth := 7) [go_sem]) (by simp (maxDischargeDepth := 7) [go_sem]) (fun o => by simp (maxDischargeDepth := 7) [go_sem])
    have ul := lt_of_cell u0
    obtain ⟨v0, v1, v2, v3, vf⟩ := (hx1).box4 (B := w.heap.size + 1) (a := .int .i64 0) (b := .slice none 0 0) (c := .bool false) (d := .bool false) (by simp (maxDischargeDepth := 7) [go_sem]) (by simp (maxDischargeDepth := 7) [go_sem]) (by simp (maxDischargeDepth := 7) [go_sem]) (by simp (maxDischargeDepth := 7) [go_sem]) (fun o => by simp (maxDischargeDepth := 7) [go_sem])
    have vl := lt_of_cell v0
    have HX : Hid (w.heap.size ≤ w.heap.size + 1) := by show _ ≤ _; omega
    have HNE : Hid (w.heap.size + 1 ≠ w.heap.size) := by show _ ≠ _; omega
    generalize w.heap.size + 1 = X1 at *
    go_wp2
    refine bodyPost_ret (v := .tuple #[.agg #[.int .i64 cap, .slice A n c, .bool lag, .bool cl], .bool false]) ?_ rfl ⟨⟨_, _, rfl, HB.out _ (ext_set4 kk HX.out _ _ _ _)⟩, ext_set4 kk HX.out _ _ _ _⟩
    have hl6 := run_loadVar_mid (P := Try.prog) _ X1 0 24 _ _ (set4_range (a := .int .i64 cap) (b := .slice A n c) (c := .bool lag) (d := .bool cl) v0 v1 v2 v3) Try.underlying24 rfl (by kernel_rfl)
    simp only [results, Try.results19]
    simp [Sem.run_bind, Sem.run_pure, hl6, asAddr]
  | true =>
    rw [Box.close_yes hm] at hp
    obtain ⟨rfl, rfl⟩ : (!cl) = b ∧ true = cl' := by simpa using hp
    rw [hm] at HM
    clear hm hp
    cases cl with
    | true =>
      go_enter Try.func19, Try.ntmps19
      go_wp2_with fail
      refine (HM.out _ ((by repeat (first | assumption | exact Ext.refl _ | refine Ext.alloc ?_ _ | refine Ext.drew ?_ | refine Ext.drewN ?_ _ | refine Ext.setCell ?_ (by first | (simp; done) | omega | (simp; omega)) _ | refine Ext.trans (by assumption) ?_)))).mono ?_
      rintro e w1 ⟨rfl, hx1⟩
      have kk : Ext w w1 := Ext.trans ((by repeat (first | assumption | exact Ext.refl _ | refine Ext.alloc ?_ _ | refine Ext.drew ?_ | refine Ext.drewN ?_ _ | refine Ext.setCell ?_ (by first | (simp; done) | omega | (simp; omega)) _ | refine Ext.trans (by assumption) ?_))) hx1
      obtain ⟨u0, u1, u2, u3, uf⟩ := (hx1).box4 (B := w.heap.size) (a := .int .i64 cap) (b := .slice A n c) (c := .bool lag) (d := .bool true) (by simp (maxDischargeDepth := 7) [go_sem]) (by simp (maxDischargeDepth := 7) [go_sem]) (by simp (maxDischargeDepth := 7) [go_sem]) (by simp (maxDischargeDepth := 7) [go_sem]) (fun o => by simp (maxDischargeDepth := 7) [go_sem])
      have ul := lt_of_cell u0
      obtain ⟨v0, v1, v2, v3, vf⟩ := (hx1).box4 (B := w.heap.size + 1) (a := .int .i64 0) (b := .slice none 0 0) (c := .bool false) (d := .bool false) (by simp (maxDischargeDepth := 7) [go_sem]) (by simp (maxDischargeDepth := 7) [go_sem]) (by simp (maxDischargeDepth := 7) [go_sem]) (by simp (maxDischargeDepth := 7) [go_sem]) (fun o => by simp (maxDischargeDepth := 7) [go_sem])
      have vl := lt_of_cell v0
      have HX : Hid (w.heap.size ≤ w.heap.size + 1) := by show _ ≤ _; omega
      have HNE : Hid (w.heap.size + 1 ≠ w.heap.size) := by show _ ≠ _; omega
      generalize w.heap.size + 1 = X1 at *
      go_wp2
      refine bodyPost_ret (v := .tuple #[.agg #[.int .i64 cap, .slice A n c, .bool lag, .bool true], .bool false]) ?_ rfl ⟨⟨_, _, rfl, HB.out _ (ext_set4 kk HX.out _ _ _ _)⟩, ext_set4 kk HX.out _ _ _ _⟩
      have hl6 := run_loadVar_mid (P := Try.prog) _ X1 0 24 _ _ (set4_range (a := .int .i64 cap) (b := .slice A n c) (c := .bool lag) (d := .bool true) v0 v1 v2 v3) Try.underlying24 rfl (by kernel_rfl)
      simp only [results, Try.results19]
      simp [Sem.run_bind, Sem.run_pure, hl6, asAddr]
    | false =>
      go_enter Try.func19, Try.ntmps19
      go_wp2_with fail
      refine (HM.out _ ((by repeat (first | assumption | exact Ext.refl _ | refine Ext.alloc ?_ _ | refine Ext.drew ?_ | refine Ext.drewN ?_ _ | refine Ext.setCell ?_ (by first | (simp; done) | omega | (simp; omega)) _ | refine Ext.trans (by assumption) ?_)))).mono ?_
      rintro e w1 ⟨rfl, hx1⟩
      have kk : Ext w w1 := Ext.trans ((by repeat (first | assumption | exact Ext.refl _ | refine Ext.alloc ?_ _ | refine Ext.drew ?_ | refine Ext.drewN ?_ _ | refine Ext.setCell ?_ (by first | (simp; done) | omega | (simp; omega)) _ | refine Ext.trans (by assumption) ?_))) hx1
      obtain ⟨u0, u1, u2, u3, uf⟩ := (hx1).box4 (B := w.heap.size) (a := .int .i64 cap) (b := .slice A n c) (c := .bool lag) (d := .bool false) (by simp (maxDischargeDepth := 7) [go_sem]) (by simp (maxDischargeDepth := 7) [go_sem]) (by simp (maxDischargeDepth := 7) [go_sem]) (by simp (maxDischargeDepth := 7) [go_sem]) (fun o => by simp (maxDischargeDepth := 7) [go_sem])
      have ul := lt_of_cell u0
      obtain ⟨v0, v1, v2, v3, vf⟩ := (hx1).box4 (B := w.heap.size + 1) (a := .int .i64 0) (b := .slice none 0 0) (c := .bool false) (d := .bool false) (by simp (maxDischargeDepth := 7) [go_sem]) (by simp (maxDischargeDepth := 7) [go_sem]) (by simp (maxDischargeDepth := 7) [go_sem]) (by simp (maxDischargeDepth := 7) [go_sem]) (fun o => by simp (maxDischargeDepth := 7) [go_sem])
      have vl := lt_of_cell v0
      have HX : Hid (w.heap.size ≤ w.heap.size + 1) := by show _ ≤ _; omega
      have HNE : Hid (w.heap.size + 1 ≠ w.heap.size) := by show _ ≠ _; omega
      generalize w.heap.size + 1 = X1 at *
      have hkx : Ext w (w1.setCell ⟨w.heap.size, 3, none⟩ (.bool true)) := kk.setCell (p := ⟨w.heap.size, 3, none⟩) (Nat.le_refl _) _
      have bU := (Box4.mk u0 u1 u2 u3 uf).set3 true
      have bV := (Box4.mk v0 v1 v2 v3 vf).other (p := ⟨w.heap.size, 3, none⟩) HNE.out (.bool true)
      go_upto_region 5 with fail
      clear u0 u1 u2 u3 uf ul v0 v1 v2 v3 vf vl kk
      have kk := hkx
      clear hkx
      generalize w1.setCell ⟨w.heap.size, 3, none⟩ (.bool true) = w2 at *
      have u0 := (bU).c0
      have u1 := (bU).c1
      have u2 := (bU).c2
      have u3 := (bU).c3
      have uf := (bU).f
      have ul := lt_of_cell u0
      have v0 := (bV).c0
      have v1 := (bV).c1
      have v2 := (bV).c2
      have v3 := (bV).c3
      have vf := (bV).f
      have vl := lt_of_cell v0
      clear bU bV
      go_wp2
      refine bodyPost_ret (v := .tuple #[.agg #[.int .i64 cap, .slice A n c, .bool lag, .bool true], .bool true]) ?_ rfl ⟨⟨_, _, rfl, HB.out _ (ext_set4 kk HX.out _ _ _ _)⟩, ext_set4 kk HX.out _ _ _ _⟩
      have hl6 := run_loadVar_mid (P := Try.prog) _ X1 0 24 _ _ (set4_range (a := .int .i64 cap) (b := .slice A n c) (c := .bool lag) (d := .bool true) v0 v1 v2 v3) Try.underlying24 rfl (by kernel_rfl)
      simp only [results, Try.results19]
      simp [Sem.run_bind, Sem.run_pure, hl6, asAddr]
set_option maxRecDepth 4000 in
set_option maxHeartbeats 2000000 in
theorem rpost_same (A : Option Addr) (n c : Nat) (NS : List Note) (cap : Int) (lag cl : Bool) (x : Note) (w : World) (h : TL w A n c NS) (hxo : x.Ok) (hc : Box.mayV cap NS = false ∨ cl = true ∨ (0 < n ∧ x.ver ≤ (Box.nt NS (n - 1)).ver)) :
    Calls Try.prog 16 #[.agg #[.int .i64 cap, .slice A n c, .bool lag, .bool cl], .agg x.cells.toArray] w fun e w' => (∃ A' c', e = .returned (.agg #[.int .i64 cap, .slice A' n c', .bool lag, .bool cl]) ∧ TL w' A' n c' NS) ∧ Ext w w' := by
  have HM := Lib.hid (fun W (k : Ext w W) => rmay_any A n c NS cap lag cl W (h.ext k))
  have HB := Lib.hid (fun W (k : Ext w W) => h.ext k)
  have hroom := h.row.room
  cases hm : Box.mayV cap NS with
  | false =>
    rw [hm] at HM
    clear hm hc h
    obtain ⟨X1, hX1⟩ : ∃ X1, X1 = w.heap.size + 1 := ⟨_, rfl⟩
    obtain ⟨X2, hX2⟩ : ∃ X2, X2 = w.heap.size + 1 + 1 := ⟨_, rfl⟩
    have HX : Hid (w.heap.size ≤ X2 ∧ X1 ≠ w.heap.size ∧ X2 ≠ w.heap.size) := by show _ ∧ _; omega
    go_enter Try.func16, Try.ntmps16
    go_wp2_with fail
    refine (HM.out _ ((by repeat (first | assumption | exact Ext.refl _ | refine Ext.alloc ?_ _ | refine Ext.drew ?_ | refine Ext.drewN ?_ _ | refine Ext.setCell ?_ (by first | (simp; done) | omega | (simp; omega)) _ | refine Ext.trans (by assumption) ?_)))).mono ?_
    rintro e w1 ⟨rfl, hx1⟩
    have kk : Ext w w1 := Ext.trans ((by repeat (first | assumption | exact Ext.refl _ | refine Ext.alloc ?_ _ | refine Ext.drew ?_ | refine Ext.drewN ?_ _ | refine Ext.setCell ?_ (by first | (simp; done) | omega | (simp; omega)) _ | refine Ext.trans (by assumption) ?_))) hx1
    have rN := rangeAt_ext (range_at (w := w.alloc (.cells #[.int .i64 cap, .slice A n c, .bool lag, .bool cl] 24)) (B := w.heap.size + 1) x.cells 33 (by simp)) (((Ext.refl _).alloc (.cells #[.int .i64 0, .slice none 0 0, .bool false, .bool false] 24)).trans hx1)
    have d0 := rN 0 _ (Note.at0 x)
    simp only [Nat.add_zero] at d0
    obtain ⟨u0, u1, u2, u3, uf⟩ := (hx1).box4 (B := w.heap.size) (a := .int .i64 cap) (b := .slice A n c) (c := .bool lag) (d := .bool cl) (by simp (maxDischargeDepth := 7) [go_sem]) (by simp (maxDischargeDepth := 7) [go_sem]) (by simp (maxDischargeDepth := 7) [go_sem]) (by simp (maxDischargeDepth := 7) [go_sem]) (fun o => by simp (maxDischargeDepth := 7) [go_sem])
    have ul := lt_of_cell u0
    obtain ⟨v0, v1, v2, v3, vf⟩ := (hx1).box4 (B := w.heap.size + 1 + 1) (a := .int .i64 0) (b := .slice none 0 0) (c := .bool false) (d := .bool false) (by simp (maxDischargeDepth := 7) [go_sem]) (by simp (maxDischargeDepth := 7) [go_sem]) (by simp (maxDischargeDepth := 7) [go_sem]) (by simp (maxDischargeDepth := 7) [go_sem]) (fun o => by simp (maxDischargeDepth := 7) [go_sem])
    have vl := lt_of_cell v0
    rw [← hX2] at v0 v1 v2 v3 vf vl ⊢
    rw [← hX1] at rN d0 ⊢
    clear hX1 hX2 hx1
    go_wp2
    refine wp_region_quiet_lit (by kernel_rfl) (by kernel_rfl) ?_
    repeat (first | go_big_quiet_skip | (go_big_quiet_want; first | ((fail); (try simp only [Act.put, List.setIfInBounds_toArray, List.set_cons_zero, List.set_cons_succ]); go_big_quiet_on) | (go_big_quiet_op; first | go_big_quiet_on | go_big_quiet_call (fail))))
    refine wpQuiet_nil ?_
    intro _ hw'
    obtain ⟨nq', hw''⟩ := hw'
    subst hw''
    have kd : Ext w1 (w1.drewN nq') := (Ext.refl _).drewN _
    replace uf := (kd).free u0 uf
    replace u0 := (kd).cell u0
    replace u1 := (kd).cell u1
    replace u2 := (kd).cell u2
    replace u3 := (kd).cell u3
    replace ul := lt_of_cell u0
    replace vf := (kd).free v0 vf
    replace v0 := (kd).cell v0
    replace v1 := (kd).cell v1
    replace v2 := (kd).cell v2
    replace v3 := (kd).cell v3
    replace vl := lt_of_cell v0
    replace rN := rangeAt_ext rN kd
    replace d0 := kd.cell d0
    replace kk := kk.trans kd
    clear kd
    generalize w1.drewN nq' = w2 at *
    go_wp2
    refine bodyPost_ret (v := .agg #[.int .i64 cap, .slice A n c, .bool lag, .bool cl]) ?_ rfl ⟨⟨_, _, rfl, ?_⟩, ext_set4 kk HX.out.1 _ _ _ _⟩
    have hl6 := run_loadVar_mid (P := Try.prog) _ X2 0 24 _ _ (set4_range (a := .int .i64 cap) (b := .slice A n c) (c := .bool lag) (d := .bool cl) v0 v1 v2 v3) Try.underlying24 rfl (by kernel_rfl)
    simp only [results, Try.results16]
    simp [Sem.run_bind, Sem.run_pure, hl6, asAddr]
    exact HB.out _ (ext_set4 kk HX.out.1 _ _ _ _)
  | true =>
    rw [hm] at HM
    cases cl with
    | true =>
      clear hm hc h
      obtain ⟨X1, hX1⟩ : ∃ X1, X1 = w.heap.size + 1 := ⟨_, rfl⟩
      obtain ⟨X2, hX2⟩ : ∃ X2, X2 = w.heap.size + 1 + 1 := ⟨_, rfl⟩
      have HX : Hid (w.heap.size ≤ X2 ∧ X1 ≠ w.heap.size ∧ X2 ≠ w.heap.size) := by show _ ∧ _; omega
      go_enter Try.func16, Try.ntmps16
      go_wp2_with fail
      refine (HM.out _ ((by repeat (first | assumption | exact Ext.refl _ | refine Ext.alloc ?_ _ | refine Ext.drew ?_ | refine Ext.drewN ?_ _ | refine Ext.setCell ?_ (by first | (simp; done) | omega | (simp; omega)) _ | refine Ext.trans (by assumption) ?_)))).mono ?_
      rintro e w1 ⟨rfl, hx1⟩
      have kk : Ext w w1 := Ext.trans ((by repeat (first | assumption | exact Ext.refl _ | refine Ext.alloc ?_ _ | refine Ext.drew ?_ | refine Ext.drewN ?_ _ | refine Ext.setCell ?_ (by first | (simp; done) | omega | (simp; omega)) _ | refine Ext.trans (by assumption) ?_))) hx1
      have rN := rangeAt_ext (range_at (w := w.alloc (.cells #[.int .i64 cap, .slice A n c, .bool lag, .bool true] 24)) (B := w.heap.size + 1) x.cells 33 (by simp)) (((Ext.refl _).alloc (.cells #[.int .i64 0, .slice none 0 0, .bool false, .bool false] 24)).trans hx1)
      have d0 := rN 0 _ (Note.at0 x)
      simp only [Nat.add_zero] at d0
      obtain ⟨u0, u1, u2, u3, uf⟩ := (hx1).box4 (B := w.heap.size) (a := .int .i64 cap) (b := .slice A n c) (c := .bool lag) (d := .bool true) (by simp (maxDischargeDepth := 7) [go_sem]) (by simp (maxDischargeDepth := 7) [go_sem]) (by simp (maxDischargeDepth := 7) [go_sem]) (by simp (maxDischargeDepth := 7) [go_sem]) (fun o => by simp (maxDischargeDepth := 7) [go_sem])
      have ul := lt_of_cell u0
      obtain ⟨v0, v1, v2, v3, vf⟩ := (hx1).box4 (B := w.heap.size + 1 + 1) (a := .int .i64 0) (b := .slice none 0 0) (c := .bool false) (d := .bool false) (by simp (maxDischargeDepth := 7) [go_sem]) (by simp (maxDischargeDepth := 7) [go_sem]) (by simp (maxDischargeDepth := 7) [go_sem]) (by simp (maxDischargeDepth := 7) [go_sem]) (fun o => by simp (maxDischargeDepth := 7) [go_sem])
      have vl := lt_of_cell v0
      rw [← hX2] at v0 v1 v2 v3 vf vl ⊢
      rw [← hX1] at rN d0 ⊢
      clear hX1 hX2 hx1
      go_wp2
      refine wp_region_quiet_lit (by kernel_rfl) (by kernel_rfl) ?_
      repeat (first | go_big_quiet_skip | (go_big_quiet_want; first | ((fail); (try simp only [Act.put, List.setIfInBounds_toArray, List.set_cons_zero, List.set_cons_succ]); go_big_quiet_on) | (go_big_quiet_op; first | go_big_quiet_on | go_big_quiet_call (fail))))
      refine wpQuiet_nil ?_
      intro _ hw'
      obtain ⟨nq', hw''⟩ := hw'
      subst hw''
      have kd : Ext w1 (w1.drewN nq') := (Ext.refl _).drewN _
      replace uf := (kd).free u0 uf
      replace u0 := (kd).cell u0
      replace u1 := (kd).cell u1
      replace u2 := (kd).cell u2
      replace u3 := (kd).cell u3
      replace ul := lt_of_cell u0
      replace vf := (kd).free v0 vf
      replace v0 := (kd).cell v0
      replace v1 := (kd).cell v1
      replace v2 := (kd).cell v2
      replace v3 := (kd).cell v3
      replace vl := lt_of_cell v0
      replace rN := rangeAt_ext rN kd
      replace d0 := kd.cell d0
      replace kk := kk.trans kd
      clear kd
      generalize w1.drewN nq' = w2 at *
      go_wp2
      refine bodyPost_ret (v := .agg #[.int .i64 cap, .slice A n c, .bool lag, .bool true]) ?_ rfl ⟨⟨_, _, rfl, ?_⟩, ext_set4 kk HX.out.1 _ _ _ _⟩
      have hl6 := run_loadVar_mid (P := Try.prog) _ X2 0 24 _ _ (set4_range (a := .int .i64 cap) (b := .slice A n c) (c := .bool lag) (d := .bool true) v0 v1 v2 v3) Try.underlying24 rfl (by kernel_rfl)
      simp only [results, Try.results16]
      simp [Sem.run_bind, Sem.run_pure, hl6, asAddr]
      exact HB.out _ (ext_set4 kk HX.out.1 _ _ _ _)
    | false =>
      have hc' : 0 < n ∧ x.ver ≤ (Box.nt NS (n - 1)).ver := by rcases hc with h | h | h; rw [hm] at h; cases h; cases h; exact h
      clear hm hc
      obtain ⟨m, hm⟩ : ∃ m, n = m + 1 := ⟨n - 1, by omega⟩
      subst hm
      obtain ⟨ba, oa, rfl, hr, hyo⟩ := h.at' (show m < m + 1 by omega)
      have hlast : NS.getD m Note.zero = Box.nt NS (m + 1 - 1) := rfl
      rw [hlast] at hr hyo
      generalize Box.nt NS (m + 1 - 1) = y at *
      have hry := Lib.hid (fun W (k : Ext w W) => (by have := k.cell (hr 0 _ (Note.at0 y)); simpa using this : W.cell? ⟨ba, oa + m * 66, none⟩ = some (.int .i64 y.ver)))
      have g0 : decide ((0 : Int) < (m : Int) + 1) = true := decide_eq_true (by omega)
      have g0' : (0 : Int) < (m : Int) + 1 := by omega
      have hsub : ((m : Int) + 1) - 1 = (m : Int) := by omega
      have hmb : m ≤ 17592186043904 := by omega
      have hwr : IntKind.i64.wrap (((m : Int) + 1) - 1) = (m : Int) := by rw [hsub]; exact IntWalk.i64_in _ ⟨by omega, by omega⟩
      have gm : (m : Int) < (m : Int) + 1 := by omega
      clear hlast hr hyo
      have gv : x.ver ≤ y.ver := hc'.2
      have gv' : decide (x.ver ≤ y.ver) = true := by simpa using gv
      clear hc' h
      obtain ⟨X1, hX1⟩ : ∃ X1, X1 = w.heap.size + 1 := ⟨_, rfl⟩
      obtain ⟨X2, hX2⟩ : ∃ X2, X2 = w.heap.size + 1 + 1 := ⟨_, rfl⟩
      have HX : Hid (w.heap.size ≤ X2 ∧ X1 ≠ w.heap.size ∧ X2 ≠ w.heap.size) := by show _ ∧ _; omega
      go_enter Try.func16, Try.ntmps16
      go_wp2_with fail
      refine (HM.out _ ((by repeat (first | assumption | exact Ext.refl _ | refine Ext.alloc ?_ _ | refine Ext.drew ?_ | refine Ext.drewN ?_ _ | refine Ext.setCell ?_ (by first | (simp; done) | omega | (simp; omega)) _ | refine Ext.trans (by assumption) ?_)))).mono ?_
      rintro e w1 ⟨rfl, hx1⟩
      have kk : Ext w w1 := Ext.trans ((by repeat (first | assumption | exact Ext.refl _ | refine Ext.alloc ?_ _ | refine Ext.drew ?_ | refine Ext.drewN ?_ _ | refine Ext.setCell ?_ (by first | (simp; done) | omega | (simp; omega)) _ | refine Ext.trans (by assumption) ?_))) hx1
      have rN := rangeAt_ext (range_at (w := w.alloc (.cells #[.int .i64 cap, .slice (some ⟨ba, oa, none⟩) (m + 1) c, .bool lag, .bool false] 24)) (B := w.heap.size + 1) x.cells 33 (by simp)) (((Ext.refl _).alloc (.cells #[.int .i64 0, .slice none 0 0, .bool false, .bool false] 24)).trans hx1)
      have d0 := rN 0 _ (Note.at0 x)
      simp only [Nat.add_zero] at d0
      obtain ⟨u0, u1, u2, u3, uf⟩ := (hx1).box4 (B := w.heap.size) (a := .int .i64 cap) (b := .slice (some ⟨ba, oa, none⟩) (m + 1) c) (c := .bool lag) (d := .bool false) (by simp (maxDischargeDepth := 7) [go_sem]) (by simp (maxDischargeDepth := 7) [go_sem]) (by simp (maxDischargeDepth := 7) [go_sem]) (by simp (maxDischargeDepth := 7) [go_sem]) (fun o => by simp (maxDischargeDepth := 7) [go_sem])
      have ul := lt_of_cell u0
      obtain ⟨v0, v1, v2, v3, vf⟩ := (hx1).box4 (B := w.heap.size + 1 + 1) (a := .int .i64 0) (b := .slice none 0 0) (c := .bool false) (d := .bool false) (by simp (maxDischargeDepth := 7) [go_sem]) (by simp (maxDischargeDepth := 7) [go_sem]) (by simp (maxDischargeDepth := 7) [go_sem]) (by simp (maxDischargeDepth := 7) [go_sem]) (fun o => by simp (maxDischargeDepth := 7) [go_sem])
      have vl := lt_of_cell v0
      rw [← hX2] at v0 v1 v2 v3 vf vl ⊢
      rw [← hX1] at rN d0 ⊢
      clear hX1 hX2 hx1
      have dy := hry.out _ kk
      go_wp2
      refine wp_region_quiet_lit (by kernel_rfl) (by kernel_rfl) ?_
      repeat (first | go_big_quiet_skip | (go_big_quiet_want; first | ((fail); (try simp only [Act.put, List.setIfInBounds_toArray, List.set_cons_zero, List.set_cons_succ]); go_big_quiet_on) | (go_big_quiet_op; first | go_big_quiet_on | go_big_quiet_call (fail))))
      refine wpQuiet_nil ?_
      intro _ hw'
      obtain ⟨nq', hw''⟩ := hw'
      subst hw''
      have kd : Ext w1 (w1.drewN nq') := (Ext.refl _).drewN _
      replace uf := (kd).free u0 uf
      replace u0 := (kd).cell u0
      replace u1 := (kd).cell u1
      replace u2 := (kd).cell u2
      replace u3 := (kd).cell u3
      replace ul := lt_of_cell u0
      replace vf := (kd).free v0 vf
      replace v0 := (kd).cell v0
      replace v1 := (kd).cell v1
      replace v2 := (kd).cell v2
      replace v3 := (kd).cell v3
      replace vl := lt_of_cell v0
      replace rN := rangeAt_ext rN kd
      replace d0 := kd.cell d0
      replace kk := kk.trans kd
      clear kd
      generalize w1.drewN nq' = w2 at *
      go_wp2
      refine bodyPost_ret (v := .agg #[.int .i64 cap, .slice (some ⟨ba, oa, none⟩) (m + 1) c, .bool lag, .bool false]) ?_ rfl ⟨⟨_, _, rfl, ?_⟩, ext_set4 kk HX.out.1 _ _ _ _⟩
      have hl6 := run_loadVar_mid (P := Try.prog) _ X2 0 24 _ _ (set4_range (a := .int .i64 cap) (b := .slice (some ⟨ba, oa, none⟩) (m + 1) c) (c := .bool lag) (d := .bool false) v0 v1 v2 v3) Try.underlying24 rfl (by kernel_rfl)
      simp only [results, Try.results16]
      simp [Sem.run_bind, Sem.run_pure, hl6, asAddr]
      exact HB.out _ (ext_set4 kk HX.out.1 _ _ _ _)
set_option maxRecDepth 4000 in
set_option maxHeartbeats 2000000 in
theorem rpost_full (A : Option Addr) (n c : Nat) (NS : List Note) (cap : Int) (lag : Bool) (x : Note) (w : World) (h : TL w A n c NS) (hxo : x.Ok) (hm : Box.mayV cap NS = true) (hc : ¬ (0 < n ∧ x.ver ≤ (Box.nt NS (n - 1)).ver)) (he : (n : Int) = cap) :
    Calls Try.prog 16 #[.agg #[.int .i64 cap, .slice A n c, .bool lag, .bool false], .agg x.cells.toArray] w fun e w' => (∃ A' c', e = .returned (.agg #[.int .i64 cap, .slice A' n c', .bool true, .bool false]) ∧ TL w' A' n c' NS) ∧ Ext w w' := by
  have HM := Lib.hid (fun W (k : Ext w W) => rmay_any A n c NS cap lag false W (h.ext k))
  have HB := Lib.hid (fun W (k : Ext w W) => h.ext k)
  have hroom := h.row.room
  rw [hm] at HM
  have ge : ((n : Int) == cap) = true := by simpa using he
  by_cases h0 : n = 0
  · subst h0
    clear hm hc h he
    obtain ⟨X1, hX1⟩ : ∃ X1, X1 = w.heap.size + 1 := ⟨_, rfl⟩
    obtain ⟨X2, hX2⟩ : ∃ X2, X2 = w.heap.size + 1 + 1 := ⟨_, rfl⟩
    have HX : Hid (w.heap.size ≤ X2 ∧ X1 ≠ w.heap.size ∧ X2 ≠ w.heap.size) := by show _ ∧ _; omega
    go_enter Try.func16, Try.ntmps16
    go_wp2_with fail
    refine (HM.out _ ((by repeat (first | assumption | exact Ext.refl _ | refine Ext.alloc ?_ _ | refine Ext.drew ?_ | refine Ext.drewN ?_ _ | refine Ext.setCell ?_ (by first | (simp; done) | omega | (simp; omega)) _ | refine Ext.trans (by assumption) ?_)))).mono ?_
    rintro e w1 ⟨rfl, hx1⟩
    have kk : Ext w w1 := Ext.trans ((by repeat (first | assumption | exact Ext.refl _ | refine Ext.alloc ?_ _ | refine Ext.drew ?_ | refine Ext.drewN ?_ _ | refine Ext.setCell ?_ (by first | (simp; done) | omega | (simp; omega)) _ | refine Ext.trans (by assumption) ?_))) hx1
    have rN := rangeAt_ext (range_at (w := w.alloc (.cells #[.int .i64 cap, .slice A 0 c, .bool lag, .bool false] 24)) (B := w.heap.size + 1) x.cells 33 (by simp)) (((Ext.refl _).alloc (.cells #[.int .i64 0, .slice none 0 0, .bool false, .bool false] 24)).trans hx1)
    have d0 := rN 0 _ (Note.at0 x)
    simp only [Nat.add_zero] at d0
    obtain ⟨u0, u1, u2, u3, uf⟩ := (hx1).box4 (B := w.heap.size) (a := .int .i64 cap) (b := .slice A 0 c) (c := .bool lag) (d := .bool false) (by simp (maxDischargeDepth := 7) [go_sem]) (by simp (maxDischargeDepth := 7) [go_sem]) (by simp (maxDischargeDepth := 7) [go_sem]) (by simp (maxDischargeDepth := 7) [go_sem]) (fun o => by simp (maxDischargeDepth := 7) [go_sem])
    have ul := lt_of_cell u0
    obtain ⟨v0, v1, v2, v3, vf⟩ := (hx1).box4 (B := w.heap.size + 1 + 1) (a := .int .i64 0) (b := .slice none 0 0) (c := .bool false) (d := .bool false) (by simp (maxDischargeDepth := 7) [go_sem]) (by simp (maxDischargeDepth := 7) [go_sem]) (by simp (maxDischargeDepth := 7) [go_sem]) (by simp (maxDischargeDepth := 7) [go_sem]) (fun o => by simp (maxDischargeDepth := 7) [go_sem])
    have vl := lt_of_cell v0
    rw [← hX2] at v0 v1 v2 v3 vf vl ⊢
    rw [← hX1] at rN d0 ⊢
    clear hX1 hX2 hx1
    go_wp2
    refine wp_region_quiet_lit (by kernel_rfl) (by kernel_rfl) ?_
    repeat (first | go_big_quiet_skip | (go_big_quiet_want; first | ((fail); (try simp only [Act.put, List.setIfInBounds_toArray, List.set_cons_zero, List.set_cons_succ]); go_big_quiet_on) | (go_big_quiet_op; first | go_big_quiet_on | go_big_quiet_call (fail))))
    refine wpQuiet_nil ?_
    intro _ hw'
    obtain ⟨nq', hw''⟩ := hw'
    subst hw''
    have kd : Ext w1 (w1.drewN nq') := (Ext.refl _).drewN _
    replace uf := (kd).free u0 uf
    replace u0 := (kd).cell u0
    replace u1 := (kd).cell u1
    replace u2 := (kd).cell u2
    replace u3 := (kd).cell u3
    replace ul := lt_of_cell u0
    replace vf := (kd).free v0 vf
    replace v0 := (kd).cell v0
    replace v1 := (kd).cell v1
    replace v2 := (kd).cell v2
    replace v3 := (kd).cell v3
    replace vl := lt_of_cell v0
    replace rN := rangeAt_ext rN kd
    replace d0 := kd.cell d0
    replace kk := kk.trans kd
    clear kd
    generalize w1.drewN nq' = w2 at *
    have hkx : Ext w (w2.setCell ⟨w.heap.size, 2, none⟩ (.bool true)) := kk.setCell (p := ⟨w.heap.size, 2, none⟩) (Nat.le_refl _) _
    have bU := (Box4.mk u0 u1 u2 u3 uf).set2 true
    have bV := (Box4.mk v0 v1 v2 v3 vf).other (p := ⟨w.heap.size, 2, none⟩) HX.out.2.2 (.bool true)
    go_upto_region 6 with fail
    clear u0 u1 u2 u3 uf ul v0 v1 v2 v3 vf vl kk rN d0
    have kk := hkx
    clear hkx
    generalize w2.setCell ⟨w.heap.size, 2, none⟩ (.bool true) = w3 at *
    have u0 := (bU).c0
    have u1 := (bU).c1
    have u2 := (bU).c2
    have u3 := (bU).c3
    have uf := (bU).f
    have ul := lt_of_cell u0
    have v0 := (bV).c0
    have v1 := (bV).c1
    have v2 := (bV).c2
    have v3 := (bV).c3
    have vf := (bV).f
    have vl := lt_of_cell v0
    clear bU bV
    go_wp2
    refine bodyPost_ret (v := .agg #[.int .i64 cap, .slice A 0 c, .bool true, .bool false]) ?_ rfl ⟨⟨_, _, rfl, ?_⟩, ext_set4 kk HX.out.1 _ _ _ _⟩
    have hl6 := run_loadVar_mid (P := Try.prog) _ X2 0 24 _ _ (set4_range (a := .int .i64 cap) (b := .slice A 0 c) (c := .bool true) (d := .bool false) v0 v1 v2 v3) Try.underlying24 rfl (by kernel_rfl)
    simp only [results, Try.results16]
    simp [Sem.run_bind, Sem.run_pure, hl6, asAddr]
    exact HB.out _ (ext_set4 kk HX.out.1 _ _ _ _)
  · have hc' : ¬ x.ver ≤ (Box.nt NS (n - 1)).ver := fun h => hc ⟨by omega, h⟩
    clear hm hc he
    obtain ⟨m, hm⟩ : ∃ m, n = m + 1 := ⟨n - 1, by omega⟩
    subst hm
    obtain ⟨ba, oa, rfl, hr, hyo⟩ := h.at' (show m < m + 1 by omega)
    have hlast : NS.getD m Note.zero = Box.nt NS (m + 1 - 1) := rfl
    rw [hlast] at hr hyo
    generalize Box.nt NS (m + 1 - 1) = y at *
    have hry := Lib.hid (fun W (k : Ext w W) => (by have := k.cell (hr 0 _ (Note.at0 y)); simpa using this : W.cell? ⟨ba, oa + m * 66, none⟩ = some (.int .i64 y.ver)))
    have g0 : decide ((0 : Int) < (m : Int) + 1) = true := decide_eq_true (by omega)
    have g0' : (0 : Int) < (m : Int) + 1 := by omega
    have hsub : ((m : Int) + 1) - 1 = (m : Int) := by omega
    have hmb : m ≤ 17592186043904 := by omega
    have hwr : IntKind.i64.wrap (((m : Int) + 1) - 1) = (m : Int) := by rw [hsub]; exact IntWalk.i64_in _ ⟨by omega, by omega⟩
    have gm : (m : Int) < (m : Int) + 1 := by omega
    clear hlast hr hyo
    have gv : ¬ x.ver ≤ y.ver := hc'
    have gv' : decide (x.ver ≤ y.ver) = false := by simpa using gv
    clear hc' h
    obtain ⟨X1, hX1⟩ : ∃ X1, X1 = w.heap.size + 1 := ⟨_, rfl⟩
    obtain ⟨X2, hX2⟩ : ∃ X2, X2 = w.heap.size + 1 + 1 := ⟨_, rfl⟩
    have HX : Hid (w.heap.size ≤ X2 ∧ X1 ≠ w.heap.size ∧ X2 ≠ w.heap.size) := by show _ ∧ _; omega
    go_enter Try.func16, Try.ntmps16
    go_wp2_with fail
    refine (HM.out _ ((by repeat (first | assumption | exact Ext.refl _ | refine Ext.alloc ?_ _ | refine Ext.drew ?_ | refine Ext.drewN ?_ _ | refine Ext.setCell ?_ (by first | (simp; done) | omega | (simp; omega)) _ | refine Ext.trans (by assumption) ?_)))).mono ?_
    rintro e w1 ⟨rfl, hx1⟩
    have kk : Ext w w1 := Ext.trans ((by repeat (first | assumption | exact Ext.refl _ | refine Ext.alloc ?_ _ | refine Ext.drew ?_ | refine Ext.drewN ?_ _ | refine Ext.setCell ?_ (by first | (simp; done) | omega | (simp; omega)) _ | refine Ext.trans (by assumption) ?_))) hx1
    have rN := rangeAt_ext (range_at (w := w.alloc (.cells #[.int .i64 cap, .slice (some ⟨ba, oa, none⟩) (m + 1) c, .bool lag, .bool false] 24)) (B := w.heap.size + 1) x.cells 33 (by simp)) (((Ext.refl _).alloc (.cells #[.int .i64 0, .slice none 0 0, .bool false, .bool false] 24)).trans hx1)
    have d0 := rN 0 _ (Note.at0 x)
    simp only [Nat.add_zero] at d0
    obtain ⟨u0, u1, u2, u3, uf⟩ := (hx1).box4 (B := w.heap.size) (a := .int .i64 cap) (b := .slice (some ⟨ba, oa, none⟩) (m + 1) c) (c := .bool lag) (d := .bool false) (by simp (maxDischargeDepth := 7) [go_sem]) (by simp (maxDischargeDepth := 7) [go_sem]) (by simp (maxDischargeDepth := 7) [go_sem]) (by simp (maxDischargeDepth := 7) [go_sem]) (fun o => by simp (maxDischargeDepth := 7) [go_sem])
    have ul := lt_of_cell u0
    obtain ⟨v0, v1, v2, v3, vf⟩ := (hx1).box4 (B := w.heap.size + 1 + 1) (a := .int .i64 0) (b := .slice none 0 0) (c := .bool false) (d := .bool false) (by simp (maxDischargeDepth := 7) [go_sem]) (by simp (maxDischargeDepth := 7) [go_sem]) (by simp (maxDischargeDepth := 7) [go_sem]) (by simp (maxDischargeDepth := 7) [go_sem]) (fun o => by simp (maxDischargeDepth := 7) [go_sem])
    have vl := lt_of_cell v0
    rw [← hX2] at v0 v1 v2 v3 vf vl ⊢
    rw [← hX1] at rN d0 ⊢
    clear hX1 hX2 hx1
    have dy := hry.out _ kk
    go_wp2
    refine wp_region_quiet_lit (by kernel_rfl) (by kernel_rfl) ?_
    repeat (first | go_big_quiet_skip | (go_big_quiet_want; first | ((fail); (try simp only [Act.put, List.setIfInBounds_toArray, List.set_cons_zero, List.set_cons_succ]); go_big_quiet_on) | (go_big_quiet_op; first | go_big_quiet_on | go_big_quiet_call (fail))))
    refine wpQuiet_nil ?_
    intro _ hw'
    obtain ⟨nq', hw''⟩ := hw'
    subst hw''
    have kd : Ext w1 (w1.drewN nq') := (Ext.refl _).drewN _
    replace uf := (kd).free u0 uf
    replace u0 := (kd).cell u0
    replace u1 := (kd).cell u1
    replace u2 := (kd).cell u2
    replace u3 := (kd).cell u3
    replace ul := lt_of_cell u0
    replace vf := (kd).free v0 vf
    replace v0 := (kd).cell v0
    replace v1 := (kd).cell v1
    replace v2 := (kd).cell v2
    replace v3 := (kd).cell v3
    replace vl := lt_of_cell v0
    replace rN := rangeAt_ext rN kd
    replace d0 := kd.cell d0
    replace kk := kk.trans kd
    clear kd
    generalize w1.drewN nq' = w2 at *
    have hkx : Ext w (w2.setCell ⟨w.heap.size, 2, none⟩ (.bool true)) := kk.setCell (p := ⟨w.heap.size, 2, none⟩) (Nat.le_refl _) _
    have bU := (Box4.mk u0 u1 u2 u3 uf).set2 true
    have bV := (Box4.mk v0 v1 v2 v3 vf).other (p := ⟨w.heap.size, 2, none⟩) HX.out.2.2 (.bool true)
    go_upto_region 6 with fail
    clear u0 u1 u2 u3 uf ul v0 v1 v2 v3 vf vl kk rN d0
    have kk := hkx
    clear hkx
    generalize w2.setCell ⟨w.heap.size, 2, none⟩ (.bool true) = w3 at *
    have u0 := (bU).c0
    have u1 := (bU).c1
    have u2 := (bU).c2
    have u3 := (bU).c3
    have uf := (bU).f
    have ul := lt_of_cell u0
    have v0 := (bV).c0
    have v1 := (bV).c1
    have v2 := (bV).c2
    have v3 := (bV).c3
    have vf := (bV).f
    have vl := lt_of_cell v0
    clear bU bV
    go_wp2
    refine bodyPost_ret (v := .agg #[.int .i64 cap, .slice (some ⟨ba, oa, none⟩) (m + 1) c, .bool true, .bool false]) ?_ rfl ⟨⟨_, _, rfl, ?_⟩, ext_set4 kk HX.out.1 _ _ _ _⟩
    have hl6 := run_loadVar_mid (P := Try.prog) _ X2 0 24 _ _ (set4_range (a := .int .i64 cap) (b := .slice (some ⟨ba, oa, none⟩) (m + 1) c) (c := .bool true) (d := .bool false) v0 v1 v2 v3) Try.underlying24 rfl (by kernel_rfl)
    simp only [results, Try.results16]
    simp [Sem.run_bind, Sem.run_pure, hl6, asAddr]
    exact HB.out _ (ext_set4 kk HX.out.1 _ _ _ _)
end Go.Proofs.Ytfngnajcmdaphaa
