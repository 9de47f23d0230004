/- The contracts of layer 5 (box): a box at work: post, take, close. -/
import Derived.Test.YtfngnajcmdaphaaBoxSame
namespace Go.Proofs.Ytfngnajcmdaphaa
open Go.RowKit Go.WideShapes Go.ChangeShapes
set_option linter.unusedVariables false
set_option linter.unusedSimpArgs false






theorem grown_cell {w w' : World} {row : Option Nat} (h : w.grownBy w' row) {B o : Nat} {v : Value} (hc : w.cell? ⟨B, o, none⟩ = some v) (hne : row ≠ some B) : w'.cell? ⟨B, o, none⟩ = some v :=
  (World.cell?_of_block (w := w) (h.block B (lt_of_cell hc) (fun e => hne e.symm))).trans hc
theorem grown_free {w w' : World} {row : Option Nat} (h : w.grownBy w' row) {B o : Nat} {v : Value} (hc : w.cell? ⟨B, o, none⟩ = some v) (hne : row ≠ some B) {o' : Nat} (hf : w.frozen? ⟨B, o', none⟩ = false) : w'.frozen? ⟨B, o', none⟩ = false :=
  (World.frozen?_of_block (w := w) (a := ⟨B, o', none⟩) (h.block B (lt_of_cell hc) (fun e => hne e.symm))).trans hf
theorem grown_range {w w' : World} {row : Option Nat} (h : w.grownBy w' row) {B o : Nat} {cs : List Value} (hr : w.rangeAt B o cs) (hne : row ≠ some B) : w'.rangeAt B o cs := fun j v hv => grown_cell h (hr j v hv) hne
theorem own_setCell' {w : World} {base : Nat} {e : TypeId} {size : Nat} {v : Value} {n : Nat} {xs : List Value} (h : w.ownsRow base e size v n xs) {a : Addr} (ha : v.ownBlock ≠ some a.block) (u : Value) : (w.setCell a u).ownsRow base e size v n xs := by
  refine ⟨h.1, h.2.imp id ?_⟩
  rintro ⟨g, cap, cur, rfl, h1, h2, h3⟩
  refine ⟨g, cap, cur, rfl, h1, ?_, h3⟩
  rw [Below.heap_setCell w a u g (fun e => ha (by rw [e]; rfl))]
  exact h2
theorem src_atN {w : World} {B size m c : Nat} {e : TypeId} {xs : List Value} (hl : xs.length = m * size) (h1 : ∀ u ∈ xs, u.oneCell' = true) (hB : B = w.heap.size) : Src (w.alloc (.cells xs.toArray e)) size (some ⟨B, 0, none⟩) m c xs := by
  subst hB; exact src_new hl h1
theorem range_setO {w : World} {B o : Nat} {cs : List Value} (h : w.rangeAt B o cs) {j : Nat} (hj : j < o) (v : Value) : (w.setCell ⟨B, j, none⟩ v).rangeAt B o cs := by
  intro i u hu
  have hne : (⟨B, j, none⟩ : Addr) ≠ ⟨B, o + i, none⟩ := by
    intro e'
    have := congrArg Addr.off e'
    simp at this
    omega
  exact (World.cell?_setCell_other _ _ _ _ hne).trans (h i u hu)
/-- A box, and a note, at which something is done: they lie at block B. -/
structure WorkR (W : World) (B : Nat) (cap : Int) (A : Option Addr) (n c : Nat) (lag cl : Bool) (x : Note) : Prop where
  c0 : W.cell? ⟨B, 0, none⟩ = some (.int .i64 cap)
  c1 : W.cell? ⟨B, 1, none⟩ = some (.slice A n c)
  c2 : W.cell? ⟨B, 2, none⟩ = some (.bool lag)
  c3 : W.cell? ⟨B, 3, none⟩ = some (.bool cl)
  r : W.rangeAt B 4 x.cells
  f : ∀ o, W.frozen? ⟨B, o, none⟩ = false
namespace WorkR
variable {W W' : World} {B n c : Nat} {cap : Int} {A : Option Addr} {lag cl : Bool} {x : Note}
theorem ext (h : WorkR W B cap A n c lag cl x) (hx : Ext W W') : WorkR W' B cap A n c lag cl x := ⟨hx.cell h.c0, hx.cell h.c1, hx.cell h.c2, hx.cell h.c3, rangeAt_ext h.r hx, hx.free h.c0 h.f⟩
theorem grown {row : Option Nat} (h : WorkR W B cap A n c lag cl x) (hg : W.grownBy W' row) (hne : row ≠ some B) : WorkR W' B cap A n c lag cl x :=
  ⟨grown_cell hg h.c0 hne, grown_cell hg h.c1 hne, grown_cell hg h.c2 hne, grown_cell hg h.c3 hne, grown_range hg h.r hne, fun o => grown_free hg h.c0 hne (h.f o)⟩
theorem set1 (h : WorkR W B cap A n c lag cl x) (A' : Option Addr) (n' c' : Nat) : WorkR (W.setCell ⟨B, 1, none⟩ (.slice A' n' c')) B cap A' n' c' lag cl x :=
  ⟨(World.cell?_setCell_other _ _ _ _ (by simp)).trans h.c0, World.cell?_setCell_same' _ _ _ (by rw [h.c1]; rfl), (World.cell?_setCell_other _ _ _ _ (by simp)).trans h.c2, (World.cell?_setCell_other _ _ _ _ (by simp)).trans h.c3, range_setO h.r (by omega) _, fun o => by rw [World.frozen?_setCell]; exact h.f o⟩
theorem set2 (h : WorkR W B cap A n c lag cl x) (b : Bool) : WorkR (W.setCell ⟨B, 2, none⟩ (.bool b)) B cap A n c b cl x :=
  ⟨(World.cell?_setCell_other _ _ _ _ (by simp)).trans h.c0, (World.cell?_setCell_other _ _ _ _ (by simp)).trans h.c1, World.cell?_setCell_same' _ _ _ (by rw [h.c2]; rfl), (World.cell?_setCell_other _ _ _ _ (by simp)).trans h.c3, range_setO h.r (by omega) _, fun o => by rw [World.frozen?_setCell]; exact h.f o⟩
theorem set3 (h : WorkR W B cap A n c lag cl x) (b : Bool) : WorkR (W.setCell ⟨B, 3, none⟩ (.bool b)) B cap A n c lag b x :=
  ⟨(World.cell?_setCell_other _ _ _ _ (by simp)).trans h.c0, (World.cell?_setCell_other _ _ _ _ (by simp)).trans h.c1, (World.cell?_setCell_other _ _ _ _ (by simp)).trans h.c2, World.cell?_setCell_same' _ _ _ (by rw [h.c3]; rfl), range_setO h.r (by omega) _, fun o => by rw [World.frozen?_setCell]; exact h.f o⟩
end WorkR
namespace Box
/-- What becomes of it where a note is posted: was it taken, the notes, the flag. -/
def postW (cap : Int) (l : List Note) (lag cl : Bool) (x : Note) : Bool × List Note × Bool :=
  if cl = true ∨ (0 < l.length ∧ x.ver ≤ (nt l (l.length - 1)).ver) then (false, l, lag)
  else if (l.length : Int) = cap then (false, l, true) else (true, l ++ [x], lag)
end Box
set_option maxRecDepth 100000 in
set_option maxHeartbeats 1000000 in
theorem wpost_app (B base : Nat) (cap : Int) (A : Option Addr) (n c : Nat) (lag : Bool) (x : Note) (NS : List Note) (w W : World) (kW : Ext w W) (hB : w.heap.size ≤ B) (R : WorkR W B cap A n c lag false x) (hxo : x.Ok)
    (hown : W.ownsRow base 33 66 (.slice A n c) n (flatT NS)) (hbase : w.heap.size ≤ base) (hbW : base ≤ W.heap.size) (hne : (Value.slice A n c).ownBlock ≠ some B) (hl : NS.length = n) (hn : n ≤ 8) (hok : ∀ y ∈ NS, y.Ok)
    (hc : ¬ (0 < n ∧ x.ver ≤ (Box.nt NS (n - 1)).ver)) (heq : ¬ (n : Int) = cap) :
    Calls Try.prog 24 #[.pointer (some ⟨B, 0, none⟩)] W fun e w' => (∃ A' c', e = .returned (.bool true) ∧ WorkR w' B cap A' (n + 1) c' lag false x ∧ w'.ownsRow base 33 66 (.slice A' (n + 1) c') (n + 1) (flatT (NS ++ [x]))) ∧ Ext w w' := by
  have hBW := lt_of_cell R.c0
  have c0 := R.c0
  have c1 := R.c1
  have c2 := R.c2
  have c3 := R.c3
  have d4 := R.r 0 _ (Note.at0 x)
  simp only [Nat.add_zero] at d4
  have hf := R.f
  have hTL := (TL.own hown (by omega) hl hok)
  obtain ⟨A', c', e', hTL, _⟩ := hTL
  obtain ⟨rfl, rfl⟩ : A = A' ∧ c = c' := by simpa using e'
  clear e'
  have HR := Lib.hid R
  have HO := Lib.hid hown
  have hs35 : x.cells.length = 66 := Note.len hxo
  have hi66 : (Try.prog.info? 33).map (·.size) = some x.cells.length := by rw [hs35]; kernel_rfl
  have hu33 := Try.underlying33
  have RX := Lib.hid R.r
  have HNE := Lib.hid hne
  have HNL := Lib.hid hl
  clear R hown hne
  have ge : ((n : Int) == cap) = false := by simpa using heq
  by_cases h0 : n = 0
  · have g0 : decide (0 < n) = false := by simp; omega
    clear hc hTL h0
    clear heq hl
    go_enter Try.func24, Try.ntmps24
    go_wp2
    refine wp_region_quiet_lit (by kernel_rfl) (by kernel_rfl) ?_
    repeat (first | go_big_quiet_skip | (go_big_quiet_want; first | ((fail); (try simp only [Act.put, List.setIfInBounds_toArray, List.set_cons_zero, List.set_cons_succ]); go_big_quiet_on) | (go_big_quiet_op; first | go_big_quiet_on | go_big_quiet_call (fail))))
    refine wpQuiet_nil ?_
    intro _ hw'
    obtain ⟨nq', hw''⟩ := hw'
    subst hw''
    obtain ⟨n1, hn1⟩ : ∃ n1, n1 = nq' := ⟨_, rfl⟩
    subst hn1
    go_wp2
    refine wp_region_quiet_lit (by kernel_rfl) (by kernel_rfl) ?_
    repeat (first | go_big_quiet_skip | (go_big_quiet_want; first | ((fail); (try simp only [Act.put, List.setIfInBounds_toArray, List.set_cons_zero, List.set_cons_succ]); go_big_quiet_on) | (go_big_quiet_op; first | go_big_quiet_on | go_big_quiet_call (fail))))
    refine wpQuiet_nil ?_
    intro _ hw'
    obtain ⟨nq', hw''⟩ := hw'
    subst hw''
    go_wp2
    have hx2 : Ext W ((W.drewN n1).drewN nq') := ((Ext.refl _).drewN _).drewN _
    have R2 := HR.out.ext hx2
    have H2 := own_ext HO.out hx2
    have kw := kW.trans hx2
    have hz2 := hx2.size
    generalize (W.drewN n1).drewN nq' = W2 at *
    clear HR HO c0 c1 c2 c3 d4 hf hx2 kW
    have c1 := R2.c1
    have hf := R2.f
    have HR := Lib.hid R2
    have HO := Lib.hid H2
    have RX := Lib.hid R2.r
    clear R2 H2
    refine wp_region_noPanic ?_
    refine wp_region_held_drew (S := fun w' => w'.rangeAt B 4 x.cells) (by kernel_rfl) (rangeAt_ext RX.out ((by repeat (first | assumption | exact Ext.refl _ | refine Ext.alloc ?_ _ | refine Ext.drew ?_ | refine Ext.drewN ?_ _ | refine Ext.setCell ?_ (by first | (simp; done) | omega | (simp; omega)) _ | refine Ext.trans (by assumption) ?_)))) (fun hHeld => ?_)
    change wpAnyH _ _ _ _ _ 16 (Array.replicate 16 false) _ _
    refine wpAnyH_take (i := 0) (v := Value.pointer (some ⟨B, 0, none⟩)) rfl (by kernel_rfl) (by kernel_rfl) (by kernel_rfl) (fun _ _ _ h => h) (Or.inl ⟨by rfl, fun _ hSw => by first | (go_simp; done) | (go_simp; with_reducible rfl)⟩) hHeld ?_
    (try simp only [Act.put, List.setIfInBounds_toArray, List.set_cons_zero, List.set_cons_succ])
    refine wpAnyH_take (i := 1) (v := Value.pointer (some ⟨B, 0, none⟩)) rfl (by kernel_rfl) (by kernel_rfl) (by kernel_rfl) (fun _ _ _ h => h) (Or.inl ⟨by rfl, fun _ hSw => by first | (go_simp; done) | (go_simp; with_reducible rfl)⟩) hHeld ?_
    (try simp only [Act.put, List.setIfInBounds_toArray, List.set_cons_zero, List.set_cons_succ])
    refine wpAnyH_take (i := 2) (v := Value.pointer (some ⟨B, 0, none⟩)) rfl (by kernel_rfl) (by kernel_rfl) (by kernel_rfl) (fun _ _ _ h => h) (Or.inl ⟨by rfl, fun _ hSw => by first | (go_simp; done) | (go_simp; with_reducible rfl)⟩) hHeld ?_
    (try simp only [Act.put, List.setIfInBounds_toArray, List.set_cons_zero, List.set_cons_succ])
    refine wpAnyH_take (i := 3) (v := Value.pointer (some ⟨B, 0, none⟩)) rfl (by kernel_rfl) (by kernel_rfl) (by kernel_rfl) (fun _ _ _ h => h) (Or.inl ⟨by rfl, fun _ hSw => by first | (go_simp; done) | (go_simp; with_reducible rfl)⟩) hHeld ?_
    (try simp only [Act.put, List.setIfInBounds_toArray, List.set_cons_zero, List.set_cons_succ])
    refine wpAnyH_take (i := 4) (v := Value.pointer (some ⟨B, 1, none⟩)) rfl (by kernel_rfl) (by kernel_rfl) (by kernel_rfl) (fun _ _ _ h => h) (Or.inl ⟨by rfl, fun _ hSw => by first | (go_simp; done) | (go_simp; with_reducible rfl)⟩) hHeld ?_
    (try simp only [Act.put, List.setIfInBounds_toArray, List.set_cons_zero, List.set_cons_succ])
    refine wpAnyH_take (i := 6) (v := Value.pointer (some ⟨B, 0, none⟩)) rfl (by kernel_rfl) (by kernel_rfl) (by kernel_rfl) (fun _ _ _ h => h) (Or.inl ⟨by rfl, fun _ hSw => by first | (go_simp; done) | (go_simp; with_reducible rfl)⟩) hHeld ?_
    (try simp only [Act.put, List.setIfInBounds_toArray, List.set_cons_zero, List.set_cons_succ])
    refine wpAnyH_take (i := 7) (v := Value.pointer (some ⟨B, 0, none⟩)) rfl (by kernel_rfl) (by kernel_rfl) (by kernel_rfl) (fun _ _ _ h => h) (Or.inl ⟨by rfl, fun _ hSw => by first | (go_simp; done) | (go_simp; with_reducible rfl)⟩) hHeld ?_
    (try simp only [Act.put, List.setIfInBounds_toArray, List.set_cons_zero, List.set_cons_succ])
    refine wpAnyH_take (i := 8) (v := Value.pointer (some ⟨B, 4, none⟩)) rfl (by kernel_rfl) (by kernel_rfl) (by kernel_rfl) (fun _ _ _ h => h) (Or.inl ⟨by rfl, fun _ hSw => by first | (go_simp; done) | (go_simp; with_reducible rfl)⟩) hHeld ?_
    (try simp only [Act.put, List.setIfInBounds_toArray, List.set_cons_zero, List.set_cons_succ])
    refine wpAnyH_take (i := 9) (v := .agg (x.cells).toArray) rfl (by kernel_rfl) (by kernel_rfl) (by kernel_rfl) (fun _ _ _ h => h) (yieldsIf_load_mid (by rfl) 33 (.tmp 64) (by rfl) B 4 (by go_simp) (x.cells) _ (fun w hw => hw) hu33 (by rfl) hi66) hHeld ?_
    (try simp only [Act.put, List.setIfInBounds_toArray, List.set_cons_zero, List.set_cons_succ])
    have hzn := zeroNote
    have hzs := zNote_size
    have hze := zNote_ne
    have hB2 : B < W2.heap.size := by omega
    refine wpAnyH_ready (rs := [5, 10]) (by kernel_rfl) (by simp) ?_
    refine AllReadyH.cons rfl (fun K hK => ?_) ?_
    · go_simp
      refine hK.out _ _ hHeld (fun hHeld => ?_)
      clear hK K
      (try simp only [Act.put, List.setIfInBounds_toArray, List.set_cons_zero, List.set_cons_succ])
      refine wpAnyH_ready (rs := [10]) (by kernel_rfl) (by simp) ?_
      refine AllReadyH.cons rfl (fun K hK => ?_) ?_
      · go_simp
        rw [fold_put0 (by rw [hs35]; rfl)]
        refine hK.out _ _ (rangeAt_ext RX.out ((by repeat (first | assumption | exact Ext.refl _ | refine Ext.alloc ?_ _ | refine Ext.drew ?_ | refine Ext.drewN ?_ _ | refine Ext.setCell ?_ (by first | (simp; done) | omega | (simp; omega)) _ | refine Ext.trans (by assumption) ?_)))) (fun hHeld => ?_)
        clear hK K
        (try simp only [Act.put, List.setIfInBounds_toArray, List.set_cons_zero, List.set_cons_succ])
        refine wpAnyH_ready (rs := [11]) (by kernel_rfl) (by simp) ?_
        refine AllReadyH.cons rfl (fun K hK => ?_) ?_
        · refine step_app rowNotes (by rfl) (.tmp 61) (.tmp 66) (by rfl) base _ n (flatT NS) (by go_simp) (own_ext HO.out ((by repeat (first | assumption | exact Ext.refl _ | refine Ext.alloc ?_ _ | refine Ext.drew ?_ | refine Ext.drewN ?_ _ | refine Ext.setCell ?_ (by first | (simp; done) | omega | (simp; omega)) _ | refine Ext.trans (by assumption) ?_)))) (some ⟨W2.heap.size, 0, none⟩) 1 1 x.cells (by go_simp) ((src_atN (by rw [hs35]) (Note.one x) (by rfl)).ext ((Ext.refl _).drew)) (by omega) (by simp; omega) ?_
          intro v' w4 hown4 hgrow4 hblk4
          have R4 := (HR.out.ext (((Ext.refl W2).alloc (.cells x.cells.toArray 33)).drew)).grown hgrow4 HNE.out
          have k4 : Ext w w4 := ((kw.alloc (.cells x.cells.toArray 33)).drew).grown hgrow4 (fun k hk => Nat.le_trans hbase (own_from HO.out k hk))
          refine hK.out _ _ R4.r (fun hHeld => ?_)
          clear hK K
          (try simp only [Act.put, List.setIfInBounds_toArray, List.set_cons_zero, List.set_cons_succ])
          have c14 := R4.c1
          have f14 := R4.f
          obtain ⟨A4, c4, rfl⟩ := own_form' hown4
          have hne4 : (Value.slice A4 (n + 1) c4).ownBlock ≠ some B := by
            rcases hblk4 with h | h
            · rw [h]; exact HNE.out
            · rw [h]
              intro e5
              have e6 := Option.some.inj e5
              simp at e6
              omega
          have HR4 := Lib.hid R4
          have HO4 := Lib.hid hown4
          clear R4 hown4 hgrow4 hblk4
          refine wpAnyH_take (i := 12) (v := Value.pointer (some ⟨B, 0, none⟩)) rfl (by kernel_rfl) (by kernel_rfl) (by kernel_rfl) (fun _ _ _ h => h) (Or.inl ⟨by rfl, fun _ hSw => by first | (go_simp; done) | (go_simp; with_reducible rfl)⟩) hHeld ?_
          (try simp only [Act.put, List.setIfInBounds_toArray, List.set_cons_zero, List.set_cons_succ])
          refine wpAnyH_take (i := 13) (v := Value.pointer (some ⟨B, 0, none⟩)) rfl (by kernel_rfl) (by kernel_rfl) (by kernel_rfl) (fun _ _ _ h => h) (Or.inl ⟨by rfl, fun _ hSw => by first | (go_simp; done) | (go_simp; with_reducible rfl)⟩) hHeld ?_
          (try simp only [Act.put, List.setIfInBounds_toArray, List.set_cons_zero, List.set_cons_succ])
          refine wpAnyH_take (i := 14) (v := Value.pointer (some ⟨B, 1, none⟩)) rfl (by kernel_rfl) (by kernel_rfl) (by kernel_rfl) (fun _ _ _ h => h) (Or.inl ⟨by rfl, fun _ hSw => by first | (go_simp; done) | (go_simp; with_reducible rfl)⟩) hHeld ?_
          (try simp only [Act.put, List.setIfInBounds_toArray, List.set_cons_zero, List.set_cons_succ])
          refine wpAnyH_ready (rs := [15]) (by kernel_rfl) (by simp) ?_
          refine AllReadyH.cons rfl (fun K hK => ?_) ?_
          · go_simp
            refine hK.out _ _ (range_setO hHeld (by omega) _) (fun hHeld => ?_)
            clear hK K
            (try simp only [Act.put, List.setIfInBounds_toArray, List.set_cons_zero, List.set_cons_succ])
            refine wpAnyH_done (by kernel_rfl) ?_ _
            refine NoPanic.normal ?_
            go_wp2
            go_ret
            exact ⟨⟨_, _, rfl, HR4.out.set1 _ _ _, by rw [flatT_snoc]; exact own_setCell' HO4.out hne4 _⟩, k4.setCell (p := ⟨B, 1, none⟩) hB _⟩
          · exact AllReadyH.nil
        · exact AllReadyH.nil
      · exact AllReadyH.nil
    refine AllReadyH.cons rfl (fun K hK => ?_) ?_
    · go_simp
      rw [fold_put0 (by rw [hs35]; rfl)]
      refine hK.out _ _ (rangeAt_ext RX.out ((by repeat (first | assumption | exact Ext.refl _ | refine Ext.alloc ?_ _ | refine Ext.drew ?_ | refine Ext.drewN ?_ _ | refine Ext.setCell ?_ (by first | (simp; done) | omega | (simp; omega)) _ | refine Ext.trans (by assumption) ?_)))) (fun hHeld => ?_)
      clear hK K
      (try simp only [Act.put, List.setIfInBounds_toArray, List.set_cons_zero, List.set_cons_succ])
      refine wpAnyH_ready (rs := [5]) (by kernel_rfl) (by simp) ?_
      refine AllReadyH.cons rfl (fun K hK => ?_) ?_
      · go_simp
        refine hK.out _ _ hHeld (fun hHeld => ?_)
        clear hK K
        (try simp only [Act.put, List.setIfInBounds_toArray, List.set_cons_zero, List.set_cons_succ])
        refine wpAnyH_ready (rs := [11]) (by kernel_rfl) (by simp) ?_
        refine AllReadyH.cons rfl (fun K hK => ?_) ?_
        · refine step_app rowNotes (by rfl) (.tmp 61) (.tmp 66) (by rfl) base _ n (flatT NS) (by go_simp) (own_ext HO.out ((by repeat (first | assumption | exact Ext.refl _ | refine Ext.alloc ?_ _ | refine Ext.drew ?_ | refine Ext.drewN ?_ _ | refine Ext.setCell ?_ (by first | (simp; done) | omega | (simp; omega)) _ | refine Ext.trans (by assumption) ?_)))) (some ⟨W2.heap.size, 0, none⟩) 1 1 x.cells (by go_simp) ((src_atN (by rw [hs35]) (Note.one x) (by rfl)).ext ((Ext.refl _).drew)) (by omega) (by simp; omega) ?_
          intro v' w4 hown4 hgrow4 hblk4
          have R4 := (HR.out.ext (((Ext.refl W2).alloc (.cells x.cells.toArray 33)).drew)).grown hgrow4 HNE.out
          have k4 : Ext w w4 := ((kw.alloc (.cells x.cells.toArray 33)).drew).grown hgrow4 (fun k hk => Nat.le_trans hbase (own_from HO.out k hk))
          refine hK.out _ _ R4.r (fun hHeld => ?_)
          clear hK K
          (try simp only [Act.put, List.setIfInBounds_toArray, List.set_cons_zero, List.set_cons_succ])
          have c14 := R4.c1
          have f14 := R4.f
          obtain ⟨A4, c4, rfl⟩ := own_form' hown4
          have hne4 : (Value.slice A4 (n + 1) c4).ownBlock ≠ some B := by
            rcases hblk4 with h | h
            · rw [h]; exact HNE.out
            · rw [h]
              intro e5
              have e6 := Option.some.inj e5
              simp at e6
              omega
          have HR4 := Lib.hid R4
          have HO4 := Lib.hid hown4
          clear R4 hown4 hgrow4 hblk4
          refine wpAnyH_take (i := 12) (v := Value.pointer (some ⟨B, 0, none⟩)) rfl (by kernel_rfl) (by kernel_rfl) (by kernel_rfl) (fun _ _ _ h => h) (Or.inl ⟨by rfl, fun _ hSw => by first | (go_simp; done) | (go_simp; with_reducible rfl)⟩) hHeld ?_
          (try simp only [Act.put, List.setIfInBounds_toArray, List.set_cons_zero, List.set_cons_succ])
          refine wpAnyH_take (i := 13) (v := Value.pointer (some ⟨B, 0, none⟩)) rfl (by kernel_rfl) (by kernel_rfl) (by kernel_rfl) (fun _ _ _ h => h) (Or.inl ⟨by rfl, fun _ hSw => by first | (go_simp; done) | (go_simp; with_reducible rfl)⟩) hHeld ?_
          (try simp only [Act.put, List.setIfInBounds_toArray, List.set_cons_zero, List.set_cons_succ])
          refine wpAnyH_take (i := 14) (v := Value.pointer (some ⟨B, 1, none⟩)) rfl (by kernel_rfl) (by kernel_rfl) (by kernel_rfl) (fun _ _ _ h => h) (Or.inl ⟨by rfl, fun _ hSw => by first | (go_simp; done) | (go_simp; with_reducible rfl)⟩) hHeld ?_
          (try simp only [Act.put, List.setIfInBounds_toArray, List.set_cons_zero, List.set_cons_succ])
          refine wpAnyH_ready (rs := [15]) (by kernel_rfl) (by simp) ?_
          refine AllReadyH.cons rfl (fun K hK => ?_) ?_
          · go_simp
            refine hK.out _ _ (range_setO hHeld (by omega) _) (fun hHeld => ?_)
            clear hK K
            (try simp only [Act.put, List.setIfInBounds_toArray, List.set_cons_zero, List.set_cons_succ])
            refine wpAnyH_done (by kernel_rfl) ?_ _
            refine NoPanic.normal ?_
            go_wp2
            go_ret
            exact ⟨⟨_, _, rfl, HR4.out.set1 _ _ _, by rw [flatT_snoc]; exact own_setCell' HO4.out hne4 _⟩, k4.setCell (p := ⟨B, 1, none⟩) hB _⟩
          · exact AllReadyH.nil
        · exact AllReadyH.nil
      · exact AllReadyH.nil
    exact AllReadyH.nil
  · have hc' : ¬ x.ver ≤ (Box.nt NS (n - 1)).ver := fun h => hc ⟨by omega, h⟩
    have hc := hc'
    clear hc'
    obtain ⟨m, hm⟩ : ∃ m, n = m + 1 := ⟨n - 1, by omega⟩
    obtain ⟨ba, oa, rfl, hr, hyo⟩ := hTL.at' (show m < n by omega)
    have hlast : NS.getD m Note.zero = Box.nt NS (n - 1) := by unfold Box.nt; rw [show n - 1 = m by omega]
    rw [hlast] at hr hyo
    generalize Box.nt NS (n - 1) = y at *
    have dy := hr 0 _ (Note.at0 y)
    simp only [Nat.add_zero] at dy
    have g0 : decide (0 < n) = true := by simp; omega
    have hsub : (n : Int) - 1 = (m : Int) := by omega
    have hwr : IntKind.i64.wrap ((n : Int) - 1) = (m : Int) := by rw [hsub]; exact IntWalk.i64_in _ ⟨by omega, by omega⟩
    have gm : (m : Int) < n := by omega
    have HM := Lib.hid hm
    clear hlast hm hr hyo hTL
    have gv : decide (x.ver ≤ y.ver) = false := by simpa using hc
    clear hc
    clear heq hl
    go_enter Try.func24, Try.ntmps24
    go_wp2
    refine wp_region_quiet_lit (by kernel_rfl) (by kernel_rfl) ?_
    repeat (first | go_big_quiet_skip | (go_big_quiet_want; first | ((fail); (try simp only [Act.put, List.setIfInBounds_toArray, List.set_cons_zero, List.set_cons_succ]); go_big_quiet_on) | (go_big_quiet_op; first | go_big_quiet_on | go_big_quiet_call (fail))))
    refine wpQuiet_nil ?_
    intro _ hw'
    obtain ⟨nq', hw''⟩ := hw'
    subst hw''
    obtain ⟨n1, hn1⟩ : ∃ n1, n1 = nq' := ⟨_, rfl⟩
    subst hn1
    go_wp2
    refine wp_region_quiet_lit (by kernel_rfl) (by kernel_rfl) ?_
    repeat (first | go_big_quiet_skip | (go_big_quiet_want; first | ((fail); (try simp only [Act.put, List.setIfInBounds_toArray, List.set_cons_zero, List.set_cons_succ]); go_big_quiet_on) | (go_big_quiet_op; first | go_big_quiet_on | go_big_quiet_call (fail))))
    refine wpQuiet_nil ?_
    intro _ hw'
    obtain ⟨nq', hw''⟩ := hw'
    subst hw''
    go_wp2
    have hx2 : Ext W ((W.drewN n1).drewN nq') := ((Ext.refl _).drewN _).drewN _
    have R2 := HR.out.ext hx2
    have H2 := own_ext HO.out hx2
    have kw := kW.trans hx2
    have hz2 := hx2.size
    generalize (W.drewN n1).drewN nq' = W2 at *
    clear HR HO c0 c1 c2 c3 d4 hf hx2 kW
    have c1 := R2.c1
    have hf := R2.f
    have HR := Lib.hid R2
    have HO := Lib.hid H2
    have RX := Lib.hid R2.r
    clear R2 H2
    refine wp_region_noPanic ?_
    refine wp_region_held_drew (S := fun w' => w'.rangeAt B 4 x.cells) (by kernel_rfl) (rangeAt_ext RX.out ((by repeat (first | assumption | exact Ext.refl _ | refine Ext.alloc ?_ _ | refine Ext.drew ?_ | refine Ext.drewN ?_ _ | refine Ext.setCell ?_ (by first | (simp; done) | omega | (simp; omega)) _ | refine Ext.trans (by assumption) ?_)))) (fun hHeld => ?_)
    change wpAnyH _ _ _ _ _ 16 (Array.replicate 16 false) _ _
    refine wpAnyH_take (i := 0) (v := Value.pointer (some ⟨B, 0, none⟩)) rfl (by kernel_rfl) (by kernel_rfl) (by kernel_rfl) (fun _ _ _ h => h) (Or.inl ⟨by rfl, fun _ hSw => by first | (go_simp; done) | (go_simp; with_reducible rfl)⟩) hHeld ?_
    (try simp only [Act.put, List.setIfInBounds_toArray, List.set_cons_zero, List.set_cons_succ])
    refine wpAnyH_take (i := 1) (v := Value.pointer (some ⟨B, 0, none⟩)) rfl (by kernel_rfl) (by kernel_rfl) (by kernel_rfl) (fun _ _ _ h => h) (Or.inl ⟨by rfl, fun _ hSw => by first | (go_simp; done) | (go_simp; with_reducible rfl)⟩) hHeld ?_
    (try simp only [Act.put, List.setIfInBounds_toArray, List.set_cons_zero, List.set_cons_succ])
    refine wpAnyH_take (i := 2) (v := Value.pointer (some ⟨B, 0, none⟩)) rfl (by kernel_rfl) (by kernel_rfl) (by kernel_rfl) (fun _ _ _ h => h) (Or.inl ⟨by rfl, fun _ hSw => by first | (go_simp; done) | (go_simp; with_reducible rfl)⟩) hHeld ?_
    (try simp only [Act.put, List.setIfInBounds_toArray, List.set_cons_zero, List.set_cons_succ])
    refine wpAnyH_take (i := 3) (v := Value.pointer (some ⟨B, 0, none⟩)) rfl (by kernel_rfl) (by kernel_rfl) (by kernel_rfl) (fun _ _ _ h => h) (Or.inl ⟨by rfl, fun _ hSw => by first | (go_simp; done) | (go_simp; with_reducible rfl)⟩) hHeld ?_
    (try simp only [Act.put, List.setIfInBounds_toArray, List.set_cons_zero, List.set_cons_succ])
    refine wpAnyH_take (i := 4) (v := Value.pointer (some ⟨B, 1, none⟩)) rfl (by kernel_rfl) (by kernel_rfl) (by kernel_rfl) (fun _ _ _ h => h) (Or.inl ⟨by rfl, fun _ hSw => by first | (go_simp; done) | (go_simp; with_reducible rfl)⟩) hHeld ?_
    (try simp only [Act.put, List.setIfInBounds_toArray, List.set_cons_zero, List.set_cons_succ])
    refine wpAnyH_take (i := 6) (v := Value.pointer (some ⟨B, 0, none⟩)) rfl (by kernel_rfl) (by kernel_rfl) (by kernel_rfl) (fun _ _ _ h => h) (Or.inl ⟨by rfl, fun _ hSw => by first | (go_simp; done) | (go_simp; with_reducible rfl)⟩) hHeld ?_
    (try simp only [Act.put, List.setIfInBounds_toArray, List.set_cons_zero, List.set_cons_succ])
    refine wpAnyH_take (i := 7) (v := Value.pointer (some ⟨B, 0, none⟩)) rfl (by kernel_rfl) (by kernel_rfl) (by kernel_rfl) (fun _ _ _ h => h) (Or.inl ⟨by rfl, fun _ hSw => by first | (go_simp; done) | (go_simp; with_reducible rfl)⟩) hHeld ?_
    (try simp only [Act.put, List.setIfInBounds_toArray, List.set_cons_zero, List.set_cons_succ])
    refine wpAnyH_take (i := 8) (v := Value.pointer (some ⟨B, 4, none⟩)) rfl (by kernel_rfl) (by kernel_rfl) (by kernel_rfl) (fun _ _ _ h => h) (Or.inl ⟨by rfl, fun _ hSw => by first | (go_simp; done) | (go_simp; with_reducible rfl)⟩) hHeld ?_
    (try simp only [Act.put, List.setIfInBounds_toArray, List.set_cons_zero, List.set_cons_succ])
    refine wpAnyH_take (i := 9) (v := .agg (x.cells).toArray) rfl (by kernel_rfl) (by kernel_rfl) (by kernel_rfl) (fun _ _ _ h => h) (yieldsIf_load_mid (by rfl) 33 (.tmp 64) (by rfl) B 4 (by go_simp) (x.cells) _ (fun w hw => hw) hu33 (by rfl) hi66) hHeld ?_
    (try simp only [Act.put, List.setIfInBounds_toArray, List.set_cons_zero, List.set_cons_succ])
    have hzn := zeroNote
    have hzs := zNote_size
    have hze := zNote_ne
    have hB2 : B < W2.heap.size := by omega
    refine wpAnyH_ready (rs := [5, 10]) (by kernel_rfl) (by simp) ?_
    refine AllReadyH.cons rfl (fun K hK => ?_) ?_
    · go_simp
      refine hK.out _ _ hHeld (fun hHeld => ?_)
      clear hK K
      (try simp only [Act.put, List.setIfInBounds_toArray, List.set_cons_zero, List.set_cons_succ])
      refine wpAnyH_ready (rs := [10]) (by kernel_rfl) (by simp) ?_
      refine AllReadyH.cons rfl (fun K hK => ?_) ?_
      · go_simp
        rw [fold_put0 (by rw [hs35]; rfl)]
        refine hK.out _ _ (rangeAt_ext RX.out ((by repeat (first | assumption | exact Ext.refl _ | refine Ext.alloc ?_ _ | refine Ext.drew ?_ | refine Ext.drewN ?_ _ | refine Ext.setCell ?_ (by first | (simp; done) | omega | (simp; omega)) _ | refine Ext.trans (by assumption) ?_)))) (fun hHeld => ?_)
        clear hK K
        (try simp only [Act.put, List.setIfInBounds_toArray, List.set_cons_zero, List.set_cons_succ])
        refine wpAnyH_ready (rs := [11]) (by kernel_rfl) (by simp) ?_
        refine AllReadyH.cons rfl (fun K hK => ?_) ?_
        · refine step_app rowNotes (by rfl) (.tmp 61) (.tmp 66) (by rfl) base _ n (flatT NS) (by go_simp) (own_ext HO.out ((by repeat (first | assumption | exact Ext.refl _ | refine Ext.alloc ?_ _ | refine Ext.drew ?_ | refine Ext.drewN ?_ _ | refine Ext.setCell ?_ (by first | (simp; done) | omega | (simp; omega)) _ | refine Ext.trans (by assumption) ?_)))) (some ⟨W2.heap.size, 0, none⟩) 1 1 x.cells (by go_simp) ((src_atN (by rw [hs35]) (Note.one x) (by rfl)).ext ((Ext.refl _).drew)) (by omega) (by simp; omega) ?_
          intro v' w4 hown4 hgrow4 hblk4
          have R4 := (HR.out.ext (((Ext.refl W2).alloc (.cells x.cells.toArray 33)).drew)).grown hgrow4 HNE.out
          have k4 : Ext w w4 := ((kw.alloc (.cells x.cells.toArray 33)).drew).grown hgrow4 (fun k hk => Nat.le_trans hbase (own_from HO.out k hk))
          refine hK.out _ _ R4.r (fun hHeld => ?_)
          clear hK K
          (try simp only [Act.put, List.setIfInBounds_toArray, List.set_cons_zero, List.set_cons_succ])
          have c14 := R4.c1
          have f14 := R4.f
          obtain ⟨A4, c4, rfl⟩ := own_form' hown4
          have hne4 : (Value.slice A4 (n + 1) c4).ownBlock ≠ some B := by
            rcases hblk4 with h | h
            · rw [h]; exact HNE.out
            · rw [h]
              intro e5
              have e6 := Option.some.inj e5
              simp at e6
              omega
          have HR4 := Lib.hid R4
          have HO4 := Lib.hid hown4
          clear R4 hown4 hgrow4 hblk4
          refine wpAnyH_take (i := 12) (v := Value.pointer (some ⟨B, 0, none⟩)) rfl (by kernel_rfl) (by kernel_rfl) (by kernel_rfl) (fun _ _ _ h => h) (Or.inl ⟨by rfl, fun _ hSw => by first | (go_simp; done) | (go_simp; with_reducible rfl)⟩) hHeld ?_
          (try simp only [Act.put, List.setIfInBounds_toArray, List.set_cons_zero, List.set_cons_succ])
          refine wpAnyH_take (i := 13) (v := Value.pointer (some ⟨B, 0, none⟩)) rfl (by kernel_rfl) (by kernel_rfl) (by kernel_rfl) (fun _ _ _ h => h) (Or.inl ⟨by rfl, fun _ hSw => by first | (go_simp; done) | (go_simp; with_reducible rfl)⟩) hHeld ?_
          (try simp only [Act.put, List.setIfInBounds_toArray, List.set_cons_zero, List.set_cons_succ])
          refine wpAnyH_take (i := 14) (v := Value.pointer (some ⟨B, 1, none⟩)) rfl (by kernel_rfl) (by kernel_rfl) (by kernel_rfl) (fun _ _ _ h => h) (Or.inl ⟨by rfl, fun _ hSw => by first | (go_simp; done) | (go_simp; with_reducible rfl)⟩) hHeld ?_
          (try simp only [Act.put, List.setIfInBounds_toArray, List.set_cons_zero, List.set_cons_succ])
          refine wpAnyH_ready (rs := [15]) (by kernel_rfl) (by simp) ?_
          refine AllReadyH.cons rfl (fun K hK => ?_) ?_
          · go_simp
            refine hK.out _ _ (range_setO hHeld (by omega) _) (fun hHeld => ?_)
            clear hK K
            (try simp only [Act.put, List.setIfInBounds_toArray, List.set_cons_zero, List.set_cons_succ])
            refine wpAnyH_done (by kernel_rfl) ?_ _
            refine NoPanic.normal ?_
            go_wp2
            go_ret
            exact ⟨⟨_, _, rfl, HR4.out.set1 _ _ _, by rw [flatT_snoc]; exact own_setCell' HO4.out hne4 _⟩, k4.setCell (p := ⟨B, 1, none⟩) hB _⟩
          · exact AllReadyH.nil
        · exact AllReadyH.nil
      · exact AllReadyH.nil
    refine AllReadyH.cons rfl (fun K hK => ?_) ?_
    · go_simp
      rw [fold_put0 (by rw [hs35]; rfl)]
      refine hK.out _ _ (rangeAt_ext RX.out ((by repeat (first | assumption | exact Ext.refl _ | refine Ext.alloc ?_ _ | refine Ext.drew ?_ | refine Ext.drewN ?_ _ | refine Ext.setCell ?_ (by first | (simp; done) | omega | (simp; omega)) _ | refine Ext.trans (by assumption) ?_)))) (fun hHeld => ?_)
      clear hK K
      (try simp only [Act.put, List.setIfInBounds_toArray, List.set_cons_zero, List.set_cons_succ])
      refine wpAnyH_ready (rs := [5]) (by kernel_rfl) (by simp) ?_
      refine AllReadyH.cons rfl (fun K hK => ?_) ?_
      · go_simp
        refine hK.out _ _ hHeld (fun hHeld => ?_)
        clear hK K
        (try simp only [Act.put, List.setIfInBounds_toArray, List.set_cons_zero, List.set_cons_succ])
        refine wpAnyH_ready (rs := [11]) (by kernel_rfl) (by simp) ?_
        refine AllReadyH.cons rfl (fun K hK => ?_) ?_
        · refine step_app rowNotes (by rfl) (.tmp 61) (.tmp 66) (by rfl) base _ n (flatT NS) (by go_simp) (own_ext HO.out ((by repeat (first | assumption | exact Ext.refl _ | refine Ext.alloc ?_ _ | refine Ext.drew ?_ | refine Ext.drewN ?_ _ | refine Ext.setCell ?_ (by first | (simp; done) | omega | (simp; omega)) _ | refine Ext.trans (by assumption) ?_)))) (some ⟨W2.heap.size, 0, none⟩) 1 1 x.cells (by go_simp) ((src_atN (by rw [hs35]) (Note.one x) (by rfl)).ext ((Ext.refl _).drew)) (by omega) (by simp; omega) ?_
          intro v' w4 hown4 hgrow4 hblk4
          have R4 := (HR.out.ext (((Ext.refl W2).alloc (.cells x.cells.toArray 33)).drew)).grown hgrow4 HNE.out
          have k4 : Ext w w4 := ((kw.alloc (.cells x.cells.toArray 33)).drew).grown hgrow4 (fun k hk => Nat.le_trans hbase (own_from HO.out k hk))
          refine hK.out _ _ R4.r (fun hHeld => ?_)
          clear hK K
          (try simp only [Act.put, List.setIfInBounds_toArray, List.set_cons_zero, List.set_cons_succ])
          have c14 := R4.c1
          have f14 := R4.f
          obtain ⟨A4, c4, rfl⟩ := own_form' hown4
          have hne4 : (Value.slice A4 (n + 1) c4).ownBlock ≠ some B := by
            rcases hblk4 with h | h
            · rw [h]; exact HNE.out
            · rw [h]
              intro e5
              have e6 := Option.some.inj e5
              simp at e6
              omega
          have HR4 := Lib.hid R4
          have HO4 := Lib.hid hown4
          clear R4 hown4 hgrow4 hblk4
          refine wpAnyH_take (i := 12) (v := Value.pointer (some ⟨B, 0, none⟩)) rfl (by kernel_rfl) (by kernel_rfl) (by kernel_rfl) (fun _ _ _ h => h) (Or.inl ⟨by rfl, fun _ hSw => by first | (go_simp; done) | (go_simp; with_reducible rfl)⟩) hHeld ?_
          (try simp only [Act.put, List.setIfInBounds_toArray, List.set_cons_zero, List.set_cons_succ])
          refine wpAnyH_take (i := 13) (v := Value.pointer (some ⟨B, 0, none⟩)) rfl (by kernel_rfl) (by kernel_rfl) (by kernel_rfl) (fun _ _ _ h => h) (Or.inl ⟨by rfl, fun _ hSw => by first | (go_simp; done) | (go_simp; with_reducible rfl)⟩) hHeld ?_
          (try simp only [Act.put, List.setIfInBounds_toArray, List.set_cons_zero, List.set_cons_succ])
          refine wpAnyH_take (i := 14) (v := Value.pointer (some ⟨B, 1, none⟩)) rfl (by kernel_rfl) (by kernel_rfl) (by kernel_rfl) (fun _ _ _ h => h) (Or.inl ⟨by rfl, fun _ hSw => by first | (go_simp; done) | (go_simp; with_reducible rfl)⟩) hHeld ?_
          (try simp only [Act.put, List.setIfInBounds_toArray, List.set_cons_zero, List.set_cons_succ])
          refine wpAnyH_ready (rs := [15]) (by kernel_rfl) (by simp) ?_
          refine AllReadyH.cons rfl (fun K hK => ?_) ?_
          · go_simp
            refine hK.out _ _ (range_setO hHeld (by omega) _) (fun hHeld => ?_)
            clear hK K
            (try simp only [Act.put, List.setIfInBounds_toArray, List.set_cons_zero, List.set_cons_succ])
            refine wpAnyH_done (by kernel_rfl) ?_ _
            refine NoPanic.normal ?_
            go_wp2
            go_ret
            exact ⟨⟨_, _, rfl, HR4.out.set1 _ _ _, by rw [flatT_snoc]; exact own_setCell' HO4.out hne4 _⟩, k4.setCell (p := ⟨B, 1, none⟩) hB _⟩
          · exact AllReadyH.nil
        · exact AllReadyH.nil
      · exact AllReadyH.nil
    exact AllReadyH.nil
set_option maxRecDepth 100000 in
set_option maxHeartbeats 8000000 in
theorem wpost_any (B base : Nat) (cap : Int) (A : Option Addr) (n c : Nat) (lag cl : Bool) (x : Note) (NS : List Note) (w W : World) (kW : Ext w W) (hB : w.heap.size ≤ B) (R : WorkR W B cap A n c lag cl x) (hxo : x.Ok)
    (hown : W.ownsRow base 33 66 (.slice A n c) n (flatT NS)) (hbase : w.heap.size ≤ base) (hbW : base ≤ W.heap.size) (hne : (Value.slice A n c).ownBlock ≠ some B) (hl : NS.length = n) (hn : n ≤ 8) (hok : ∀ y ∈ NS, y.Ok)
    (b : Bool) (NS' : List Note) (lag' : Bool) (hp : Box.postW cap NS lag cl x = (b, NS', lag')) :
    Calls Try.prog 24 #[.pointer (some ⟨B, 0, none⟩)] W fun e w' => (∃ A' c', e = .returned (.bool b) ∧ WorkR w' B cap A' NS'.length c' lag' cl x ∧ w'.ownsRow base 33 66 (.slice A' NS'.length c') NS'.length (flatT NS')) ∧ Ext w w' := by
  have hBW := lt_of_cell R.c0
  cases hcl : cl with
  | true =>
    subst hcl
    have hv : Box.postW cap NS lag true x = (false, NS, lag) := by unfold Box.postW; rw [if_pos (.inl rfl)]
    rw [hv] at hp
    obtain ⟨rfl, rfl, rfl⟩ : false = b ∧ NS = NS' ∧ lag = lag' := by simpa using hp
    rw [hl]
    have HR := Lib.hid R
    have HO := Lib.hid hown
    have c3 := R.c3
    clear R hown hp hv
    go_enter Try.func24, Try.ntmps24
    go_wp2
    refine wp_region_quiet_lit (by kernel_rfl) (by kernel_rfl) ?_
    repeat (first | go_big_quiet_skip | (go_big_quiet_want; first | ((fail); (try simp only [Act.put, List.setIfInBounds_toArray, List.set_cons_zero, List.set_cons_succ]); go_big_quiet_on) | (go_big_quiet_op; first | go_big_quiet_on | go_big_quiet_call (fail))))
    refine wpQuiet_nil ?_
    intro _ hw'
    obtain ⟨nq', hw''⟩ := hw'
    subst hw''
    go_wp2
    go_ret
    exact ⟨⟨_, _, rfl, HR.out.ext ((Ext.refl _).drewN _), own_ext HO.out ((Ext.refl _).drewN _)⟩, kW.drewN _⟩
  | false =>
    subst hcl
    have c0 := R.c0
    have c1 := R.c1
    have c2 := R.c2
    have c3 := R.c3
    have d4 := R.r 0 _ (Note.at0 x)
    simp only [Nat.add_zero] at d4
    have hf := R.f
    have hTL := (TL.own hown (by omega) hl hok)
    obtain ⟨A', c', e', hTL, _⟩ := hTL
    obtain ⟨rfl, rfl⟩ : A = A' ∧ c = c' := by simpa using e'
    clear e'
    have HR := Lib.hid R
    have HO := Lib.hid hown
    have hs35 : x.cells.length = 66 := Note.len hxo
    have hi66 : (Try.prog.info? 33).map (·.size) = some x.cells.length := by rw [hs35]; kernel_rfl
    have hu33 := Try.underlying33
    have RX := Lib.hid R.r
    have HNE := Lib.hid hne
    have HNL := Lib.hid hl
    clear R hown hne
    by_cases hc : 0 < n ∧ x.ver ≤ (Box.nt NS (n - 1)).ver
    · have hv : Box.postW cap NS lag false x = (false, NS, lag) := by unfold Box.postW; rw [if_pos (.inr (by rw [hl]; exact hc))]
      rw [hv] at hp
      obtain ⟨rfl, rfl, rfl⟩ : false = b ∧ NS = NS' ∧ lag = lag' := by simpa using hp
      rw [hl]
      obtain ⟨m, hm⟩ : ∃ m, n = m + 1 := ⟨n - 1, by omega⟩
      obtain ⟨ba, oa, rfl, hr, hyo⟩ := hTL.at' (show m < n by omega)
      have hlast : NS.getD m Note.zero = Box.nt NS (n - 1) := by unfold Box.nt; rw [show n - 1 = m by omega]
      rw [hlast] at hr hyo
      generalize Box.nt NS (n - 1) = y at *
      have dy := hr 0 _ (Note.at0 y)
      simp only [Nat.add_zero] at dy
      have g0 : decide (0 < n) = true := by simp; omega
      have hsub : (n : Int) - 1 = (m : Int) := by omega
      have hwr : IntKind.i64.wrap ((n : Int) - 1) = (m : Int) := by rw [hsub]; exact IntWalk.i64_in _ ⟨by omega, by omega⟩
      have gm : (m : Int) < n := by omega
      have HM := Lib.hid hm
      clear hlast hm hr hyo hTL
      have gv : decide (x.ver ≤ y.ver) = true := by simpa using hc.2
      clear hp hv hc hl
      go_enter Try.func24, Try.ntmps24
      go_wp2
      refine wp_region_quiet_lit (by kernel_rfl) (by kernel_rfl) ?_
      repeat (first | go_big_quiet_skip | (go_big_quiet_want; first | ((fail); (try simp only [Act.put, List.setIfInBounds_toArray, List.set_cons_zero, List.set_cons_succ]); go_big_quiet_on) | (go_big_quiet_op; first | go_big_quiet_on | go_big_quiet_call (fail))))
      refine wpQuiet_nil ?_
      intro _ hw'
      obtain ⟨nq', hw''⟩ := hw'
      subst hw''
      go_wp2
      go_ret
      exact ⟨⟨_, _, rfl, HR.out.ext ((Ext.refl _).drewN _), own_ext HO.out ((Ext.refl _).drewN _)⟩, kW.drewN _⟩
    · have hv : Box.postW cap NS lag false x = if (n : Int) = cap then (false, NS, true) else (true, NS ++ [x], lag) := by unfold Box.postW; rw [if_neg (by rw [hl]; intro h; rcases h with h | h; cases h; exact hc h), hl]
      rw [hv] at hp
      clear hv
      by_cases heq : (n : Int) = cap
      case neg =>
        rw [if_neg heq] at hp
        obtain ⟨rfl, rfl, rfl⟩ : true = b ∧ NS ++ [x] = NS' ∧ lag = lag' := by simpa using hp
        rw [List.length_append, hl]
        exact wpost_app B base cap A n c lag x NS w W kW hB HR.out hxo HO.out hbase hbW HNE.out hl hn hok hc heq
      by_cases h0 : n = 0
      · have g0 : decide (0 < n) = false := by simp; omega
        clear hc hTL h0
        have ge : ((n : Int) == cap) = true := by simpa using heq
        rw [if_pos heq] at hp
        obtain ⟨rfl, rfl, rfl⟩ : false = b ∧ NS = NS' ∧ true = lag' := by simpa using hp
        rw [hl]
        clear hp heq hl
        go_enter Try.func24, Try.ntmps24
        go_wp2
        refine wp_region_quiet_lit (by kernel_rfl) (by kernel_rfl) ?_
        repeat (first | go_big_quiet_skip | (go_big_quiet_want; first | ((fail); (try simp only [Act.put, List.setIfInBounds_toArray, List.set_cons_zero, List.set_cons_succ]); go_big_quiet_on) | (go_big_quiet_op; first | go_big_quiet_on | go_big_quiet_call (fail))))
        refine wpQuiet_nil ?_
        intro _ hw'
        obtain ⟨nq', hw''⟩ := hw'
        subst hw''
        obtain ⟨n1, hn1⟩ : ∃ n1, n1 = nq' := ⟨_, rfl⟩
        subst hn1
        go_wp2
        refine wp_region_quiet_lit (by kernel_rfl) (by kernel_rfl) ?_
        repeat (first | go_big_quiet_skip | (go_big_quiet_want; first | ((fail); (try simp only [Act.put, List.setIfInBounds_toArray, List.set_cons_zero, List.set_cons_succ]); go_big_quiet_on) | (go_big_quiet_op; first | go_big_quiet_on | go_big_quiet_call (fail))))
        refine wpQuiet_nil ?_
        intro _ hw'
        obtain ⟨nq', hw''⟩ := hw'
        subst hw''
        go_wp2
        go_ret
        have hx2 : Ext W (W.drewN (n1 + nq')) := (Ext.refl _).drewN _
        exact ⟨⟨_, _, rfl, (HR.out.ext hx2).set2 true, own_setCell' (own_ext HO.out hx2) HNE.out _⟩, (kW.trans hx2).setCell (p := ⟨B, 2, none⟩) hB _⟩
      · have hc' : ¬ x.ver ≤ (Box.nt NS (n - 1)).ver := fun h => hc ⟨by omega, h⟩
        have hc := hc'
        clear hc'
        have hcc := hc
        obtain ⟨m, hm⟩ : ∃ m, n = m + 1 := ⟨n - 1, by omega⟩
        obtain ⟨ba, oa, rfl, hr, hyo⟩ := hTL.at' (show m < n by omega)
        have hlast : NS.getD m Note.zero = Box.nt NS (n - 1) := by unfold Box.nt; rw [show n - 1 = m by omega]
        rw [hlast] at hr hyo
        generalize Box.nt NS (n - 1) = y at *
        have dy := hr 0 _ (Note.at0 y)
        simp only [Nat.add_zero] at dy
        have g0 : decide (0 < n) = true := by simp; omega
        have hsub : (n : Int) - 1 = (m : Int) := by omega
        have hwr : IntKind.i64.wrap ((n : Int) - 1) = (m : Int) := by rw [hsub]; exact IntWalk.i64_in _ ⟨by omega, by omega⟩
        have gm : (m : Int) < n := by omega
        have HM := Lib.hid hm
        clear hlast hm hr hyo hTL
        have gv : decide (x.ver ≤ y.ver) = false := by simpa using hc
        clear hc
        have ge : ((n : Int) == cap) = true := by simpa using heq
        rw [if_pos heq] at hp
        obtain ⟨rfl, rfl, rfl⟩ : false = b ∧ NS = NS' ∧ true = lag' := by simpa using hp
        rw [hl]
        clear hp heq hl
        go_enter Try.func24, Try.ntmps24
        go_wp2
        refine wp_region_quiet_lit (by kernel_rfl) (by kernel_rfl) ?_
        repeat (first | go_big_quiet_skip | (go_big_quiet_want; first | ((fail); (try simp only [Act.put, List.setIfInBounds_toArray, List.set_cons_zero, List.set_cons_succ]); go_big_quiet_on) | (go_big_quiet_op; first | go_big_quiet_on | go_big_quiet_call (fail))))
        refine wpQuiet_nil ?_
        intro _ hw'
        obtain ⟨nq', hw''⟩ := hw'
        subst hw''
        obtain ⟨n1, hn1⟩ : ∃ n1, n1 = nq' := ⟨_, rfl⟩
        subst hn1
        go_wp2
        refine wp_region_quiet_lit (by kernel_rfl) (by kernel_rfl) ?_
        repeat (first | go_big_quiet_skip | (go_big_quiet_want; first | ((fail); (try simp only [Act.put, List.setIfInBounds_toArray, List.set_cons_zero, List.set_cons_succ]); go_big_quiet_on) | (go_big_quiet_op; first | go_big_quiet_on | go_big_quiet_call (fail))))
        refine wpQuiet_nil ?_
        intro _ hw'
        obtain ⟨nq', hw''⟩ := hw'
        subst hw''
        go_wp2
        go_ret
        have hx2 : Ext W (W.drewN (n1 + nq')) := (Ext.refl _).drewN _
        exact ⟨⟨_, _, rfl, (HR.out.ext hx2).set2 true, own_setCell' (own_ext HO.out hx2) HNE.out _⟩, (kW.trans hx2).setCell (p := ⟨B, 2, none⟩) hB _⟩
end Go.Proofs.Ytfngnajcmdaphaa
