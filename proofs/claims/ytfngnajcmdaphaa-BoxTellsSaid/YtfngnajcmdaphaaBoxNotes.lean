/- The document's answer of layer 5: are two lists of notes the same? -/
import Derived.Test.YtfngnajcmdaphaaBoxLaw
namespace Go.Proofs.Ytfngnajcmdaphaa
open Go.RowKit Go.WideShapes Go.ChangeShapes
set_option linter.unusedVariables false
set_option linter.unusedSimpArgs false






section
set_option maxRecDepth 100000
/-- A slice of one note. -/
theorem wp_build1 {op : Oper} {a : Act} {w : World} {K : Act → World → Prop} {Q : Exit → Act → World → Prop} (y : Nat) (ho : op.op = .buildSlice 22 1 #[(0, .tmp y)]) (cs : List Value) (hy' : a.eval (.tmp y) = .agg cs.toArray) (hl : cs.length = 66)
    (h : K (a.put op.dst (.slice (some ⟨w.heap.size, 0, none⟩) 1 1)) (w.alloc (.cells cs.toArray 33))) : op.wp Try.prog a w K Q := by
  have hzn := zeroNote
  have hzs := zNote_size
  have hze := zNote_ne
  have hy : a.tmps[y]?.getD undef = .agg cs.toArray := by simpa [Act.eval] using hy'
  unfold Oper.wp execOp
  simp only [ho]
  go_simp
  rw [fold_put0 (by rw [hl]; rfl)]
  exact h
theorem wpList_build1 {ops : Array Oper} {rest : List Oper} {op : Oper} {a : Act} {w : World} {Q : Exit → Act → World → Prop} (hgd : op.guard = none) (y : Nat) (ho : op.op = .buildSlice 22 1 #[(0, .tmp y)]) (cs : List Value) (hy : a.eval (.tmp y) = .agg cs.toArray) (hl : cs.length = 66) (B : Nat) (hB : B = w.heap.size)
    (h : wpList Try.prog ops Q rest (a.put op.dst (.slice (some ⟨B, 0, none⟩) 1 1)) (w.alloc (.cells cs.toArray 33))) : wpList Try.prog ops Q (op :: rest) a w :=
  wpList_plain hgd fun _ hK => wp_build1 y ho cs hy hl (hB ▸ hK _ _ h)
end


set_option maxHeartbeats 2000000 in
theorem rnotes_any (A : Option Addr) (n c : Nat) (B : Option Addr) (m d : Nat) (l k : List Note) (w : World) (h : TL w A n c l) (g : TL w B m d k) :
    Calls Try.prog 14 #[.slice A n c, .slice B m d] w fun e w' => e = .returned (.bool (eqT l k)) ∧ Ext w w' := by
  have hl := h.len
  have gl := g.len
  have hroom := h.row.room
  have H1 := Lib.hid (fun W (k : Ext w W) => h.ext k)
  have H2 := Lib.hid (fun W (k : Ext w W) => g.ext k)
  clear h g
  by_cases hlen : n = m
  · subst hlen
    have gne : ((n : Int) != n) = false := by simp
    have HL := Lib.hid hl
    have GL := Lib.hid gl
    clear hl gl
    go_enter Try.func14, Try.ntmps14
    go_wp2
    go_loopw [4, 5] (fun _ i' wr => ∃ i : Nat, i ≤ n ∧ i' = .int .i64 i ∧ (∀ j, j < i → Box.nt l j = Box.nt k j) ∧ Ext w wr) (fun _ i' _ => n - (intOf i').toNat)
    case atStart => exact ⟨0, Nat.zero_le _, rfl, (fun j hj => absurd hj (Nat.not_lt_zero j)), Ext.refl _⟩
    case round =>
      obtain ⟨i, hi, rfl, hs, hx⟩ := hrel
      have HS := Lib.hid hs
      clear hs
      by_cases hlt : i < n
      · obtain ⟨b, off, rfl, r1, ok1⟩ := (H1.out _ hx).at' hlt
        obtain ⟨b2, off2, rfl, r2, ok2⟩ := (H2.out _ hx).at' hlt
        change wr.rangeAt _ _ (Box.nt l i).cells at r1
        change wr.rangeAt _ _ (Box.nt k i).cells at r2
        replace ok1 : (Box.nt l i).Ok := ok1
        replace ok2 : (Box.nt k i).Ok := ok2
        have gi : (i : Int) < n := by omega
        obtain ⟨x, ex⟩ : ∃ x, Box.nt l i = x := ⟨_, rfl⟩
        obtain ⟨y, ey⟩ : ∃ y, Box.nt k i = y := ⟨_, rfl⟩
        rw [ex] at r1 ok1
        rw [ey] at r2 ok2
        have hi66 : (Try.prog.info? 33).map (·.size) = some x.cells.length := by rw [Note.len ok1]; kernel_rfl
        have hj66 : (Try.prog.info? 33).map (·.size) = some y.cells.length := by rw [Note.len ok2]; kernel_rfl
        have HX := Lib.hid ex
        have HY := Lib.hid ey
        clear ex ey
        by_cases hxy : x = y
        · have hq : ∀ W, (binOp .neq 33 (.agg x.cells.toArray) (.agg y.cells.toArray)).run Try.prog W = .ok (.bool false) W := fun W => Note.neq ok1 ok2 (b := true) (by simp [hxy]) W
          have hs' : ∀ j, j < i + 1 → Box.nt l j = Box.nt k j := fun j hj => by
            rcases Nat.lt_or_eq_of_le (Nat.lt_succ_iff.1 hj) with h | rfl
            · exact HS.out j h
            · rw [HX.out, HY.out, hxy]
          have HS' := Lib.hid hs'
          clear hs' hxy
          go_wp2
          refine wp_region_quiet_lit (by kernel_rfl) (by kernel_rfl) ?_
          repeat (first | go_big_quiet_skip | (go_big_quiet_want; first | ((first | (refine quiet_load_mid 33 _ rfl _ _ rfl x.cells _ (fun W ⟨nn, hn⟩ => hn ▸ rangeAt_ext r1 ((Ext.refl _).drewN nn)) Try.underlying33 rfl hi66 ?_) | (refine quiet_load_mid 33 _ rfl _ _ rfl y.cells _ (fun W ⟨nn, hn⟩ => hn ▸ rangeAt_ext r2 ((Ext.refl _).drewN nn)) Try.underlying33 rfl hj66 ?_)); (try simp only [Act.put, List.setIfInBounds_toArray, List.set_cons_zero, List.set_cons_succ]); go_big_quiet_on) | (go_big_quiet_op; first | go_big_quiet_on | go_big_quiet_call (fail))))
          refine wpQuiet_nil ?_
          intro _ hw'
          obtain ⟨nq', hw''⟩ := hw'
          subst hw''
          go_wp2
          go_roundw
          case rel => first | exact ⟨i + 1, by omega, by go_num, HS'.out, hx.drewN _⟩ | (refine ⟨_, ⟨i + 1, by omega, ?_, HS'.out, hx.drewN _⟩, rfl⟩; go_num) | (refine ⟨_, _, ⟨i + 1, by omega, ?_, HS'.out, hx.drewN _⟩, rfl, rfl⟩; go_num)
          case measure => simp [intOf]; omega
        · have hq : ∀ W, (binOp .neq 33 (.agg x.cells.toArray) (.agg y.cells.toArray)).run Try.prog W = .ok (.bool true) W := fun W => Note.neq ok1 ok2 (b := false) (by simp [hxy]) W
          have HE : Hid (eqT l k = false) := Bool.eq_false_iff.2 (fun h => hxy (by have := eqT_iff.1 h; subst this; exact HX.out.symm.trans HY.out))
          clear hxy
          go_wp2
          refine wp_region_quiet_lit (by kernel_rfl) (by kernel_rfl) ?_
          repeat (first | go_big_quiet_skip | (go_big_quiet_want; first | ((first | (refine quiet_load_mid 33 _ rfl _ _ rfl x.cells _ (fun W ⟨nn, hn⟩ => hn ▸ rangeAt_ext r1 ((Ext.refl _).drewN nn)) Try.underlying33 rfl hi66 ?_) | (refine quiet_load_mid 33 _ rfl _ _ rfl y.cells _ (fun W ⟨nn, hn⟩ => hn ▸ rangeAt_ext r2 ((Ext.refl _).drewN nn)) Try.underlying33 rfl hj66 ?_)); (try simp only [Act.put, List.setIfInBounds_toArray, List.set_cons_zero, List.set_cons_succ]); go_big_quiet_on) | (go_big_quiet_op; first | go_big_quiet_on | go_big_quiet_call (fail))))
          refine wpQuiet_nil ?_
          intro _ hw'
          obtain ⟨nq', hw''⟩ := hw'
          subst hw''
          go_wp2
          go_ret
          exact ⟨by rw [HE.out]; rfl, hx.drewN _⟩
      · obtain rfl : n = i := by omega
        have HE : Hid (eqT l k = true) := eqT_iff.2 (list_nt (by rw [HL.out, GL.out]) (fun j hj => HS.out j (by rw [HL.out] at hj; exact hj)))
        go_wp2
        go_ret
        exact ⟨by rw [HE.out]; rfl, hx⟩
  · have HE : Hid (eqT l k = false) := Bool.eq_false_iff.2 (fun h => hlen (by have := eqT_iff.1 h; subst this; exact hl.symm.trans gl))
    have gne : ((n : Int) != m) = true := by simp; omega
    clear hl gl
    go_enter Try.func14, Try.ntmps14
    go_wp2
    go_ret
    exact ⟨by rw [HE.out]; rfl, Ext.refl _⟩
end Go.Proofs.Ytfngnajcmdaphaa
