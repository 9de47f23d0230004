/- Blocks; the contracts of layer 6: slices.Clone of nodes, own, slices.Equal of nodes, Same. -/
import Derived.Test.YtoifhpcpahfddaaTreeUp
namespace Go.Proofs.Ytoifhpcpahfddaa
open Go.RowKit Go.WideShapes Go.ChangeShapes Go.Joins Go.Deep
set_option linter.unusedVariables false
set_option linter.unusedSimpArgs false





structure Block where
  root : List Int
  up : List Int
  slot : Nat
  just : Nat
namespace Block
def Ok (x : Block) : Prop := RootOk x.root ∧ RootOk x.up ∧ x.slot < 18446744073709551616 ∧ x.just < 18446744073709551616
def cells (x : Block) : List Value := rootC x.root ++ rootC x.up ++ [Value.int .u64 x.slot, Value.int .u64 x.just]
def zero : Block := ⟨zeroR, zeroR, 0, 0⟩
theorem len {x : Block} (h : x.Ok) : x.cells.length = 66 := by unfold cells; simp [rootC_len h.1, rootC_len h.2.1]
end Block
theorem reads_block : Reads Try.prog 44 Block.cells Block.Ok := by
  intro H enc w fuel cs x h
  obtain ⟨y0, y1, y2, y3, n, _, hl, h0, h1, h2, h3⟩ := trod_struct4 Try.underlying44 h
  have c0 : Try.prog.cellsOf 44 = 66 := by kernel_rfl
  have c1 : Try.prog.cellsOf 32 = 32 := by kernel_rfl
  have c3 : Try.prog.cellsOf 29 = 1 := by kernel_rfl
  simp only [c0, c1, c3] at hl h0 h1 h2 h3
  obtain ⟨r, e1, hr⟩ := reads_root _ _ _ _ _ _ h0
  obtain ⟨p, e2, hp⟩ := reads_root _ _ _ _ _ _ h1
  obtain ⟨s, e3, _, hs⟩ := DataW.trod_int Try.underlying29 h2
  obtain ⟨j, e4, _, hj⟩ := DataW.trod_int Try.underlying29 h3
  obtain ⟨s, rfl⟩ := Int.eq_ofNat_of_zero_le (bounds_u64 hs).1
  obtain ⟨j, rfl⟩ := Int.eq_ofNat_of_zero_le (bounds_u64 hj).1
  refine ⟨⟨r, p, s, j⟩, ?_, hr, hp, by have := (bounds_u64 hs).2; show s < _; omega, by have := (bounds_u64 hj).2; show j < _; omega⟩
  show cs = rootC r ++ rootC p ++ [.int .u64 s, .int .u64 j]
  have E0 : cs.take 32 = rootC r := by simpa using e1
  replace e2 : (cs.drop 32).take 32 = rootC p := e2
  have E3 : cs.drop 65 = [.int .u64 j] := by rw [← e4, List.take_of_length_le (by simp; omega)]
  have E2 : cs.drop 64 = [.int .u64 s] ++ cs.drop 65 := by rw [← e3, show (65 : Nat) = 64 + 1 from rfl, ← List.drop_drop, List.take_append_drop]
  have E1 : cs.drop 32 = rootC p ++ cs.drop 64 := by rw [← e2, show (64 : Nat) = 32 + 32 from rfl, ← List.drop_drop, List.take_append_drop]
  rw [← List.take_append_drop 32 cs, E0, E1, E2, E3]
  simp
theorem open_block {H : Type} {enc : TypeId × Value → H} {w : World} {b0 : Nat} {r : Reach} {v : Value} {d : DataW H} {ps : List MemPlace} (hval : Value.okWide Try.prog w r b0 44 v) (h : DataW.Trod enc Try.prog w 0 (fun _ => true) true 44 v d ps) : ∃ y : Block, v = .agg y.cells.toArray ∧ y.Ok :=
  open_agg reads_block (by obtain ⟨cs, e, _⟩ := okWide_struct Try.underlying44 hval; exact ⟨cs, e⟩) h
theorem NL.src {w : World} {A : Option Addr} {n c : Nat} {NS : List Node} (h : NL w A n c NS) : Src w 35 A n c (flatN NS) := wide_src (by omega) h.row
set_option maxHeartbeats 1000000 in
theorem cloneN_any (A : Option Addr) (n c : Nat) (NS : List Node) (w : World) (h : NL w A n c NS) :
    Calls Try.prog 42 #[.slice A n c] w fun e w' => (∃ v, e = .returned v ∧ w'.ownsRow w.heap.size 34 35 v n (flatN NS)) ∧ Ext w w' := by
  have hb := h.bytes
  cases A with
  | none =>
    have hc := h.row.nil rfl
    have hn : n = 0 := by have := h.row.cap; omega
    subst hc; subst hn
    have hl : NS = [] := List.eq_nil_of_length_eq_zero h.len
    subst hl
    have hnil := fun w => Lib.run_eql_slice_nil (P := Try.prog) w 22 34 none 0 0 0 0 Try.underlying22
    go_enter Try.func42, Try.ntmps42
    go_wp2
    go_ret
    exact ⟨⟨_, rfl, World.ownsRow_nil _ _ _ _⟩, Ext.refl _⟩
  | some a =>
    have hnil := fun w => Lib.run_eql_slice_nil (P := Try.prog) w 22 34 (some a) n c 0 0 Try.underlying22
    have HS := Lib.hid h.src
    clear h
    go_enter Try.func42, Try.ntmps42
    go_wp2_with (at_builtin; refine wpList_app rowNodes rfl _ _ rfl w.heap.size _ 0 [] rfl (World.ownsRow_made w #[] 0 (Nat.le_refl _) (by unfold maxLen; omega) rfl) (some a) n c (flatN NS) rfl (HS.out.ext ((Ext.refl _).alloc _)) (by omega) (by simp) ?_)
    intro v' w1 hown hgrow _
    go_wp2
    go_ret
    exact ⟨⟨_, rfl, by simpa using hown⟩, ((Ext.refl w).alloc _).grown hgrow (fun k hk => by cases hk; exact Nat.le_refl _)⟩
set_option maxHeartbeats 1000000 in
theorem own_any (A : Option Addr) (n c : Nat) (NS : List Node) (w : World) (h : NL w A n c NS) :
    Calls Try.prog 36 #[.agg #[.slice A n c]] w fun e w' => (∃ v, e = .returned (.agg #[v]) ∧ w'.ownsRow w.heap.size 34 35 v n (flatN NS)) ∧ Ext w w' := by
  have HC := Lib.hid (fun W (k : Ext w W) => cloneN_any A n c NS W (h.ext k))
  clear h
  go_enter Try.func36, Try.ntmps36
  go_wp2_with fail
  refine (HC.out _ ((by repeat (first | assumption | exact Ext.refl _ | refine Ext.alloc ?_ _ | refine Ext.drew ?_ | refine Ext.drewN ?_ _ | refine Ext.setCell ?_ (by first | (simp; done) | omega | (simp; omega)) _ | refine Ext.trans (by assumption) ?_)))).mono ?_
  rintro e w1 ⟨⟨v, rfl, hown⟩, hx1⟩
  have k1 : Ext w w1 := Ext.trans ((by repeat (first | assumption | exact Ext.refl _ | refine Ext.alloc ?_ _ | refine Ext.drew ?_ | refine Ext.drewN ?_ _ | refine Ext.setCell ?_ (by first | (simp; done) | omega | (simp; omega)) _ | refine Ext.trans (by assumption) ?_))) hx1
  have c1 : w1.cell? ⟨w.heap.size + 1, 0, none⟩ = some (.slice none 0 0) := hx1.cell (by simp (maxDischargeDepth := 7) [go_sem])
  have f1 : w1.frozen? ⟨w.heap.size + 1, 0, none⟩ = false := (hx1.out.frozen (p := ⟨w.heap.size + 1, 0, none⟩) (by simp)).trans (by simp (maxDischargeDepth := 7) [go_sem])
  have HOW := Lib.hid hown
  obtain ⟨A', c', rfl⟩ := own_form' hown
  have hb : ∀ k, (Value.slice A' n c').ownBlock = some k → w.heap.size + 2 ≤ k := fun k hk => by have := own_from hown k hk; simpa using this
  clear hown
  go_wp2
  refine bodyPost_ret (v := .agg #[.slice A' n c']) (by simp (maxDischargeDepth := 7) [results, Try.results36, go_sem, c1, f1]) rfl ⟨⟨_, rfl, ?_⟩, k1.setCell (by show w.heap.size ≤ w.heap.size + 1; omega) _⟩
  refine own_base (own_setCell (a := ⟨w.heap.size + 1, 0, none⟩) HOW.out (by show w.heap.size + 1 < _; simp) _) (by simp; omega)
theorem node_load_eq {x y : Node} (h : x.Ok) (g : y.Ok) : ∀ W, (binOp .neq 34 (.agg x.cells.toArray) (.agg y.cells.toArray)).run Try.prog W = .ok (.bool (!(x.eqb y))) W := fun W => Node.neq h g Node.eqb_iff W
/-- Are two trees' nodes the same? -/
def eqN : List Node → List Node → Bool
  | [], [] => true
  | x :: l, y :: m => x.eqb y && eqN l m
  | _, _ => false
theorem eqN_iff : ∀ {l m : List Node}, eqN l m = true ↔ l = m := by
  intro l
  induction l with
  | nil => intro m; cases m <;> simp [eqN]
  | cons x l ih =>
    intro m
    cases m with
    | nil => simp [eqN]
    | cons y m => simp [eqN, ih, Node.eqb_iff]
theorem list_nd {l m : List Node} (h : l.length = m.length) (e : ∀ k, k < l.length → Tree.nd l k = Tree.nd m k) : l = m := by
  apply List.ext_getElem h
  intro i h1 h2
  have := e i h1
  unfold Tree.nd at this
  simpa [List.getD, h1, h2] using this
set_option maxHeartbeats 2000000 in
theorem eqNodes_any (A : Option Addr) (n c : Nat) (B : Option Addr) (m d : Nat) (l k : List Node) (w : World) (h : NL w A n c l) (g : NL w B m d k) :
    Calls Try.prog 37 #[.slice A n c, .slice B m d] w fun e w' => e = .returned (.bool (eqN l k)) ∧ Ext w w' := by
  have hl := h.len
  have gl := g.len
  have hroom := h.row.room
  have H1 := Lib.hid (fun W (k : Ext w W) => h.ext k)
  have H2 := Lib.hid (fun W (k : Ext w W) => g.ext k)
  clear h g
  by_cases hlen : n = m
  · subst hlen
    have gne : ((n : Int) != n) = false := by simp
    have HL := Lib.hid hl
    have GL := Lib.hid gl
    clear hl gl
    go_enter Try.func37, Try.ntmps37
    go_wp2
    go_loopw [5, 13] (fun _ i' wr => ∃ i : Nat, i ≤ n ∧ i' = .int .i64 i ∧ (∀ j, j < i → Tree.nd l j = Tree.nd k j) ∧ Ext w wr) (fun _ i' _ => n - (intOf i').toNat)
    case atStart => exact ⟨0, Nat.zero_le _, rfl, (fun j hj => absurd hj (Nat.not_lt_zero j)), Ext.refl _⟩
    case round =>
      obtain ⟨i, hi, rfl, hs, hx⟩ := hrel
      have HS := Lib.hid hs
      clear hs
      by_cases hlt : i < n
      · obtain ⟨b, off, rfl, r1, ok1⟩ := (H1.out _ hx).at' hlt
        obtain ⟨b2, off2, rfl, r2, ok2⟩ := (H2.out _ hx).at' hlt
        change wr.rangeAt _ _ (Tree.nd l i).cells at r1
        change wr.rangeAt _ _ (Tree.nd k i).cells at r2
        replace ok1 : (Tree.nd l i).Ok := ok1
        replace ok2 : (Tree.nd k i).Ok := ok2
        have gi : (i : Int) < n := by omega
        obtain ⟨x, ex⟩ : ∃ x, Tree.nd l i = x := ⟨_, rfl⟩
        obtain ⟨y, ey⟩ : ∃ y, Tree.nd k i = y := ⟨_, rfl⟩
        rw [ex] at r1 ok1
        rw [ey] at r2 ok2
        have hi35 : (Try.prog.info? 34).map (·.size) = some x.cells.length := by rw [Node.len ok1]; kernel_rfl
        have hj35 : (Try.prog.info? 34).map (·.size) = some y.cells.length := by rw [Node.len ok2]; kernel_rfl
        have hq := node_load_eq ok1 ok2
        have HX := Lib.hid ex
        have HY := Lib.hid ey
        clear ex ey
        obtain ⟨q, eq⟩ : ∃ q, x.eqb y = q := ⟨_, rfl⟩
        rw [eq] at hq
        have HQ := Lib.hid eq
        clear eq ok1 ok2
        cases q with
        | true =>
          go_wp2
          refine wp_region_quiet_lit (by kernel_rfl) (by kernel_rfl) ?_
          repeat (first | go_big_quiet_skip | (go_big_quiet_want; first | ((first | (refine quiet_load_mid 34 _ rfl _ _ rfl x.cells _ (fun W ⟨p, hp⟩ => hp ▸ rangeAt_ext r1 ((Ext.refl _).drewN p)) Try.underlying34 rfl hi35 ?_) | (refine quiet_load_mid 34 _ rfl _ _ rfl y.cells _ (fun W ⟨p, hp⟩ => hp ▸ rangeAt_ext r2 ((Ext.refl _).drewN p)) Try.underlying34 rfl hj35 ?_)); (try simp only [Act.put, List.setIfInBounds_toArray, List.set_cons_zero, List.set_cons_succ]); go_big_quiet_on) | (go_big_quiet_op; first | go_big_quiet_on | go_big_quiet_call (fail))))
          refine wpQuiet_nil ?_
          intro _ hw'
          obtain ⟨nq', hw''⟩ := hw'
          subst hw''
          go_wp2
          go_roundw
          case rel =>
            have hs' : ∀ j, j < i + 1 → Tree.nd l j = Tree.nd k j := fun j hj => by
              rcases Nat.lt_or_eq_of_le (Nat.lt_succ_iff.1 hj) with h | rfl
              · exact HS.out j h
              · rw [HX.out, HY.out]; exact Node.eqb_iff.1 HQ.out
            first | exact ⟨i + 1, by omega, by go_num, hs', hx.drewN _⟩ | (refine ⟨_, ⟨i + 1, by omega, ?_, hs', hx.drewN _⟩, rfl⟩; go_num)
          case measure => simp [intOf]; omega
        | false =>
          have HE : Hid (eqN l k = false) := Bool.eq_false_iff.2 (fun h => by
            have := eqN_iff.1 h
            subst this
            have := HX.out.symm.trans HY.out
            subst this
            have h1 := HQ.out
            rw [Node.eqb_iff.2 rfl] at h1
            cases h1)
          go_wp2
          refine wp_region_quiet_lit (by kernel_rfl) (by kernel_rfl) ?_
          repeat (first | go_big_quiet_skip | (go_big_quiet_want; first | ((first | (refine quiet_load_mid 34 _ rfl _ _ rfl x.cells _ (fun W ⟨p, hp⟩ => hp ▸ rangeAt_ext r1 ((Ext.refl _).drewN p)) Try.underlying34 rfl hi35 ?_) | (refine quiet_load_mid 34 _ rfl _ _ rfl y.cells _ (fun W ⟨p, hp⟩ => hp ▸ rangeAt_ext r2 ((Ext.refl _).drewN p)) Try.underlying34 rfl hj35 ?_)); (try simp only [Act.put, List.setIfInBounds_toArray, List.set_cons_zero, List.set_cons_succ]); go_big_quiet_on) | (go_big_quiet_op; first | go_big_quiet_on | go_big_quiet_call (fail))))
          refine wpQuiet_nil ?_
          intro _ hw'
          obtain ⟨nq', hw''⟩ := hw'
          subst hw''
          go_wp2
          go_ret
          exact ⟨by rw [HE.out]; rfl, hx.drewN _⟩
      · obtain rfl : n = i := by omega
        have HE : Hid (eqN l k = true) := eqN_iff.2 (list_nd (by rw [HL.out, GL.out]) (fun j hj => HS.out j (by rw [HL.out] at hj; exact hj)))
        go_wp2
        go_ret
        exact ⟨by rw [HE.out]; rfl, hx⟩
  · have HE : Hid (eqN l k = false) := Bool.eq_false_iff.2 (fun h => hlen (by have := eqN_iff.1 h; subst this; exact hl.symm.trans gl))
    have gne : ((n : Int) != m) = true := by simp; omega
    clear hl gl
    go_enter Try.func37, Try.ntmps37
    go_wp2
    go_ret
    exact ⟨by rw [HE.out]; rfl, Ext.refl _⟩
theorem tsame_any (A : Option Addr) (n c : Nat) (B : Option Addr) (m d : Nat) (l k : List Node) (w : World) (h : NL w A n c l) (g : NL w B m d k) :
    Calls Try.prog 19 #[.agg #[.slice A n c], .agg #[.slice B m d]] w fun e w' => e = .returned (.bool (eqN l k)) ∧ Ext w w' := by
  have H := Lib.hid (fun W (kx : Ext w W) => eqNodes_any A n c B m d l k W (h.ext kx) (g.ext kx))
  clear h g
  generalize eqN l k = q at *
  go_enter Try.func19, Try.ntmps19
  go_wp2_with fail
  refine (H.out _ ((by repeat (first | assumption | exact Ext.refl _ | refine Ext.alloc ?_ _ | refine Ext.drew ?_ | refine Ext.drewN ?_ _ | refine Ext.setCell ?_ (by first | (simp; done) | omega | (simp; omega)) _ | refine Ext.trans (by assumption) ?_)))).mono ?_
  rintro e w1 ⟨rfl, hx1⟩
  go_wp2
  go_ret
  exact ⟨rfl, Ext.trans ((by repeat (first | assumption | exact Ext.refl _ | refine Ext.alloc ?_ _ | refine Ext.drew ?_ | refine Ext.drewN ?_ _ | refine Ext.setCell ?_ (by first | (simp; done) | omega | (simp; omega)) _ | refine Ext.trans (by assumption) ?_))) hx1⟩
theorem tsame_is (A : Option Addr) (n c : Nat) (B : Option Addr) (m d : Nat) (l k : List Node) (q : Bool) (hq : eqN l k = q) (w : World) (h : NL w A n c l) (g : NL w B m d k) :
    Calls Try.prog 19 #[.agg #[.slice A n c], .agg #[.slice B m d]] w fun e w' => e = .returned (.bool q) ∧ Ext w w' := by subst hq; exact tsame_any A n c B m d l k w h g
end Go.Proofs.Ytoifhpcpahfddaa
