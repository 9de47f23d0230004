/- The contracts of layer 6: New, and the document's New and Same. -/
import Derived.Test.YtoifhpcpahfddaaTreePut
import Derived.Test.YtoifhpcpahfddaaTreeThree
namespace Go.Proofs.Ytoifhpcpahfddaa
open Go.RowKit Go.WideShapes Go.ChangeShapes
set_option linter.unusedVariables false
set_option linter.unusedSimpArgs false





namespace Tree
def newN (r : List Int) (s : Nat) : Node := ⟨r, -1, s, 0⟩
def newB (s : Nat) : Bool := decide (s ≤ 1099511627776)
def newV (r : List Int) (s : Nat) : List Node := if newB s = true then [newN r s] else []
theorem may_one (r : List Int) (s : Nat) : mayV [newN r s] = newB s := by
  unfold mayV newB newN
  have h1 : (List.range [(⟨r, -1, s, 0⟩ : Node)].length).all (fitsV [⟨r, -1, s, 0⟩]) = decide (s ≤ 1099511627776) := by
    show ((fitsV [⟨r, -1, s, 0⟩] 0) && true) = _
    unfold fitsV
    rw [if_pos rfl, Bool.and_true]
    show (decide ((-1 : Int) = -1) && decide (s ≤ 1099511627776)) = _
    simp
  rw [h1]
  simp [roots]
end Tree
theorem build_new {r : List Int} (h : RootOk r) (s : Nat) : ((List.foldl (fun (cs : Array Value) (x : Value × Nat) => cs.setIfInBounds x.snd x.fst) (#[Value.int .u8 0, Value.int .u8 0, Value.int .u8 0, Value.int .u8 0, Value.int .u8 0, Value.int .u8 0, Value.int .u8 0, Value.int .u8 0, Value.int .u8 0, Value.int .u8 0, Value.int .u8 0, Value.int .u8 0, Value.int .u8 0, Value.int .u8 0, Value.int .u8 0, Value.int .u8 0, Value.int .u8 0, Value.int .u8 0, Value.int .u8 0, Value.int .u8 0, Value.int .u8 0, Value.int .u8 0, Value.int .u8 0, Value.int .u8 0, Value.int .u8 0, Value.int .u8 0, Value.int .u8 0, Value.int .u8 0, Value.int .u8 0, Value.int .u8 0, Value.int .u8 0, Value.int .u8 0, Value.int .i64 0, Value.int .u64 0, Value.int .u64 0]) (rootC r).zipIdx).setIfInBounds 32 (.int .i64 (-1))).setIfInBounds 33 (.int .u64 s) = (Node.cells ⟨r, -1, s, 0⟩).toArray := by
  have hr := rootC_len h
  have hf := fold_put (rootC r) 0 0 (#[Value.int .u8 0, Value.int .u8 0, Value.int .u8 0, Value.int .u8 0, Value.int .u8 0, Value.int .u8 0, Value.int .u8 0, Value.int .u8 0, Value.int .u8 0, Value.int .u8 0, Value.int .u8 0, Value.int .u8 0, Value.int .u8 0, Value.int .u8 0, Value.int .u8 0, Value.int .u8 0, Value.int .u8 0, Value.int .u8 0, Value.int .u8 0, Value.int .u8 0, Value.int .u8 0, Value.int .u8 0, Value.int .u8 0, Value.int .u8 0, Value.int .u8 0, Value.int .u8 0, Value.int .u8 0, Value.int .u8 0, Value.int .u8 0, Value.int .u8 0, Value.int .u8 0, Value.int .u8 0, Value.int .i64 0, Value.int .u64 0, Value.int .u64 0])
  simp only [Nat.zero_add] at hf
  rw [hf]
  apply Array.toList_inj.1
  rw [Array.toList_setIfInBounds, Array.toList_setIfInBounds, putAll_list _ _ _ (by rw [hr]; decide)]
  rw [Nat.zero_add, hr]
  unfold Node.cells
  have e : ∀ (L : List Value) (a b c x y : Value), L.length = 32 → ((L ++ [a, b, c]).set 32 x).set 33 y = L ++ [x, y, c] := fun L a b c x y hL => by
    rw [List.set_append_right _ _ (by omega), hL, List.set_append_right _ _ (by omega), hL]
    rfl
  exact e (rootC r) _ _ _ _ _ hr
set_option maxHeartbeats 2000000 in
theorem rsame_any (A : Option Addr) (n c : Nat) (B : Option Addr) (m d : Nat) (l k : List Node) (w : World) (h : NL w A n c l) (g : NL w B m d k) :
    Calls Try.prog 23 #[.agg #[.slice A n c], .agg #[.slice B m d]] w fun e w' => e = .returned (.bool (eqN l k)) ∧ Ext w w' := by
  have hl := h.len
  have gl := g.len
  have hroom := h.row.room
  have H1 := Lib.hid (fun W (k : Ext w W) => h.ext k)
  have H2 := Lib.hid (fun W (k : Ext w W) => g.ext k)
  clear h g
  by_cases hlen : n = m
  · subst hlen
    have gne : ((n : Int) != n) = false := by simp
    have HL := Lib.hid hl
    have GL := Lib.hid gl
    clear hl gl
    go_enter Try.func23, Try.ntmps23
    go_wp2
    obtain ⟨w1, hw1⟩ : ∃ w1, (w.alloc (.cells #[.slice A n c] 24)).alloc (.cells #[.slice B n d] 24) = w1 := ⟨_, rfl⟩
    have t1 : w1.cell? ⟨w.heap.size, 0, none⟩ = some (.slice A n c) := by rw [← hw1]; simp (maxDischargeDepth := 7) [go_sem]
    have t2 : w1.cell? ⟨w.heap.size + 1, 0, none⟩ = some (.slice B n d) := by rw [← hw1]; simp (maxDischargeDepth := 7) [go_sem]
    have k1 : Ext w w1 := by rw [← hw1]; exact (by repeat (first | assumption | exact Ext.refl _ | refine Ext.alloc ?_ _ | refine Ext.drew ?_ | refine Ext.drewN ?_ _ | refine Ext.setCell ?_ (by first | (simp; done) | omega | (simp; omega)) _ | refine Ext.trans (by assumption) ?_))
    rw [hw1]
    have T1 := Lib.hid t1
    have T2 := Lib.hid t2
    clear hw1 t1 t2
    go_loopw [5] (fun i' wr => ∃ i : Nat, i ≤ n ∧ i' = .int .i64 i ∧ (∀ j, j < i → Tree.nd l j = Tree.nd k j) ∧ Ext w1 wr) (fun i' _ => n - (intOf i').toNat)
    case atStart => exact ⟨0, Nat.zero_le _, rfl, (fun j hj => absurd hj (Nat.not_lt_zero j)), Ext.refl _⟩
    case round =>
      obtain ⟨i, hi, rfl, hs, hx⟩ := hrel
      have HS := Lib.hid hs
      have t1 := hx.cell T1.out
      have t2 := hx.cell T2.out
      have kr := k1.trans hx
      clear hs
      by_cases hlt : i < n
      · obtain ⟨b, off, rfl, r1, ok1⟩ := (H1.out _ kr).at' hlt
        obtain ⟨b2, off2, rfl, r2, ok2⟩ := (H2.out _ kr).at' hlt
        change wr.rangeAt _ _ (Tree.nd l i).cells at r1
        change wr.rangeAt _ _ (Tree.nd k i).cells at r2
        replace ok1 : (Tree.nd l i).Ok := ok1
        replace ok2 : (Tree.nd k i).Ok := ok2
        have gi : (i : Int) < n := by omega
        obtain ⟨x, ex⟩ : ∃ x, Tree.nd l i = x := ⟨_, rfl⟩
        obtain ⟨y, ey⟩ : ∃ y, Tree.nd k i = y := ⟨_, rfl⟩
        rw [ex] at r1 ok1
        rw [ey] at r2 ok2
        have hi35 : (Try.prog.info? 34).map (·.size) = some x.cells.length := by rw [Node.len ok1]; kernel_rfl
        have hj35 : (Try.prog.info? 34).map (·.size) = some y.cells.length := by rw [Node.len ok2]; kernel_rfl
        have hq := node_load_eq ok1 ok2
        have HX := Lib.hid ex
        have HY := Lib.hid ey
        clear ex ey
        obtain ⟨q, eq⟩ : ∃ q, x.eqb y = q := ⟨_, rfl⟩
        rw [eq] at hq
        have HQ := Lib.hid eq
        clear eq ok1 ok2
        cases q with
        | true =>
          go_wp2
          refine wp_region_quiet_lit (by kernel_rfl) (by kernel_rfl) ?_
          repeat (first | go_big_quiet_skip | (go_big_quiet_want; first | ((first | (refine quiet_load_mid 34 _ rfl _ _ rfl x.cells _ (fun W ⟨p, hp⟩ => hp ▸ rangeAt_ext r1 ((Ext.refl _).drewN p)) Try.underlying34 rfl hi35 ?_) | (refine quiet_load_mid 34 _ rfl _ _ rfl y.cells _ (fun W ⟨p, hp⟩ => hp ▸ rangeAt_ext r2 ((Ext.refl _).drewN p)) Try.underlying34 rfl hj35 ?_)); (try simp only [Act.put, List.setIfInBounds_toArray, List.set_cons_zero, List.set_cons_succ]); go_big_quiet_on) | (go_big_quiet_op; first | go_big_quiet_on | go_big_quiet_call (fail))))
          refine wpQuiet_nil ?_
          intro _ hw'
          obtain ⟨nq', hw''⟩ := hw'
          subst hw''
          go_wp2
          go_roundw
          case rel =>
            have hs' : ∀ j, j < i + 1 → Tree.nd l j = Tree.nd k j := fun j hj => by
              rcases Nat.lt_or_eq_of_le (Nat.lt_succ_iff.1 hj) with h | rfl
              · exact HS.out j h
              · rw [HX.out, HY.out]; exact Node.eqb_iff.1 HQ.out
            first | exact ⟨i + 1, by omega, by go_num, hs', hx.drewN _⟩ | (refine ⟨_, ⟨i + 1, by omega, ?_, hs', hx.drewN _⟩, rfl⟩; go_num)
          case measure => simp [intOf]; omega
        | false =>
          have HE : Hid (eqN l k = false) := Bool.eq_false_iff.2 (fun h => by
            have := eqN_iff.1 h
            subst this
            have := HX.out.symm.trans HY.out
            subst this
            have h1 := HQ.out
            rw [Node.eqb_iff.2 rfl] at h1
            cases h1)
          go_wp2
          refine wp_region_quiet_lit (by kernel_rfl) (by kernel_rfl) ?_
          repeat (first | go_big_quiet_skip | (go_big_quiet_want; first | ((first | (refine quiet_load_mid 34 _ rfl _ _ rfl x.cells _ (fun W ⟨p, hp⟩ => hp ▸ rangeAt_ext r1 ((Ext.refl _).drewN p)) Try.underlying34 rfl hi35 ?_) | (refine quiet_load_mid 34 _ rfl _ _ rfl y.cells _ (fun W ⟨p, hp⟩ => hp ▸ rangeAt_ext r2 ((Ext.refl _).drewN p)) Try.underlying34 rfl hj35 ?_)); (try simp only [Act.put, List.setIfInBounds_toArray, List.set_cons_zero, List.set_cons_succ]); go_big_quiet_on) | (go_big_quiet_op; first | go_big_quiet_on | go_big_quiet_call (fail))))
          refine wpQuiet_nil ?_
          intro _ hw'
          obtain ⟨nq', hw''⟩ := hw'
          subst hw''
          go_wp2
          go_ret
          exact ⟨by rw [HE.out]; rfl, kr.drewN _⟩
      · obtain rfl : n = i := by omega
        have HE : Hid (eqN l k = true) := eqN_iff.2 (list_nd (by rw [HL.out, GL.out]) (fun j hj => HS.out j (by rw [HL.out] at hj; exact hj)))
        go_wp2
        go_ret
        exact ⟨by rw [HE.out]; rfl, kr⟩
  · have HE : Hid (eqN l k = false) := Bool.eq_false_iff.2 (fun h => hlen (by have := eqN_iff.1 h; subst this; exact hl.symm.trans gl))
    have gne : ((n : Int) != m) = true := by simp; omega
    clear hl gl
    go_enter Try.func23, Try.ntmps23
    go_wp2
    go_ret
    exact ⟨by rw [HE.out]; rfl, (by repeat (first | assumption | exact Ext.refl _ | refine Ext.alloc ?_ _ | refine Ext.drew ?_ | refine Ext.drewN ?_ _ | refine Ext.setCell ?_ (by first | (simp; done) | omega | (simp; omega)) _ | refine Ext.trans (by assumption) ?_))⟩
set_option maxRecDepth 100000 in
set_option maxHeartbeats 2000000 in
theorem rnew_any (r : List Int) (hr : RootOk r) (s : Nat) (hs : s < 18446744073709551616) (w : World) :
    Calls Try.prog 22 #[.agg (rootC r).toArray, .int .u64 s] w fun e w' => (∃ A m c, e = .returned (.tuple #[.agg #[.slice A m c], .bool (Tree.newB s)]) ∧ NL w' A m c (Tree.newV r s)) ∧ Ext w w' := by
  have hi32 : (Try.prog.info? 32).map (·.size) = some (rootC r).length := by rw [rootC_len hr]; kernel_rfl
  by_cases h : s ≤ 1099511627776
  · have g : decide ((1099511627776 : Int) < s) = false := decide_eq_false (by omega)
    have HB : Hid (Tree.newB s = true) := decide_eq_true h
    have HV : Hid (Tree.newV r s = [Tree.newN r s]) := by show _ = _; unfold Tree.newV; rw [HB.out, if_pos rfl]
    have hb := build_new hr s
    have hr32 := rootC_len hr
    have hs35 : (List.foldl (fun (c : Array Value) (x : Value × Nat) => c.setIfInBounds x.snd x.fst) (#[Value.int .u8 0, Value.int .u8 0, Value.int .u8 0, Value.int .u8 0, Value.int .u8 0, Value.int .u8 0, Value.int .u8 0, Value.int .u8 0, Value.int .u8 0, Value.int .u8 0, Value.int .u8 0, Value.int .u8 0, Value.int .u8 0, Value.int .u8 0, Value.int .u8 0, Value.int .u8 0, Value.int .u8 0, Value.int .u8 0, Value.int .u8 0, Value.int .u8 0, Value.int .u8 0, Value.int .u8 0, Value.int .u8 0, Value.int .u8 0, Value.int .u8 0, Value.int .u8 0, Value.int .u8 0, Value.int .u8 0, Value.int .u8 0, Value.int .u8 0, Value.int .u8 0, Value.int .u8 0, Value.int .i64 0, Value.int .u64 0, Value.int .u64 0]) (rootC r).zipIdx).size = 35 := size_put0 _ _
    have hxok : Node.Ok ⟨r, -1, s, 0⟩ := ⟨hr, by show (Lit.int .i64 (-1)).wf = true; decide, hs, by show (0 : Nat) < 18446744073709551616; omega⟩
    obtain ⟨x, hx⟩ : ∃ x : Node, (⟨r, -1, s, 0⟩ : Node) = x := ⟨_, rfl⟩
    rw [hx] at hb hxok
    have hl35 := Node.len hxok
    have HXN : Hid (Tree.newN r s = x) := hx
    have HXO := Lib.hid hxok
    have hbuild : List.foldl (fun (c : Array Value) (x : Value × Nat) => c.setIfInBounds x.snd x.fst) (#[Value.int .u8 0, Value.int .u8 0, Value.int .u8 0, Value.int .u8 0, Value.int .u8 0, Value.int .u8 0, Value.int .u8 0, Value.int .u8 0, Value.int .u8 0, Value.int .u8 0, Value.int .u8 0, Value.int .u8 0, Value.int .u8 0, Value.int .u8 0, Value.int .u8 0, Value.int .u8 0, Value.int .u8 0, Value.int .u8 0, Value.int .u8 0, Value.int .u8 0, Value.int .u8 0, Value.int .u8 0, Value.int .u8 0, Value.int .u8 0, Value.int .u8 0, Value.int .u8 0, Value.int .u8 0, Value.int .u8 0, Value.int .u8 0, Value.int .u8 0, Value.int .u8 0, Value.int .u8 0, Value.int .i64 0, Value.int .u64 0, Value.int .u64 0]) x.cells.zipIdx = x.cells.toArray := fold_put0 (by rw [hl35]; rfl)
    have rR := range_at (w := w) (B := w.heap.size) (rootC r) 32 rfl
    clear h hx hxok
    go_enter Try.func22, Try.ntmps22
    go_wp2_with (refine wpList_load_mid rfl 32 _ rfl _ _ rfl (rootC r) _ (rangeAt_ext rR ((by repeat (first | assumption | exact Ext.refl _ | refine Ext.alloc ?_ _ | refine Ext.drew ?_ | refine Ext.drewN ?_ _ | refine Ext.setCell ?_ (by first | (simp; done) | omega | (simp; omega)) _ | refine Ext.trans (by assumption) ?_)))) Try.underlying32 rfl hi32 ?_)
    refine bodyPost_ret (v := .tuple #[.agg #[.slice (some ⟨w.heap.size + 1 + 1, 0, none⟩) 1 1], .bool true]) (by simp (maxDischargeDepth := 7) [results, Try.results22, go_sem]) rfl ⟨⟨_, _, _, by rw [HB.out], ?_⟩, ?_⟩
    · rw [HV.out, HXN.out]
      refine NL.made (by simp) (by simp [hl35]) (by simp [flatN]) (by omega) rfl (fun y hy => ?_)
      rw [List.mem_singleton] at hy
      subst hy
      exact HXO.out
    · exact (by repeat (first | assumption | exact Ext.refl _ | refine Ext.alloc ?_ _ | refine Ext.drew ?_ | refine Ext.drewN ?_ _ | refine Ext.setCell ?_ (by first | (simp; done) | omega | (simp; omega)) _ | refine Ext.trans (by assumption) ?_))
  · have g : (1099511627776 : Int) < s := by omega
    have HB : Hid (Tree.newB s = false) := decide_eq_false h
    have HV : Hid (Tree.newV r s = []) := by show _ = _; unfold Tree.newV; rw [HB.out, if_neg (by simp)]
    clear h
    go_enter Try.func22, Try.ntmps22
    go_wp2
    refine bodyPost_ret (v := .tuple #[.agg #[.slice none 0 0], .bool false]) (by simp (maxDischargeDepth := 7) [results, Try.results22, go_sem]) rfl ⟨⟨_, _, _, by rw [HB.out], ?_⟩, ?_⟩
    · rw [HV.out]; exact NL.nil_mk _
    · exact (by repeat (first | assumption | exact Ext.refl _ | refine Ext.alloc ?_ _ | refine Ext.drew ?_ | refine Ext.drewN ?_ _ | refine Ext.setCell ?_ (by first | (simp; done) | omega | (simp; omega)) _ | refine Ext.trans (by assumption) ?_))
theorem nl_one {w : World} {x : Node} (h : x.Ok) {B : Nat} (hB : B = w.heap.size) : NL (w.alloc (.cells x.cells.toArray 34)) (some ⟨B, 0, none⟩) 1 1 [x] := by
  refine NL.made hB (by rw [List.size_toArray, Node.len h]) (by simp [flatN]) (by omega) rfl (fun y hy => ?_)
  rw [List.mem_singleton] at hy
  subst hy
  exact h

set_option maxRecDepth 100000 in
set_option maxHeartbeats 2000000 in
theorem tnew_any (r : List Int) (hr : RootOk r) (s : Nat) (hs : s < 18446744073709551616) (w : World) :
    Calls Try.prog 21 #[.agg (rootC r).toArray, .int .u64 s] w fun e w' => (∃ A m c, e = .returned (.tuple #[.agg #[.slice A m c], .bool (Tree.newB s)]) ∧ NL w' A m c (Tree.newV r s)) ∧ Ext w w' := by
  have hi32 : (Try.prog.info? 32).map (·.size) = some (rootC r).length := by rw [rootC_len hr]; kernel_rfl
  have hb := build_new hr s
  have hr32 := rootC_len hr
  have hs35 : (List.foldl (fun (c : Array Value) (x : Value × Nat) => c.setIfInBounds x.snd x.fst) (#[Value.int .u8 0, Value.int .u8 0, Value.int .u8 0, Value.int .u8 0, Value.int .u8 0, Value.int .u8 0, Value.int .u8 0, Value.int .u8 0, Value.int .u8 0, Value.int .u8 0, Value.int .u8 0, Value.int .u8 0, Value.int .u8 0, Value.int .u8 0, Value.int .u8 0, Value.int .u8 0, Value.int .u8 0, Value.int .u8 0, Value.int .u8 0, Value.int .u8 0, Value.int .u8 0, Value.int .u8 0, Value.int .u8 0, Value.int .u8 0, Value.int .u8 0, Value.int .u8 0, Value.int .u8 0, Value.int .u8 0, Value.int .u8 0, Value.int .u8 0, Value.int .u8 0, Value.int .u8 0, Value.int .i64 0, Value.int .u64 0, Value.int .u64 0]) (rootC r).zipIdx).size = 35 := size_put0 _ _
  have hxok : Node.Ok ⟨r, -1, s, 0⟩ := ⟨hr, by show (Lit.int .i64 (-1)).wf = true; decide, hs, by show (0 : Nat) < 18446744073709551616; omega⟩
  have hmb := Tree.may_one r s
  unfold Tree.newN at hmb
  obtain ⟨x, hx⟩ : ∃ x : Node, (⟨r, -1, s, 0⟩ : Node) = x := ⟨_, rfl⟩
  rw [hx] at hb hxok hmb
  have hl35 := Node.len hxok
  have HXN : Hid (Tree.newN r s = x) := hx
  have HXO := Lib.hid hxok
  have HXL := Lib.hid hl35
  have HX1 : Hid (∀ y ∈ [x], Node.Ok y) := fun y hy => by rw [List.mem_singleton] at hy; subst hy; exact hxok
  have hbuild : List.foldl (fun (c : Array Value) (x : Value × Nat) => c.setIfInBounds x.snd x.fst) (#[Value.int .u8 0, Value.int .u8 0, Value.int .u8 0, Value.int .u8 0, Value.int .u8 0, Value.int .u8 0, Value.int .u8 0, Value.int .u8 0, Value.int .u8 0, Value.int .u8 0, Value.int .u8 0, Value.int .u8 0, Value.int .u8 0, Value.int .u8 0, Value.int .u8 0, Value.int .u8 0, Value.int .u8 0, Value.int .u8 0, Value.int .u8 0, Value.int .u8 0, Value.int .u8 0, Value.int .u8 0, Value.int .u8 0, Value.int .u8 0, Value.int .u8 0, Value.int .u8 0, Value.int .u8 0, Value.int .u8 0, Value.int .u8 0, Value.int .u8 0, Value.int .u8 0, Value.int .u8 0, Value.int .i64 0, Value.int .u64 0, Value.int .u64 0]) x.cells.zipIdx = x.cells.toArray := fold_put0 (by rw [hl35]; rfl)
  have rR := range_at (w := w) (B := w.heap.size) (rootC r) 32 rfl
  cases hq : Tree.newB s with
  | true =>
    have HMB : Hid (Tree.mayV [x] = true) := hmb.trans hq
    have HV : Hid (Tree.newV r s = [x]) := by show _ = _; unfold Tree.newV; rw [hq, if_pos rfl, HXN.out]
    clear hx hxok hq hmb
    go_enter Try.func21, Try.ntmps21
    go_wp2_with (refine wpList_load_mid rfl 32 _ rfl _ _ rfl (rootC r) _ (rangeAt_ext rR ((by repeat (first | assumption | exact Ext.refl _ | refine Ext.alloc ?_ _ | refine Ext.drew ?_ | refine Ext.drewN ?_ _ | refine Ext.setCell ?_ (by first | (simp; done) | omega | (simp; omega)) _ | refine Ext.trans (by assumption) ?_)))) Try.underlying32 rfl hi32 ?_)
    refine (treeMay_is (some ⟨w.heap.size + 1 + 1, 0, none⟩) 1 1 [x] true HMB.out _ (NL.ext (nl_one (w := (w.alloc (.cells (rootC r).toArray 32)).alloc (.cells #[.slice none 0 0] 24)) HXO.out (by simp)) ((by repeat (first | assumption | exact Ext.refl _ | refine Ext.alloc ?_ _ | refine Ext.drew ?_ | refine Ext.drewN ?_ _ | refine Ext.setCell ?_ (by first | (simp; done) | omega | (simp; omega)) _ | refine Ext.trans (by assumption) ?_))))).mono ?_
    rintro e w1 ⟨rfl, hx1⟩
    have k1 : Ext w w1 := Ext.trans ((by repeat (first | assumption | exact Ext.refl _ | refine Ext.alloc ?_ _ | refine Ext.drew ?_ | refine Ext.drewN ?_ _ | refine Ext.setCell ?_ (by first | (simp; done) | omega | (simp; omega)) _ | refine Ext.trans (by assumption) ?_))) hx1
    have c4 : w1.cell? ⟨w.heap.size + 1, 0, none⟩ = some (.slice none 0 0) := hx1.cell (by simp (maxDischargeDepth := 7) [go_sem])
    have f4 : w1.frozen? ⟨w.heap.size + 1, 0, none⟩ = false := (hx1.out.frozen (p := ⟨w.heap.size + 1, 0, none⟩) (by simp)).trans (by simp (maxDischargeDepth := 7) [go_sem])
    have c6 : w1.cell? ⟨w.heap.size + 1 + 1 + 1, 0, none⟩ = some (.slice (some ⟨w.heap.size + 1 + 1, 0, none⟩) 1 1) := hx1.cell (by simp (maxDischargeDepth := 7) [go_sem])
    have l4 := lt_of_cell c4
    have l6 := lt_of_cell c6
    have hn := NL.ext (nl_one (w := (w.alloc (.cells (rootC r).toArray 32)).alloc (.cells #[.slice none 0 0] 24)) (B := w.heap.size + 1 + 1) HXO.out (by simp)) (Ext.trans ((by repeat (first | assumption | exact Ext.refl _ | refine Ext.alloc ?_ _ | refine Ext.drew ?_ | refine Ext.drewN ?_ _ | refine Ext.setCell ?_ (by first | (simp; done) | omega | (simp; omega)) _ | refine Ext.trans (by assumption) ?_))) hx1)
    have HN := Lib.hid hn
    clear hn
    go_wp2
    refine bodyPost_ret (v := .tuple #[.agg #[.slice (some ⟨w.heap.size + 1 + 1, 0, none⟩) 1 1], .bool true]) (by simp (maxDischargeDepth := 7) [results, Try.results21, go_sem, c4, f4]) rfl ⟨⟨_, _, _, rfl, ?_⟩, ?_⟩
    · rw [HV.out]
      exact HN.out.setCell (fun ad e => by cases e; show w.heap.size + 1 + 1 ≠ w.heap.size + 1; omega) _
    · exact k1.setCell (p := ⟨w.heap.size + 1, 0, none⟩) (by show w.heap.size ≤ w.heap.size + 1; omega) _
  | false =>
    have HMB : Hid (Tree.mayV [x] = false) := hmb.trans hq
    have HV : Hid (Tree.newV r s = []) := by show _ = _; unfold Tree.newV; rw [hq, if_neg (by simp)]
    clear hx hxok hq hmb
    go_enter Try.func21, Try.ntmps21
    go_wp2_with (refine wpList_load_mid rfl 32 _ rfl _ _ rfl (rootC r) _ (rangeAt_ext rR ((by repeat (first | assumption | exact Ext.refl _ | refine Ext.alloc ?_ _ | refine Ext.drew ?_ | refine Ext.drewN ?_ _ | refine Ext.setCell ?_ (by first | (simp; done) | omega | (simp; omega)) _ | refine Ext.trans (by assumption) ?_)))) Try.underlying32 rfl hi32 ?_)
    refine (treeMay_is (some ⟨w.heap.size + 1 + 1, 0, none⟩) 1 1 [x] false HMB.out _ (NL.ext (nl_one (w := (w.alloc (.cells (rootC r).toArray 32)).alloc (.cells #[.slice none 0 0] 24)) HXO.out (by simp)) ((by repeat (first | assumption | exact Ext.refl _ | refine Ext.alloc ?_ _ | refine Ext.drew ?_ | refine Ext.drewN ?_ _ | refine Ext.setCell ?_ (by first | (simp; done) | omega | (simp; omega)) _ | refine Ext.trans (by assumption) ?_))))).mono ?_
    rintro e w1 ⟨rfl, hx1⟩
    have k1 : Ext w w1 := Ext.trans ((by repeat (first | assumption | exact Ext.refl _ | refine Ext.alloc ?_ _ | refine Ext.drew ?_ | refine Ext.drewN ?_ _ | refine Ext.setCell ?_ (by first | (simp; done) | omega | (simp; omega)) _ | refine Ext.trans (by assumption) ?_))) hx1
    have c4 : w1.cell? ⟨w.heap.size + 1, 0, none⟩ = some (.slice none 0 0) := hx1.cell (by simp (maxDischargeDepth := 7) [go_sem])
    have f4 : w1.frozen? ⟨w.heap.size + 1, 0, none⟩ = false := (hx1.out.frozen (p := ⟨w.heap.size + 1, 0, none⟩) (by simp)).trans (by simp (maxDischargeDepth := 7) [go_sem])
    have c6 : w1.cell? ⟨w.heap.size + 1 + 1 + 1, 0, none⟩ = some (.slice (some ⟨w.heap.size + 1 + 1, 0, none⟩) 1 1) := hx1.cell (by simp (maxDischargeDepth := 7) [go_sem])
    have l4 := lt_of_cell c4
    have l6 := lt_of_cell c6
    go_wp2
    refine bodyPost_ret (v := .tuple #[.agg #[.slice none 0 0], .bool false]) (by simp (maxDischargeDepth := 7) [results, Try.results21, go_sem, c4, f4]) rfl ⟨⟨_, _, _, rfl, ?_⟩, ?_⟩
    · rw [HV.out]; exact NL.nil_mk _
    · first | exact k1 | exact k1.setCell (p := ⟨w.heap.size + 1, 0, none⟩) (by show w.heap.size ≤ w.heap.size + 1; omega) _
end Go.Proofs.Ytoifhpcpahfddaa
