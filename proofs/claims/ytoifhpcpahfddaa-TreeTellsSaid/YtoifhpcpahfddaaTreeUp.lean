/- The contracts of layer 6 (tree): is, line, Above, At, Kids. -/
import Derived.Test.YtoifhpcpahfddaaTree
import Derived.Test.YtoifhpcpahfddaaIterS
import Derived.Outline
import Derived.WalkMore
namespace Go.Proofs.Ytoifhpcpahfddaa
open Go.RowKit Go.WideShapes Go.ChangeShapes
set_option linter.unusedVariables false
set_option linter.unusedSimpArgs false
attribute [local go_sem] Oper.semAt_some





namespace Tree
/-- Is one of them no place? -/
def outB (n : Nat) (i : Int) : Bool := decide (i < 0 ∨ (n : Int) ≤ i)
def isL (T : List Node) (l : List Int) : Bool := mayV T && !(l.any (outB T.length))
end Tree
theorem is1_any (i : Int) (B : Nat) (A : Option Addr) (n c : Nat) (hn : n ≤ 17592186043904) (w : World) (hc : w.cell? ⟨B, 0, none⟩ = some (.slice A n c)) :
    Calls Try.prog 40 #[.int .i64 i, .pointer (some ⟨B, 0, none⟩)] w fun e w' => e = .returned (.bool (Tree.outB n i)) ∧ w' = w := by
  by_cases h0 : i < 0
  · have e : Tree.outB n i = true := by unfold Tree.outB; exact decide_eq_true (.inl h0)
    rw [e]
    have g0 : decide (i < 0) = true := decide_eq_true h0
    go_enter Try.func40, Try.ntmps40
    go_wp2
    go_ret
    exact ⟨rfl, rfl⟩
  · have g0 : decide (i < 0) = false := decide_eq_false h0
    by_cases h1 : (n : Int) ≤ i
    · have e : Tree.outB n i = true := by unfold Tree.outB; exact decide_eq_true (.inr h1)
      rw [e]
      clear e
      go_enter Try.func40, Try.ntmps40
      go_wp2
      go_ret
      exact ⟨rfl, rfl⟩
    · have e : Tree.outB n i = false := by unfold Tree.outB; exact decide_eq_false (by omega)
      rw [e]
      clear e
      go_enter Try.func40, Try.ntmps40
      go_wp2
      go_ret
      exact ⟨rfl, rfl⟩
set_option maxHeartbeats 1000000 in
theorem isIndex_any (L : Option Addr) (m d : Nat) (l : List Int) (B : Nat) (A : Option Addr) (n c : Nat) (hn : n ≤ 17592186043904) (w : World) (h : Ints w .i64 L m d l) (hc : w.cell? ⟨B, 0, none⟩ = some (.slice A n c)) :
    Calls Try.prog 43 #[.slice L m d, .func (.func 40) #[] #[.pointer (some ⟨B, 0, none⟩)]] w fun e w' => (∃ r : Int, e = .returned (.int .i64 r) ∧ decide (0 ≤ r) = l.any (Tree.outB n)) ∧ w' = w := by
  have hv := h.view
  have hlen := h.len
  have hroom := h.room
  subst hlen
  clear h
  have H1 := Lib.hid (fun x => is1_any x B A n c hn w hc)
  clear hc
  go_enter Try.func43, Try.ntmps43
  go_wp2
  go_loopw [5, 8] (fun _ i wr => ∃ k : Nat, k ≤ l.length ∧ i = .int .i64 k ∧ (∀ j, j < k → Tree.outB n (nth l j) = false) ∧ wr = w) (fun _ i _ => l.length - (intOf i).toNat)
  case atStart => exact ⟨0, Nat.zero_le _, rfl, (fun j hj => absurd hj (Nat.not_lt_zero j)), rfl⟩
  case round =>
    obtain ⟨k, hk, rfl, hno, rfl⟩ := hrel
    have HNO := Lib.hid hno
    clear hno
    by_cases hlt : k < l.length
    · rcases hv with h0 | ⟨b, off, rfl, hcs⟩
      · omega
      have dx := hcs k hlt
      clear hcs
      go_wp2_with fail
      refine (H1.out _).mono ?_
      rintro e w' ⟨rfl, rfl⟩
      cases ho : Tree.outB n (nth l k) with
      | true =>
        have HO := Lib.hid ho
        clear ho
        go_wp2
        go_ret
        refine ⟨⟨_, rfl, ?_⟩, rfl⟩
        have : l.any (Tree.outB n) = true := List.any_eq_true.2 ⟨nth l k, by rw [nth_eq hlt]; exact List.getElem_mem hlt, HO.out⟩
        rw [this]; simp
      | false =>
        have HO := Lib.hid ho
        clear ho
        go_wp2
        go_roundw
        case rel =>
          refine ⟨k + 1, by omega, by go_num, fun j hj => ?_, trivial⟩
          rcases Nat.lt_or_eq_of_le (Nat.lt_succ_iff.1 hj) with h | rfl
          · exact HNO.out j h
          · exact HO.out
        case measure => simp [intOf]; omega
    · have e : k = l.length := by omega
      subst e
      go_wp2
      go_ret
      refine ⟨⟨_, rfl, ?_⟩, rfl⟩
      have : l.any (Tree.outB n) = false := List.any_eq_false.2 (fun x hx => by
        obtain ⟨i, hi, rfl⟩ := List.getElem_of_mem hx
        have := HNO.out i hi
        rw [nth_eq hi] at this
        simp [this])
      rw [this]; simp
theorem isContains_any (L : Option Addr) (m d : Nat) (l : List Int) (B : Nat) (A : Option Addr) (n c : Nat) (hn : n ≤ 17592186043904) (w : World) (h : Ints w .i64 L m d l) (hc : w.cell? ⟨B, 0, none⟩ = some (.slice A n c)) :
    Calls Try.prog 39 #[.slice L m d, .func (.func 40) #[] #[.pointer (some ⟨B, 0, none⟩)]] w fun e w' => e = .returned (.bool (l.any (Tree.outB n))) ∧ w' = w := by
  have H := Lib.hid (isIndex_any L m d l B A n c hn w h hc)
  clear h hc
  obtain ⟨b, hb⟩ : ∃ b, l.any (Tree.outB n) = b := ⟨_, rfl⟩
  rw [hb] at H ⊢
  clear hb
  go_enter Try.func39, Try.ntmps39
  go_wp2_with fail
  refine H.out.mono ?_
  rintro e w' ⟨⟨r, rfl, rfl⟩, rfl⟩
  go_wp2
  go_ret
  exact ⟨rfl, rfl⟩
set_option maxHeartbeats 1000000 in
theorem is_any (A : Option Addr) (n c : Nat) (NS : List Node) (L : Option Addr) (m d : Nat) (l : List Int) (w : World) (h : NL w A n c NS) (g : Ints w .i64 L m d l) :
    Calls Try.prog 34 #[.agg #[.slice A n c], .slice L m d] w fun e w' => e = .returned (.bool (Tree.isL NS l)) ∧ Ext w w' := by
  have hlen := h.len
  have hroom := h.row.room
  have HM := Lib.hid (fun b (hb : Tree.mayV NS = b) W (k : Ext w W) => treeMay_is A n c NS b hb W (h.ext k))
  have HI := Lib.hid (fun W (k : Ext w W) => isContains_any L m d l w.heap.size A n c hroom W (g.ext k))
  clear h g
  cases hm : Tree.mayV NS with
  | false =>
    have HM' := Lib.hid (fun W (kx : Ext w W) => HM.out false hm W kx)
    have e : Tree.isL NS l = false := by unfold Tree.isL; rw [hm]; rfl
    rw [e]
    clear hm e
    go_enter Try.func34, Try.ntmps34
    go_wp2_with fail
    refine (HM'.out _ ((by repeat (first | assumption | exact Ext.refl _ | refine Ext.alloc ?_ _ | refine Ext.drew ?_ | refine Ext.drewN ?_ _ | refine Ext.setCell ?_ (by first | (simp; done) | omega | (simp; omega)) _ | refine Ext.trans (by assumption) ?_)))).mono ?_
    rintro e w1 ⟨rfl, hx1⟩
    go_wp2
    go_ret
    exact ⟨rfl, Ext.trans ((by repeat (first | assumption | exact Ext.refl _ | refine Ext.alloc ?_ _ | refine Ext.drew ?_ | refine Ext.drewN ?_ _ | refine Ext.setCell ?_ (by first | (simp; done) | omega | (simp; omega)) _ | refine Ext.trans (by assumption) ?_))) hx1⟩
  | true =>
    have HM' := Lib.hid (fun W (kx : Ext w W) => HM.out true hm W kx)
    have e : Tree.isL NS l = !(l.any (Tree.outB n)) := by unfold Tree.isL; rw [hm, hlen]; rfl
    rw [e]
    clear hm e
    obtain ⟨b, hb⟩ : ∃ b, l.any (Tree.outB n) = b := ⟨_, rfl⟩
    rw [hb] at HI ⊢
    clear hb
    go_enter Try.func34, Try.ntmps34
    go_wp2_with fail
    refine (HM'.out _ ((by repeat (first | assumption | exact Ext.refl _ | refine Ext.alloc ?_ _ | refine Ext.drew ?_ | refine Ext.drewN ?_ _ | refine Ext.setCell ?_ (by first | (simp; done) | omega | (simp; omega)) _ | refine Ext.trans (by assumption) ?_)))).mono ?_
    rintro e w1 ⟨rfl, hx1⟩
    have k1 : Ext w w1 := Ext.trans ((by repeat (first | assumption | exact Ext.refl _ | refine Ext.alloc ?_ _ | refine Ext.drew ?_ | refine Ext.drewN ?_ _ | refine Ext.setCell ?_ (by first | (simp; done) | omega | (simp; omega)) _ | refine Ext.trans (by assumption) ?_))) hx1
    have c0 := hx1.cell (p := ⟨w.heap.size, 0, none⟩) (v := .slice A n c) (by first | (simp; done) | (simp (maxDischargeDepth := 7) [go_sem]; done))
    go_wp2_with fail
    refine (HI.out _ k1 c0).mono ?_
    rintro e w2 ⟨rfl, rfl⟩
    go_wp2
    go_ret
    exact ⟨rfl, k1⟩
theorem line_any (A : Option Addr) (n c : Nat) (k : Int) (w : World) :
    Calls Try.prog 35 #[.agg #[.slice A n c], .int .i64 k] w fun e w' => e = .returned (.func (.func 41) #[] #[.pointer (some ⟨w.heap.size + 1, 0, none⟩), .pointer (some ⟨w.heap.size, 0, none⟩)]) ∧ w' = (w.alloc (.cells #[.slice A n c] 24)).alloc (.cells #[.int .i64 k] 3) := by
  go_enter Try.func35, Try.ntmps35
  go_wp2
  go_ret
  exact ⟨rfl, rfl⟩
/-- What the way up reads: the tree's box, and its nodes. -/
def TT (A : Option Addr) (n c : Nat) (NS : List Node) (Bt : Nat) (W : World) : Prop := W.cell? ⟨Bt, 0, none⟩ = some (.slice A n c) ∧ NL W A n c NS
def cellAt (B : Nat) (w : World) : Nat := match w.cell? ⟨B, 0, none⟩ with
  | some (.int _ x) => (x + 1).toNat
  | _ => 0
theorem cellAt_eq {B : Nat} {w : World} {k : IntKind} {r : Int} (h : w.cell? ⟨B, 0, none⟩ = some (.int k r)) : cellAt B w = (r + 1).toNat := by unfold cellAt; rw [h]
/-- Where the way up stands: what is still to come. -/
def Rest (NS : List Node) (n : Nat) (r : Int) (rest : List Nat) : Prop := (r = -1 ∧ rest = []) ∨ ∃ m : Nat, r = m ∧ m < n ∧ rest = Tree.line NS m
set_option maxHeartbeats 4000000 in
theorem line1_in (A : Option Addr) (n c : Nat) (NS : List Node) (hm : Tree.mayV NS = true) (hn : NS.length = n) (k : Nat) (hk : k < n) (Bt B : Nat) (w : World) (hc : w.cell? ⟨B, 0, none⟩ = some (.int .i64 k)) (hf : w.frozen? ⟨B, 0, none⟩ = false) :
    CapIterS Fence.wide 8 Try.prog 41 #[.pointer (some ⟨B, 0, none⟩), .pointer (some ⟨Bt, 0, none⟩)] B (Tree.line NS k) (TT A n c NS Bt) w := by
  intro l J Jx W hW hJT hset hY h0
  have c0 : W.cell? ⟨B, 0, none⟩ = some (.int .i64 k) := (World.cell?_of_block hW).trans hc
  have f0 : W.frozen? ⟨B, 0, none⟩ = false := (World.frozen?_of_block (a := ⟨B, 0, none⟩) hW).trans hf
  refine callsIn_of_wp Try.func41 rfl trivial ?_ rfl
  simp only [Try.ntmps41, List.size_toArray, List.length_cons, List.length_nil, Nat.reduceAdd, Nat.reduceSub, Array.replicate_succ, Array.replicate_zero, List.push_toArray, List.append_toArray, List.nil_append, List.cons_append]
  have HY := Lib.hid hY
  have HJ := Lib.hid hJT
  have HS := Lib.hid hset
  have hl12 := Tree.len_le hm
  have HM := Lib.hid hm
  have HN := Lib.hid hn
  rw [hn] at hl12
  clear hY hJT hset hW hc hf hm hn
  gi_wp2
  gi_loopw [] (fun wr => ∃ (pre : List Nat) (r : Int) (rest : List Nat), Tree.line NS k = pre ++ rest ∧ Rest NS n r rest ∧ wr.cell? ⟨B, 0, none⟩ = some (.int .i64 r) ∧ wr.frozen? ⟨B, 0, none⟩ = false ∧ J pre wr) (fun wr => cellAt B wr)
  case atStart => exact ⟨[], k, _, rfl, .inr ⟨k, rfl, hk, rfl⟩, c0, f0, h0⟩
  case round =>
    obtain ⟨pre, r, rest, hr, hrest, hc, hf, hj⟩ := hrel
    clear c0 f0 h0
    rcases hrest with ⟨rfl, rfl⟩ | ⟨m, rfl, hmn, rfl⟩
    · gi_wp2
      refine ⟨fun _ h => (by cases h), ?_⟩
      gi_wp2
      go_end0
      have e : pre = Tree.line NS k := by rw [hr, List.append_nil]
      exact ⟨⟨_, rfl⟩, .inl (e ▸ hj)⟩
    · have gm : ((m : Int) != -1) = true := by first | (simp; done) | (simp; omega)
      obtain ⟨q, hq⟩ : ∃ q, Tree.line NS m = m :: q := ⟨_, Tree.line_eq NS m⟩
      have HQ := Lib.hid hq
      obtain ⟨fn, tmps, assign, body, hy, hR⟩ := HY.out pre m wr hj ⟨q, by rw [hr, hq]; simp⟩
      have HR := Lib.hid hr
      clear hq hr
      gi_wp2
      refine hR.mono ?_
      rintro e W' (⟨rfl, hj', hB'⟩ | ⟨rfl, hx'⟩)
      · have hc' : W'.cell? ⟨B, 0, none⟩ = some (.int .i64 m) := (World.cell?_of_block hB').trans hc
        have hf' : W'.frozen? ⟨B, 0, none⟩ = false := (World.frozen?_of_block (a := ⟨B, 0, none⟩) hB').trans hf
        obtain ⟨ht, hnl⟩ := HJ.out _ _ hj'
        obtain ⟨b, off, rfl, hrx, hok⟩ := hnl.at' hmn
        change W'.rangeAt _ _ (Tree.nd NS m).cells at hrx
        have d32 := rangeAt_head hrx (Node.at32 hok)
        have hpar : Hid (∃ rest', Rest NS n (Tree.nd NS m).par rest' ∧ q = rest' ∧ (Tree.nd NS m).par < m) := by
          show ∃ rest', Rest NS n (Tree.nd NS m).par rest' ∧ q = rest' ∧ (Tree.nd NS m).par < m
          have e := HQ.out
          by_cases h0 : m = 0
          · subst h0
            rw [Tree.par_zero HM.out]
            rw [Tree.line_zero] at e
            exact ⟨[], .inl ⟨rfl, rfl⟩, by simpa using e.symm, by omega⟩
          · obtain ⟨_, h1, h2⟩ := Tree.par_pos HM.out (by rw [HN.out]; exact hmn) h0
            have hu := Tree.up_lt NS h0
            rw [Tree.line_pos NS h0] at e
            exact ⟨Tree.line NS (Tree.up NS m), .inr ⟨_, h2, by omega, rfl⟩, by simpa using e.symm, h1⟩
        change W'.cell? _ = some (.int .i64 (Tree.nd NS m).par) at d32
        generalize (Tree.nd NS m).par = p at d32 hpar
        have gm2 : (m : Int) < n := by omega
        clear hrx hok hnl
        gi_wp2
        go_roundw
        case rel =>
          obtain ⟨rest', h1, h2, h3⟩ := hpar.out
          refine ⟨pre ++ [m], p, rest', by rw [HR.out, HQ.out, h2]; simp, h1, ?_, ?_, HS.out _ _ _ hj'⟩
          · exact World.cell?_setCell_same' _ _ _ (by rw [hc']; rfl)
          · rw [World.frozen?_setCell]; exact hf'
        case measure =>
          rw [cellAt_eq hc, cellAt_eq (World.cell?_setCell_same' _ _ _ (by rw [hc']; rfl))]
          obtain ⟨rest', h1, h2, h3⟩ := hpar.out
          omega
      · gi_wp2
        go_end0
        exact ⟨⟨_, rfl⟩, .inr ⟨pre ++ [m], ⟨q, by rw [HR.out, HQ.out]; simp⟩, hx'⟩⟩

theorem own_set {A : World} {B B' : Nat} {v : Value} (h : B' ≠ B) : (A.setCell ⟨B, 0, none⟩ v).heap[B']? = A.heap[B']? := Below.heap_setCell A ⟨B, 0, none⟩ v _ h
theorem two_wf {i k : Int} (hi : (Lit.int .i64 i).wf = true) (hk : (Lit.int .i64 k).wf = true) : ∀ x ∈ [i, k], (Lit.int .i64 x).wf = true := by
  intro x hx
  simp at hx
  rcases hx with rfl | rfl
  · exact hi
  · exact hk
theorem isL_two (NS : List Node) (i k : Int) : Tree.isL NS [i, k] = (Tree.isV NS i && Tree.isV NS k) := by
  unfold Tree.isL Tree.isV Tree.outB
  cases Tree.mayV NS
  · rfl
  · simp only [List.any_cons, List.any_nil, Bool.true_and, Bool.or_false]
    rw [Bool.eq_iff_iff]
    simp
    try omega
theorem isL_one (NS : List Node) (i : Int) : Tree.isL NS [i] = Tree.isV NS i := by
  unfold Tree.isL Tree.isV Tree.outB
  cases Tree.mayV NS
  · rfl
  · simp only [List.any_cons, List.any_nil, Bool.true_and, Bool.or_false]
    rw [Bool.eq_iff_iff]
    simp
    try omega
set_option maxRecDepth 100000 in
set_option maxHeartbeats 2000000 in
theorem above_in (A : Option Addr) (n c : Nat) (NS : List Node) (i k : Int) (hi : (Lit.int .i64 i).wf = true) (hk : (Lit.int .i64 k).wf = true) (w : World) (h : NL w A n c NS) :
    CallsIn Fence.wide 9 Try.prog 13 #[.agg #[.slice A n c], .int .i64 i, .int .i64 k] w fun e w' => e = .returned (.bool (Tree.aboveV NS i k)) ∧ Ext w w' := by
  have hlen := h.len
  have hroom := h.row.room
  have HV := Lib.hid (fun W (k : Ext w W) => h.ext k)
  have HI := Lib.hid (fun L m d W (kx : Ext w W) (g : Ints W .i64 L m d [i, k]) => is_any A n c NS L m d [i, k] W (h.ext kx) g)
  rw [isL_two] at HI
  have HW := Lib.hid (two_wf hi hk)
  clear h
  obtain ⟨q, hq⟩ : ∃ q, (Tree.isV NS i && Tree.isV NS k) = q := ⟨_, rfl⟩
  rw [hq] at HI
  cases q with
  | false =>
    have e : Tree.aboveV NS i k = false := by unfold Tree.aboveV; rw [hq]; rfl
    rw [e]
    clear hq e
    refine callsIn_of_wp_marks Try.func13 rfl trivial ?_ rfl
    simp only [Try.ntmps13, List.size_toArray, List.length_cons, List.length_nil, Nat.reduceAdd, Nat.reduceSub, Array.replicate_succ, Array.replicate_zero, List.push_toArray, List.append_toArray, List.nil_append, List.cons_append]
    gi_wp2
    refine (wpIn_wide (n := 9)).2 (wp_scope_straight ((wpIn_wide (n := 9)).1 ?_))
    gi_wp2
    refine ⟨trivial, ?_⟩
    refine (callsIn_wide.2 (HI.out (some ⟨w.heap.size + 1 + 1 + 1, 0, none⟩) 2 2 _ ((by repeat (first | assumption | exact Ext.refl _ | refine Ext.alloc ?_ _ | refine Ext.drew ?_ | refine Ext.drewN ?_ _ | refine Ext.setCell ?_ (by first | (simp; done) | omega | (simp; omega)) _ | refine Ext.trans (by assumption) ?_))) (ints_at' (e := 3) [i, k] HW.out (by simp) (by simp)))).mono ?_
    rintro e w1 ⟨rfl, hx1⟩
    have k1 : Ext w w1 := Ext.trans ((by repeat (first | assumption | exact Ext.refl _ | refine Ext.alloc ?_ _ | refine Ext.drew ?_ | refine Ext.drewN ?_ _ | refine Ext.setCell ?_ (by first | (simp; done) | omega | (simp; omega)) _ | refine Ext.trans (by assumption) ?_))) hx1
    have c2 : w1.cell? ⟨w.heap.size + 1 + 1, 0, none⟩ = some (.bool false) := hx1.cell (by simp (maxDischargeDepth := 7) [go_sem])
    have f2 : w1.frozen? ⟨w.heap.size + 1 + 1, 0, none⟩ = false := (hx1.out.frozen (p := ⟨w.heap.size + 1 + 1, 0, none⟩) (by simp)).trans (by simp (maxDischargeDepth := 7) [go_sem])
    gi_wp2
    rw [Exit.noGoto_ret]
    exact ⟨.bool false, by simp (maxDischargeDepth := 7) [results, Try.results13, go_sem, c2, f2], rfl, k1.setCell (by show w.heap.size ≤ w.heap.size + 1 + 1; omega) _⟩
  | true =>
    have hv : Tree.mayV NS = true ∧ (0 ≤ i ∧ i < n) ∧ (0 ≤ k ∧ k < n) := by
      unfold Tree.isV at hq
      rw [hlen] at hq
      simp at hq
      exact ⟨hq.1.1, hq.1.2, hq.2.2⟩
    obtain ⟨hm, ⟨i1, i2⟩, k1, k2⟩ := hv
    obtain ⟨i, rfl⟩ := Int.eq_ofNat_of_zero_le i1
    obtain ⟨k, rfl⟩ := Int.eq_ofNat_of_zero_le k1
    have e : Tree.aboveV NS (i : Int) (k : Int) = decide (i ∈ Tree.line NS k) := by unfold Tree.aboveV; rw [hq]; rfl
    rw [e]
    have HMA := Lib.hid hm
    have HLE := Lib.hid hlen
    have hk' : k < n := by omega
    clear hq e i1 k1 hm hlen
    refine callsIn_of_wp_marks Try.func13 rfl trivial ?_ rfl
    simp only [Try.ntmps13, List.size_toArray, List.length_cons, List.length_nil, Nat.reduceAdd, Nat.reduceSub, Array.replicate_succ, Array.replicate_zero, List.push_toArray, List.append_toArray, List.nil_append, List.cons_append]
    gi_wp2
    refine (wpIn_wide (n := 9)).2 (wp_scope_straight ((wpIn_wide (n := 9)).1 ?_))
    gi_wp2
    refine ⟨trivial, ?_⟩
    refine (callsIn_wide.2 (HI.out (some ⟨w.heap.size + 1 + 1 + 1, 0, none⟩) 2 2 _ ((by repeat (first | assumption | exact Ext.refl _ | refine Ext.alloc ?_ _ | refine Ext.drew ?_ | refine Ext.drewN ?_ _ | refine Ext.setCell ?_ (by first | (simp; done) | omega | (simp; omega)) _ | refine Ext.trans (by assumption) ?_))) (ints_at' (e := 3) [(i : Int), (k : Int)] HW.out (by simp) (by simp)))).mono ?_
    rintro e w1 ⟨rfl, hx1⟩
    have k1 : Ext w w1 := Ext.trans ((by repeat (first | assumption | exact Ext.refl _ | refine Ext.alloc ?_ _ | refine Ext.drew ?_ | refine Ext.drewN ?_ _ | refine Ext.setCell ?_ (by first | (simp; done) | omega | (simp; omega)) _ | refine Ext.trans (by assumption) ?_))) hx1
    have c2 : w1.cell? ⟨w.heap.size + 1 + 1, 0, none⟩ = some (.bool false) := hx1.cell (by simp (maxDischargeDepth := 7) [go_sem])
    have f2 : w1.frozen? ⟨w.heap.size + 1 + 1, 0, none⟩ = false := (hx1.out.frozen (p := ⟨w.heap.size + 1 + 1, 0, none⟩) (by simp)).trans (by simp (maxDischargeDepth := 7) [go_sem])
    have c1 : w1.cell? ⟨w.heap.size + 1, 0, none⟩ = some (.int .i64 i) := hx1.cell (by simp (maxDischargeDepth := 7) [go_sem])
    have c0 : w1.cell? ⟨w.heap.size, 0, none⟩ = some (.slice A n c) := hx1.cell (by simp (maxDischargeDepth := 7) [go_sem])
    gi_wp2
    refine wpIn_label ?_
    gi_wp2_with (refine ⟨trivial, ?_⟩; gi_at_call 35; refine (callsIn_wide.2 (line_any _ _ _ _ _)).mono ?_; rintro e w' ⟨rfl, rfl⟩)
    have s1 := k1.size
    have l2 := lt_of_cell c2
    have l1 := lt_of_cell c1
    have d2 : (((w1.alloc (.cells #[.slice A n c] 24)).alloc (.cells #[.int .i64 (k : Nat)] 3))).cell? ⟨w.heap.size + 1 + 1, 0, none⟩ = some (.bool false) := (((Ext.refl w1).alloc _).alloc _).cell c2
    have e2 : (((w1.alloc (.cells #[.slice A n c] 24)).alloc (.cells #[.int .i64 (k : Nat)] 3))).frozen? ⟨w.heap.size + 1 + 1, 0, none⟩ = false := (((((Ext.refl w1).alloc _).alloc _).out.frozen (p := ⟨w.heap.size + 1 + 1, 0, none⟩) l2)).trans f2
    have d1 : (((w1.alloc (.cells #[.slice A n c] 24)).alloc (.cells #[.int .i64 (k : Nat)] 3))).cell? ⟨w.heap.size + 1, 0, none⟩ = some (.int .i64 i) := (((Ext.refl w1).alloc _).alloc _).cell c1
    have dt : (((w1.alloc (.cells #[.slice A n c] 24)).alloc (.cells #[.int .i64 (k : Nat)] 3))).cell? ⟨w1.heap.size, 0, none⟩ = some (.slice A n c) := by simp (maxDischargeDepth := 7) [go_sem]
    have db : (((w1.alloc (.cells #[.slice A n c] 24)).alloc (.cells #[.int .i64 (k : Nat)] 3))).cell? ⟨w1.heap.size + 1, 0, none⟩ = some (.int .i64 k) := by simp (maxDischargeDepth := 7) [go_sem]
    have fb : (((w1.alloc (.cells #[.slice A n c] 24)).alloc (.cells #[.int .i64 (k : Nat)] 3))).frozen? ⟨w1.heap.size + 1, 0, none⟩ = false := by simp (maxDischargeDepth := 7) [go_sem]
    have hB0 : Ext w ((w1.alloc (.cells #[.slice A n c] 24)).alloc (.cells #[.int .i64 (k : Nat)] 3)) := (k1.alloc _).alloc _
    have hsz : (((w1.alloc (.cells #[.slice A n c] 24)).alloc (.cells #[.int .i64 (k : Nat)] 3))).heap.size = w1.heap.size + 1 + 1 := by simp
    generalize (((w1.alloc (.cells #[.slice A n c] 24)).alloc (.cells #[.int .i64 (k : Nat)] 3))) = W0 at d2 e2 d1 dt db fb hB0 hsz ⊢
    have HSZ := Lib.hid hsz
    have hlt0 : w1.heap.size + 1 < W0.heap.size := by omega
    clear hsz c0 c1 c2 f2
    refine range_capS (w := W0) rfl (by omega) (gf := 41) (lb := #[.pointer (some ⟨w1.heap.size + 1, 0, none⟩), .pointer (some ⟨w1.heap.size, 0, none⟩)]) rfl trivial (enters_of Try.func41 (by kernel_rfl) rfl)
      (B := w1.heap.size + 1) (xs := Tree.line NS k) (T := TT A n c NS w1.heap.size) hlt0 (line1_in A n c NS HMA.out HLE.out k hk' _ _ W0 db fb)
      (fun pre W => (W.cell? ⟨w.heap.size + 1 + 1, 0, none⟩ = some (.bool false) ∧ W.frozen? ⟨w.heap.size + 1 + 1, 0, none⟩ = false ∧ W.cell? ⟨w.heap.size + 1, 0, none⟩ = some (.int .i64 i) ∧ W.cell? ⟨w1.heap.size, 0, none⟩ = some (.slice A n c) ∧ ∀ a ∈ pre, i < a) ∧ Below w.heap.size w W)
      (fun cd _ W => ((cd = .ret ∧ W.cell? ⟨w.heap.size + 1 + 1, 0, none⟩ = some (.bool true) ∧ i ∈ Tree.line NS k) ∨ (cd = .exit 0 ∧ W.cell? ⟨w.heap.size + 1 + 1, 0, none⟩ = some (.bool false) ∧ W.frozen? ⟨w.heap.size + 1 + 1, 0, none⟩ = false ∧ i ∉ Tree.line NS k)) ∧ Below w.heap.size w W)
      (OwnFrom.and (Own.from (fun s A B row hs hg hr => ⟨cell_kept hs.1 hg hr, (frozen_kept hs.1 hg hr).trans hs.2.1, cell_kept hs.2.2.1 hg hr, cell_kept hs.2.2.2.1 hg hr, hs.2.2.2.2⟩) _) (ownFrom_below (Nat.le_refl _) (by omega)))
      (fun cd => OwnFrom.and (Own.from (fun s A B row hs hg hr => hs.imp (fun h => ⟨h.1, cell_kept h.2.1 hg hr, h.2.2⟩) (fun h => ⟨h.1, cell_kept h.2.1 hg hr, (frozen_kept h.2.1 hg hr).trans h.2.2.1, h.2.2.2⟩)) _) (ownFrom_below (Nat.le_refl _) (by omega)))
      (fun s A v hs => ⟨⟨(World.cell?_of_block (own_set (B := w1.heap.size + 1) (B' := w.heap.size + 1 + 1) (by omega))).trans hs.1.1, (World.frozen?_of_block (a := ⟨w.heap.size + 1 + 1, 0, none⟩) (own_set (B := w1.heap.size + 1) (B' := w.heap.size + 1 + 1) (by omega))).trans hs.1.2.1, (World.cell?_of_block (own_set (B := w1.heap.size + 1) (B' := w.heap.size + 1) (by omega))).trans hs.1.2.2.1, (World.cell?_of_block (own_set (B := w1.heap.size + 1) (B' := w1.heap.size) (by omega))).trans hs.1.2.2.2.1, hs.1.2.2.2.2⟩, hs.2.setCell (p := ⟨w1.heap.size + 1, 0, none⟩) (show w.heap.size ≤ w1.heap.size + 1 by omega) _⟩)
      ⟨⟨d2, e2, d1, dt, by simp⟩, hB0.out⟩ (fun s A hs => ⟨hs.1.2.2.2.1, HV.out _ ⟨hs.2⟩⟩)
      (fun x => { tmps := #[.agg #[.slice A n c], .int .i64 i, .int .i64 k, .pointer (some ⟨w.heap.size, 0, none⟩), .pointer (some ⟨w.heap.size + 1, 0, none⟩), undef, .pointer (some ⟨w.heap.size + 1 + 1, 0, none⟩), .int .i64 (x : Nat), .agg #[.slice A n c], .int .i64 i, .int .i64 k, .slice (some ⟨w.heap.size + 1 + 1 + 1, 0, none⟩) 2 2, .bool true, .bool false, .agg #[.slice A n c], .int .i64 k, .func (.func 41) #[] #[.pointer (some ⟨w1.heap.size + 1, 0, none⟩), .pointer (some ⟨w1.heap.size, 0, none⟩)], .int .i64 (x : Nat), undef, undef, undef, undef, undef, undef, undef, undef], defers := [] }) ?assign ?body ?done ?stop
    case assign =>
      intro l x W K hK
      gi_wp2
      exact hK
    case body =>
      rintro lp pre x W ⟨⟨hc, hf, hci, hct, hp⟩, hB⟩ hpx
      have HP := Lib.hid hp
      have HPX := Lib.hid hpx
      clear hp hpx
      rcases Nat.lt_trichotomy x i with hlt | heq | hgt
      · have g1 : ((x : Int) == i) = false := by simp; omega
        have g2 : (x : Int) < i := by omega
        gi_wp2
        exact ⟨KeepsOthers.refl _, .inr ⟨rfl, hc, hf, Tree.not_above HPX.out HP.out hlt⟩, hB⟩
      · have g1 : ((x : Int) == i) = true := by simp; omega
        gi_wp2
        exact ⟨KeepsOthers.setCell _ _ _, .inl ⟨rfl, World.cell?_setCell_same' _ _ _ (by rw [hc]; rfl), heq ▸ HPX.out.subset (by simp)⟩, hB.setCell (p := ⟨w.heap.size + 1 + 1, 0, none⟩) (by show w.heap.size ≤ w.heap.size + 1 + 1; omega) _⟩
      · have g1 : ((x : Int) == i) = false := by simp; omega
        have g2 : ¬ (x : Int) < i := by omega
        gi_wp2
        exact ⟨KeepsOthers.refl _, rfl, ⟨hc, hf, hci, hct, fun a ha => by
          rcases List.mem_append.1 ha with h | h
          · exact HP.out a h
          · simp at h; omega⟩, hB⟩
    case done =>
      rintro D W hD ⟨⟨hc, hf, hci, hct, hp⟩, hB⟩ hK
      have HP := Lib.hid hp
      clear hp
      gi_wp2
      have hv : Hid (decide (i ∈ Tree.line NS k) = false) := decide_eq_false (fun h => absurd (HP.out i h) (Nat.lt_irrefl _))
      have hK' := (KeepsOthers.setCell W ⟨w.heap.size + 1 + 1, 0, none⟩ (.bool false)).same D _ hK rfl
      have hc' : (W.setCell ⟨w.heap.size + 1 + 1, 0, none⟩ (.bool false)).cell? ⟨w.heap.size + 1 + 1, 0, none⟩ = some (.bool false) := World.cell?_setCell_same' _ _ _ (by rw [hc]; rfl)
      rw [Exit.noGoto_ret]
      refine ⟨by simp, .inl ⟨_, _, rfl, run_takeDeferred hK', ?_⟩⟩
      exact ⟨.bool false, by simp (maxDischargeDepth := 7) [results, Try.results13, go_sem, cell_kept hc' (grownBy_putObj' _ D (.deferred none)) (fun r e => by cases e; exact ⟨_, hK', rfl⟩)], by rw [hv.out], ⟨Below.trans (hB.setCell (p := ⟨w.heap.size + 1 + 1, 0, none⟩) (by show w.heap.size ≤ w.heap.size + 1 + 1; omega) _) (belowK_b (w := w) (Nat.le_refl _) _ D _ _ (by have := HSZ.out; omega) hK' rfl rfl)⟩⟩
    case stop =>
      rintro D cd pre W hD hpre ⟨h, hB⟩ hK
      rcases h with ⟨rfl, hc, hin⟩ | ⟨rfl, hc, hf, hout⟩
      · have HIN := Lib.hid hin
        clear hin
        gi_wp2
        have hv : Hid (decide (i ∈ Tree.line NS k) = true) := decide_eq_true HIN.out
        rw [Exit.noGoto_ret]
        refine ⟨by simp, .inl ⟨_, _, rfl, run_takeDeferred hK, ?_⟩⟩
        exact ⟨.bool true, by simp (maxDischargeDepth := 7) [results, Try.results13, go_sem, cell_kept hc (grownBy_putObj' _ D (.deferred none)) (fun r e => by cases e; exact ⟨_, hK, rfl⟩)], by rw [hv.out], ⟨Below.trans hB (belowK_b (w := w) (Nat.le_refl _) _ D _ _ (by have := HSZ.out; omega) hK rfl rfl)⟩⟩
      · have HO := Lib.hid hout
        clear hout
        gi_wp2
        have hv : Hid (decide (i ∈ Tree.line NS k) = false) := decide_eq_false HO.out
        have hK' := (KeepsOthers.setCell W ⟨w.heap.size + 1 + 1, 0, none⟩ (.bool false)).same D _ hK rfl
        have hc' : (W.setCell ⟨w.heap.size + 1 + 1, 0, none⟩ (.bool false)).cell? ⟨w.heap.size + 1 + 1, 0, none⟩ = some (.bool false) := World.cell?_setCell_same' _ _ _ (by rw [hc]; rfl)
        rw [Exit.noGoto_ret]
        refine ⟨by simp, .inl ⟨_, _, rfl, run_takeDeferred hK', ?_⟩⟩
        exact ⟨.bool false, by simp (maxDischargeDepth := 7) [results, Try.results13, go_sem, cell_kept hc' (grownBy_putObj' _ D (.deferred none)) (fun r e => by cases e; exact ⟨_, hK', rfl⟩)], by rw [hv.out], ⟨Below.trans (hB.setCell (p := ⟨w.heap.size + 1 + 1, 0, none⟩) (by show w.heap.size ≤ w.heap.size + 1 + 1; omega) _) (belowK_b (w := w) (Nat.le_refl _) _ D _ _ (by have := HSZ.out; omega) hK' rfl rfl)⟩⟩
theorem above_any (A : Option Addr) (n c : Nat) (NS : List Node) (i k : Int) (hi : (Lit.int .i64 i).wf = true) (hk : (Lit.int .i64 k).wf = true) (w : World) (h : NL w A n c NS) :
    Calls Try.prog 13 #[.agg #[.slice A n c], .int .i64 i, .int .i64 k] w fun e w' => e = .returned (.bool (Tree.aboveV NS i k)) ∧ Ext w w' := callsIn_wide.1 (above_in A n c NS i k hi hk w h)

theorem find_stop {NS : List Node} {k x s : Nat} {pre : List Nat} (h : (pre ++ [x]) <+: Tree.line NS k) (hp : ∀ a ∈ pre, s < (Tree.nd NS a).slot) (hx : (Tree.nd NS x).slot ≤ s) : (Tree.line NS k).find? (fun a => decide ((Tree.nd NS a).slot ≤ s)) = some x := by
  obtain ⟨rest, e⟩ := h
  rw [← e, List.append_assoc, List.find?_append, List.find?_eq_none.2 (fun a ha => by have := hp a ha; simp; omega)]
  simp [hx]
theorem find_none {NS : List Node} {k s : Nat} (hp : ∀ a ∈ Tree.line NS k, s < (Tree.nd NS a).slot) : (Tree.line NS k).find? (fun a => decide ((Tree.nd NS a).slot ≤ s)) = none :=
  List.find?_eq_none.2 (fun a ha => by have := hp a ha; simp; omega)
set_option maxRecDepth 100000 in
set_option maxHeartbeats 2000000 in
theorem at_in (A : Option Addr) (n c : Nat) (NS : List Node) (i : Int) (hi : (Lit.int .i64 i).wf = true) (s : Nat) (hs : s < 18446744073709551616) (w : World) (h : NL w A n c NS) :
    CallsIn Fence.wide 9 Try.prog 14 #[.agg #[.slice A n c], .int .i64 i, .int .u64 s] w fun e w' => e = .returned (.int .i64 (Tree.atV NS i s)) ∧ Ext w w' := by
  have hlen := h.len
  have hroom := h.row.room
  have HV := Lib.hid (fun W (k : Ext w W) => h.ext k)
  have HI := Lib.hid (fun L m d W (kx : Ext w W) (g : Ints W .i64 L m d [i]) => is_any A n c NS L m d [i] W (h.ext kx) g)
  rw [isL_one] at HI
  have HW := Lib.hid (show ∀ x ∈ [i], (Lit.int .i64 x).wf = true from fun x hx => by simp at hx; subst hx; exact hi)
  clear h
  obtain ⟨q, hq⟩ : ∃ q, Tree.isV NS i = q := ⟨_, rfl⟩
  rw [hq] at HI
  cases q with
  | false =>
    have e : Tree.atV NS i s = -1 := by unfold Tree.atV; rw [hq]; rfl
    rw [e]
    clear hq e
    refine callsIn_of_wp_marks Try.func14 rfl trivial ?_ rfl
    simp only [Try.ntmps14, List.size_toArray, List.length_cons, List.length_nil, Nat.reduceAdd, Nat.reduceSub, Array.replicate_succ, Array.replicate_zero, List.push_toArray, List.append_toArray, List.nil_append, List.cons_append]
    gi_wp2
    refine ⟨trivial, ?_⟩
    refine (callsIn_wide.2 (HI.out (some ⟨w.heap.size + 1 + 1 + 1, 0, none⟩) 1 1 _ ((by repeat (first | assumption | exact Ext.refl _ | refine Ext.alloc ?_ _ | refine Ext.drew ?_ | refine Ext.drewN ?_ _ | refine Ext.setCell ?_ (by first | (simp; done) | omega | (simp; omega)) _ | refine Ext.trans (by assumption) ?_))) (ints_at' (e := 3) [i] HW.out (by simp) (by simp)))).mono ?_
    rintro e w1 ⟨rfl, hx1⟩
    have k1 : Ext w w1 := Ext.trans ((by repeat (first | assumption | exact Ext.refl _ | refine Ext.alloc ?_ _ | refine Ext.drew ?_ | refine Ext.drewN ?_ _ | refine Ext.setCell ?_ (by first | (simp; done) | omega | (simp; omega)) _ | refine Ext.trans (by assumption) ?_))) hx1
    have c2 : w1.cell? ⟨w.heap.size + 1 + 1, 0, none⟩ = some (.int .i64 0) := hx1.cell (by simp (maxDischargeDepth := 7) [go_sem])
    have f2 : w1.frozen? ⟨w.heap.size + 1 + 1, 0, none⟩ = false := (hx1.out.frozen (p := ⟨w.heap.size + 1 + 1, 0, none⟩) (by simp)).trans (by simp (maxDischargeDepth := 7) [go_sem])
    gi_wp2
    exact ⟨.int .i64 (-1), by simp (maxDischargeDepth := 7) [results, Try.results14, go_sem, c2, f2], rfl, k1.setCell (by show w.heap.size ≤ w.heap.size + 1 + 1; omega) _⟩
  | true =>
    have hv : Tree.mayV NS = true ∧ (0 ≤ i ∧ i < n) := by
      unfold Tree.isV at hq
      rw [hlen] at hq
      simp at hq
      exact hq
    obtain ⟨hm, i1, i2⟩ := hv
    obtain ⟨i, rfl⟩ := Int.eq_ofNat_of_zero_le i1
    have HAT : Hid (∀ o, (Tree.line NS i).find? (fun a => decide ((Tree.nd NS a).slot ≤ s)) = o → Tree.atV NS (i : Int) s = Tree.optI o) := by
      intro o ho
      unfold Tree.atV
      rw [hq, if_pos rfl, Int.toNat_natCast, ho]
    have HMA := Lib.hid hm
    have HLE := Lib.hid hlen
    have hi' : i < n := by omega
    clear hq i1 hm hlen
    refine callsIn_of_wp_marks Try.func14 rfl trivial ?_ rfl
    simp only [Try.ntmps14, List.size_toArray, List.length_cons, List.length_nil, Nat.reduceAdd, Nat.reduceSub, Array.replicate_succ, Array.replicate_zero, List.push_toArray, List.append_toArray, List.nil_append, List.cons_append]
    gi_wp2
    refine ⟨trivial, ?_⟩
    refine (callsIn_wide.2 (HI.out (some ⟨w.heap.size + 1 + 1 + 1, 0, none⟩) 1 1 _ ((by repeat (first | assumption | exact Ext.refl _ | refine Ext.alloc ?_ _ | refine Ext.drew ?_ | refine Ext.drewN ?_ _ | refine Ext.setCell ?_ (by first | (simp; done) | omega | (simp; omega)) _ | refine Ext.trans (by assumption) ?_))) (ints_at' (e := 3) [(i : Int)] HW.out (by simp) (by simp)))).mono ?_
    rintro e w1 ⟨rfl, hx1⟩
    have k1 : Ext w w1 := Ext.trans ((by repeat (first | assumption | exact Ext.refl _ | refine Ext.alloc ?_ _ | refine Ext.drew ?_ | refine Ext.drewN ?_ _ | refine Ext.setCell ?_ (by first | (simp; done) | omega | (simp; omega)) _ | refine Ext.trans (by assumption) ?_))) hx1
    have c2 : w1.cell? ⟨w.heap.size + 1 + 1, 0, none⟩ = some (.int .i64 0) := hx1.cell (by simp (maxDischargeDepth := 7) [go_sem])
    have f2 : w1.frozen? ⟨w.heap.size + 1 + 1, 0, none⟩ = false := (hx1.out.frozen (p := ⟨w.heap.size + 1 + 1, 0, none⟩) (by simp)).trans (by simp (maxDischargeDepth := 7) [go_sem])
    have c1 : w1.cell? ⟨w.heap.size + 1, 0, none⟩ = some (.int .u64 s) := hx1.cell (by simp (maxDischargeDepth := 7) [go_sem])
    have c0 : w1.cell? ⟨w.heap.size, 0, none⟩ = some (.slice A n c) := hx1.cell (by simp (maxDischargeDepth := 7) [go_sem])
    gi_wp2_with (refine ⟨trivial, ?_⟩; gi_at_call 35; refine (callsIn_wide.2 (line_any _ _ _ _ _)).mono ?_; rintro e w' ⟨rfl, rfl⟩)
    have s1 := k1.size
    have l2 := lt_of_cell c2
    have l1 := lt_of_cell c1
    have d2 : (((w1.alloc (.cells #[.slice A n c] 24)).alloc (.cells #[.int .i64 (i : Nat)] 3))).cell? ⟨w.heap.size + 1 + 1, 0, none⟩ = some (.int .i64 0) := (((Ext.refl w1).alloc _).alloc _).cell c2
    have e2 : (((w1.alloc (.cells #[.slice A n c] 24)).alloc (.cells #[.int .i64 (i : Nat)] 3))).frozen? ⟨w.heap.size + 1 + 1, 0, none⟩ = false := (((((Ext.refl w1).alloc _).alloc _).out.frozen (p := ⟨w.heap.size + 1 + 1, 0, none⟩) l2)).trans f2
    have d1 : (((w1.alloc (.cells #[.slice A n c] 24)).alloc (.cells #[.int .i64 (i : Nat)] 3))).cell? ⟨w.heap.size + 1, 0, none⟩ = some (.int .u64 s) := (((Ext.refl w1).alloc _).alloc _).cell c1
    have d0 : (((w1.alloc (.cells #[.slice A n c] 24)).alloc (.cells #[.int .i64 (i : Nat)] 3))).cell? ⟨w.heap.size, 0, none⟩ = some (.slice A n c) := (((Ext.refl w1).alloc _).alloc _).cell c0
    have dt : (((w1.alloc (.cells #[.slice A n c] 24)).alloc (.cells #[.int .i64 (i : Nat)] 3))).cell? ⟨w1.heap.size, 0, none⟩ = some (.slice A n c) := by simp (maxDischargeDepth := 7) [go_sem]
    have db : (((w1.alloc (.cells #[.slice A n c] 24)).alloc (.cells #[.int .i64 (i : Nat)] 3))).cell? ⟨w1.heap.size + 1, 0, none⟩ = some (.int .i64 i) := by simp (maxDischargeDepth := 7) [go_sem]
    have fb : (((w1.alloc (.cells #[.slice A n c] 24)).alloc (.cells #[.int .i64 (i : Nat)] 3))).frozen? ⟨w1.heap.size + 1, 0, none⟩ = false := by simp (maxDischargeDepth := 7) [go_sem]
    have hB0 : Ext w ((w1.alloc (.cells #[.slice A n c] 24)).alloc (.cells #[.int .i64 (i : Nat)] 3)) := (k1.alloc _).alloc _
    have hsz : (((w1.alloc (.cells #[.slice A n c] 24)).alloc (.cells #[.int .i64 (i : Nat)] 3))).heap.size = w1.heap.size + 1 + 1 := by simp
    generalize (((w1.alloc (.cells #[.slice A n c] 24)).alloc (.cells #[.int .i64 (i : Nat)] 3))) = W0 at d2 e2 d1 d0 dt db fb hB0 hsz ⊢
    have HSZ := Lib.hid hsz
    have hlt0 : w1.heap.size + 1 < W0.heap.size := by omega
    clear hsz c0 c1 c2 f2
    refine range_capS (w := W0) rfl (by omega) (gf := 41) (lb := #[.pointer (some ⟨w1.heap.size + 1, 0, none⟩), .pointer (some ⟨w1.heap.size, 0, none⟩)]) rfl trivial (enters_of Try.func41 (by kernel_rfl) rfl)
      (B := w1.heap.size + 1) (xs := Tree.line NS i) (T := TT A n c NS w1.heap.size) hlt0 (line1_in A n c NS HMA.out HLE.out i hi' _ _ W0 db fb)
      (fun pre W => (W.cell? ⟨w.heap.size + 1 + 1, 0, none⟩ = some (.int .i64 0) ∧ W.frozen? ⟨w.heap.size + 1 + 1, 0, none⟩ = false ∧ W.cell? ⟨w.heap.size + 1, 0, none⟩ = some (.int .u64 s) ∧ W.cell? ⟨w1.heap.size, 0, none⟩ = some (.slice A n c) ∧ W.cell? ⟨w.heap.size, 0, none⟩ = some (.slice A n c) ∧ ∀ a ∈ pre, s < (Tree.nd NS a).slot) ∧ Below w.heap.size w W)
      (fun cd _ W => (cd = .ret ∧ ∃ x : Nat, W.cell? ⟨w.heap.size + 1 + 1, 0, none⟩ = some (.int .i64 x) ∧ (Tree.line NS i).find? (fun a => decide ((Tree.nd NS a).slot ≤ s)) = some x) ∧ Below w.heap.size w W)
      (OwnFrom.and (Own.from (fun s A B row hs hg hr => ⟨cell_kept hs.1 hg hr, (frozen_kept hs.1 hg hr).trans hs.2.1, cell_kept hs.2.2.1 hg hr, cell_kept hs.2.2.2.1 hg hr, cell_kept hs.2.2.2.2.1 hg hr, hs.2.2.2.2.2⟩) _) (ownFrom_below (Nat.le_refl _) (by omega)))
      (fun cd => OwnFrom.and (Own.from (fun s A B row hs hg hr => ⟨hs.1, hs.2.choose, cell_kept hs.2.choose_spec.1 hg hr, hs.2.choose_spec.2⟩) _) (ownFrom_below (Nat.le_refl _) (by omega)))
      (fun s A v hs => ⟨⟨(World.cell?_of_block (own_set (B := w1.heap.size + 1) (B' := w.heap.size + 1 + 1) (by omega))).trans hs.1.1, (World.frozen?_of_block (a := ⟨w.heap.size + 1 + 1, 0, none⟩) (own_set (B := w1.heap.size + 1) (B' := w.heap.size + 1 + 1) (by omega))).trans hs.1.2.1, (World.cell?_of_block (own_set (B := w1.heap.size + 1) (B' := w.heap.size + 1) (by omega))).trans hs.1.2.2.1, (World.cell?_of_block (own_set (B := w1.heap.size + 1) (B' := w1.heap.size) (by omega))).trans hs.1.2.2.2.1, (World.cell?_of_block (own_set (B := w1.heap.size + 1) (B' := w.heap.size) (by omega))).trans hs.1.2.2.2.2.1, hs.1.2.2.2.2.2⟩, hs.2.setCell (p := ⟨w1.heap.size + 1, 0, none⟩) (show w.heap.size ≤ w1.heap.size + 1 by omega) _⟩)
      ⟨⟨d2, e2, d1, dt, d0, by simp⟩, hB0.out⟩ (fun s A hs => ⟨hs.1.2.2.2.1, HV.out _ ⟨hs.2⟩⟩)
      (fun x => { tmps := #[.agg #[.slice A n c], .int .i64 i, .int .u64 s, .pointer (some ⟨w.heap.size, 0, none⟩), undef, .pointer (some ⟨w.heap.size + 1, 0, none⟩), .pointer (some ⟨w.heap.size + 1 + 1, 0, none⟩), .int .i64 (x : Nat), .agg #[.slice A n c], .int .i64 i, .slice (some ⟨w.heap.size + 1 + 1 + 1, 0, none⟩) 1 1, .bool true, .bool false, .agg #[.slice A n c], .int .i64 i, .func (.func 41) #[] #[.pointer (some ⟨w1.heap.size + 1, 0, none⟩), .pointer (some ⟨w1.heap.size, 0, none⟩)], .int .i64 (x : Nat), undef, undef, undef, undef, undef, undef, undef, undef, undef], defers := [] }) ?assign ?body ?done ?stop
    case assign =>
      intro l x W K hK
      gi_wp2
      exact hK
    case body =>
      rintro lp pre x W ⟨⟨hc, hf, hcs, hct, hc0, hp⟩, hB⟩ hpx
      have HP := Lib.hid hp
      have HPX := Lib.hid hpx
      have hxn : x < n := by
        have := Tree.mem_le (T := NS) (k := i) (hpx.subset (show x ∈ pre ++ [x] by simp))
        omega
      clear hp hpx
      obtain ⟨b, off, rfl, hrx, hok⟩ := (HV.out W ⟨hB⟩).at' hxn
      have d33 := rangeAt_head hrx (Node.at33 hok)
      change W.cell? _ = some (.int .u64 (Tree.nd NS x).slot) at d33
      obtain ⟨z, hz⟩ : ∃ z, (Tree.nd NS x).slot = z := ⟨_, rfl⟩
      rw [hz] at d33
      have HZ := Lib.hid hz
      clear hrx hok hz
      have g0 : (x : Int) < n := by omega
      have g00 : (0 : Int) ≤ x := by omega
      have hmix : Try.prog.follows .mixedOrders = true := by kernel_rfl
      by_cases hle : z ≤ s
      · have g1 : (z : Int) ≤ s := by omega
        gi_wp2
        gi_region_with_o (fail)
        all_goals gi_wp2
        all_goals exact ⟨(KeepsOthers.setCell W ⟨w.heap.size + 1 + 1, 0, none⟩ _).trans (KeepsOthers.drew _), ⟨rfl, x, by rw [cell_drew_own]; exact World.cell?_setCell_same' _ _ _ (by rw [hc]; rfl), find_stop HPX.out HP.out (by rw [HZ.out]; omega)⟩, (hB.setCell (p := ⟨w.heap.size + 1 + 1, 0, none⟩) (show w.heap.size ≤ w.heap.size + 1 + 1 by omega) _).drew⟩
      · have g1 : ¬ (z : Int) ≤ s := by omega
        have hp' : Hid (∀ a ∈ pre ++ [x], s < (Tree.nd NS a).slot) := fun a ha => by
          rcases List.mem_append.1 ha with h | h
          · exact HP.out a h
          · simp at h; subst h; rw [HZ.out]; omega
        gi_wp2
        gi_region_with_o (fail)
        all_goals gi_wp2
        all_goals exact ⟨KeepsOthers.drew _, rfl, ⟨by rw [cell_drew_own]; exact hc, by rw [frozen_drew_own]; exact hf, by rw [cell_drew_own]; exact hcs, by rw [cell_drew_own]; exact hct, by rw [cell_drew_own]; exact hc0, hp'.out⟩, hB.drew⟩
    case done =>
      rintro D W hD ⟨⟨hc, hf, hci, hct, hc0, hp⟩, hB⟩ hK
      have hv := Lib.hid (HAT.out _ (find_none hp))
      clear hp
      gi_wp2
      have hK' := (KeepsOthers.setCell W ⟨w.heap.size + 1 + 1, 0, none⟩ (.int .i64 (-1))).same D _ hK rfl
      have hc' : (W.setCell ⟨w.heap.size + 1 + 1, 0, none⟩ (.int .i64 (-1))).cell? ⟨w.heap.size + 1 + 1, 0, none⟩ = some (.int .i64 (-1)) := World.cell?_setCell_same' _ _ _ (by rw [hc]; rfl)
      refine ⟨by simp, .inl ⟨_, _, rfl, run_takeDeferred hK', ?_⟩⟩
      exact ⟨.int .i64 (-1), by simp (maxDischargeDepth := 7) [results, Try.results14, go_sem, cell_kept hc' (grownBy_putObj' _ D (.deferred none)) (fun r e => by cases e; exact ⟨_, hK', rfl⟩)], by rw [hv.out]; rfl, ⟨Below.trans (hB.setCell (p := ⟨w.heap.size + 1 + 1, 0, none⟩) (by show w.heap.size ≤ w.heap.size + 1 + 1; omega) _) (belowK_b (w := w) (Nat.le_refl _) _ D _ _ (by have := HSZ.out; omega) hK' rfl rfl)⟩⟩
    case stop =>
      rintro D cd pre W hD hpre ⟨⟨rfl, x, hc, hx⟩, hB⟩ hK
      have hv := Lib.hid (HAT.out _ hx)
      clear hx
      gi_wp2
      refine ⟨by simp, .inl ⟨_, _, rfl, run_takeDeferred hK, ?_⟩⟩
      exact ⟨.int .i64 x, by simp (maxDischargeDepth := 7) [results, Try.results14, go_sem, cell_kept hc (grownBy_putObj' _ D (.deferred none)) (fun r e => by cases e; exact ⟨_, hK, rfl⟩)], by rw [hv.out]; rfl, ⟨Below.trans hB (belowK_b (w := w) (Nat.le_refl _) _ D _ _ (by have := HSZ.out; omega) hK rfl rfl)⟩⟩
theorem at_any (A : Option Addr) (n c : Nat) (NS : List Node) (i : Int) (hi : (Lit.int .i64 i).wf = true) (s : Nat) (hs : s < 18446744073709551616) (w : World) (h : NL w A n c NS) :
    Calls Try.prog 14 #[.agg #[.slice A n c], .int .i64 i, .int .u64 s] w fun e w' => e = .returned (.int .i64 (Tree.atV NS i s)) ∧ Ext w w' := callsIn_wide.1 (at_in A n c NS i hi s hs w h)
theorem above_is (A : Option Addr) (n c : Nat) (NS : List Node) (i k : Int) (hi : (Lit.int .i64 i).wf = true) (hk : (Lit.int .i64 k).wf = true) (b : Bool) (hb : Tree.aboveV NS i k = b) (w : World) (h : NL w A n c NS) :
    Calls Try.prog 13 #[.agg #[.slice A n c], .int .i64 i, .int .i64 k] w fun e w' => e = .returned (.bool b) ∧ Ext w w' := by subst hb; exact above_any A n c NS i k hi hk w h
theorem at_is (A : Option Addr) (n c : Nat) (NS : List Node) (i : Int) (hi : (Lit.int .i64 i).wf = true) (s : Nat) (hs : s < 18446744073709551616) (r : Int) (hr : Tree.atV NS i s = r) (w : World) (h : NL w A n c NS) :
    Calls Try.prog 14 #[.agg #[.slice A n c], .int .i64 i, .int .u64 s] w fun e w' => e = .returned (.int .i64 r) ∧ Ext w w' := by subst hr; exact at_any A n c NS i hi s hs w h
theorem find_is (A : Option Addr) (n c : Nat) (NS : List Node) (r : List Int) (hr : RootOk r) (j : Int) (hj : Tree.findV NS r = j) (w : World) (h : NL w A n c NS) :
    Calls Try.prog 16 #[.agg #[.slice A n c], .agg (rootC r).toArray] w fun e w' => e = .returned (.int .i64 j) ∧ Ext w w' := by subst hj; exact find_any A n c NS r hr w h
end Go.Proofs.Ytoifhpcpahfddaa
