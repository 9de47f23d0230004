/- The document's answer of layer 6: Insert. -/
import Derived.Test.YtoifhpcpahfddaaTreeRefKids
import Derived.Test.YtoifhpcpahfddaaTreePut
import Derived.Test.YtoifhpcpahfddaaTreeCut
import Derived.Deep.RegionHeld3
namespace Go.Proofs.Ytoifhpcpahfddaa
open Go.RowKit Go.WideShapes Go.ChangeShapes
set_option linter.unusedVariables false
set_option linter.unusedSimpArgs false







def zNode : Array Value := Node.zero.cells.toArray
theorem zNode_size : zNode.size = 35 := rfl
theorem zNode_ne : ¬ zNode = #[] := fun h => by have := congrArg Array.size h; rw [zNode_size] at this; cases this
theorem zeroNode (w : World) : Sem.run Try.prog (zeroValue 34) w = .ok (.agg zNode) w := by kernel_rfl
set_option maxRecDepth 100000 in
/-- A slice of one node. -/
theorem wp_buildN {op : Oper} {a : Act} {w : World} {K : Act → World → Prop} {Q : Exit → Act → World → Prop} (y : Nat) (ho : op.op = .buildSlice 22 1 #[(0, .tmp y)]) (cs : List Value) (hy' : a.eval (.tmp y) = .agg cs.toArray) (hl : cs.length = 35)
    (h : K (a.put op.dst (.slice (some ⟨w.heap.size, 0, none⟩) 1 1)) (w.alloc (.cells cs.toArray 34))) : op.wp Try.prog a w K Q := by
  have hzn := zeroNode
  have hzs := zNode_size
  have hze := zNode_ne
  have hy : a.tmps[y]?.getD undef = .agg cs.toArray := by simpa [Act.eval] using hy'
  unfold Oper.wp execOp
  simp only [ho]
  go_simp
  rw [fold_put0 (by rw [hl]; rfl)]
  exact h
theorem range_setB {w : World} {b o : Nat} {cs : List Value} (h : w.rangeAt b o cs) {p : Addr} (hne : b ≠ p.block) (v : Value) : (w.setCell p v).rangeAt b o cs := by
  intro i u hu
  have hne' : p ≠ ⟨b, o + i, none⟩ := by rintro rfl; exact hne rfl
  exact (World.cell?_setCell_other _ _ _ _ hne').trans (h i u hu)
theorem own_off {w : World} {base k : Nat} {e : TypeId} {size : Nat} {v : Value} {n : Nat} {xs : List Value} (h : w.ownsRow base e size v n xs) (hk : k < base ∨ w.heap.size ≤ k) : v.ownBlock ≠ some k := fun h' => by
  have := h.lt _ h'
  omega


set_option maxRecDepth 100000 in
set_option maxHeartbeats 4000000 in
theorem rinsert_any (A : Option Addr) (n c : Nat) (NS : List Node) (b : Block) (hb : b.Ok) (w : World) (h : NL w A n c NS) :
    Calls Try.prog 20 #[.agg #[.slice A n c], .agg b.cells.toArray] w fun e w' => (∃ A2 m c2, e = .returned (.tuple #[.agg #[.slice A2 m c2], .int .i64 (Tree.putE NS b)]) ∧ NL w' A2 m c2 (Tree.putV NS b)) ∧ Ext w w' := by
  have hlen := h.len
  have hroom := h.row.room
  have HM := Lib.hid (fun x (hb : Tree.mayV NS = x) W (k : Ext w W) => rmay_is A n c NS x hb W (h.ext k))
  have HF1 := Lib.hid (fun W (k : Ext w W) => rfind_any A n c NS b.root hb.1 W (h.ext k))
  have HF2 := Lib.hid (fun W (k : Ext w W) => rfind_any A n c NS b.up hb.2.1 W (h.ext k))
  have HV := Lib.hid (fun W (k : Ext w W) => h.ext k)
  have HBO := Lib.hid hb
  have HBY := Lib.hid h.bytes
  have HLE := Lib.hid hlen
  have HOK := Lib.hid h.ok
  have hi32 : (Try.prog.info? 32).map (·.size) = some (rootC b.root).length := by rw [rootC_len hb.1]; kernel_rfl
  have hj32 : (Try.prog.info? 32).map (·.size) = some (rootC b.up).length := by rw [rootC_len hb.2.1]; kernel_rfl
  clear h hb
  cases hm : Tree.mayV NS with
  | false =>
    have HE : Hid (Tree.putE NS b = 1) := by show _ = _; unfold Tree.putE; rw [hm, if_neg (by simp)]
    have HVV : Hid (Tree.putV NS b = NS) := by show _ = _; unfold Tree.putV; rw [HE.out, if_neg (by decide)]
    go_enter Try.func20, Try.ntmps20
    go_wp2_with fail
    refine (HM.out false hm _ ((by repeat (first | assumption | exact Ext.refl _ | refine Ext.alloc ?_ _ | refine Ext.drew ?_ | refine Ext.drewN ?_ _ | refine Ext.setCell ?_ (by first | (simp; done) | omega | (simp; omega)) _ | refine Ext.trans (by assumption) ?_)))).mono ?_
    rintro e w1 ⟨rfl, hx1⟩
    have kk : Ext w w1 := Ext.trans ((by repeat (first | assumption | exact Ext.refl _ | refine Ext.alloc ?_ _ | refine Ext.drew ?_ | refine Ext.drewN ?_ _ | refine Ext.setCell ?_ (by first | (simp; done) | omega | (simp; omega)) _ | refine Ext.trans (by assumption) ?_))) hx1
    have t0 : w1.cell? ⟨w.heap.size, 0, none⟩ = some (.slice A n c) := hx1.cell (by simp (maxDischargeDepth := 7) [go_sem])
    have tf : w1.frozen? ⟨w.heap.size, 0, none⟩ = false := (hx1.out.frozen (p := ⟨w.heap.size, 0, none⟩) (by simp; omega)).trans (by simp (maxDischargeDepth := 7) [go_sem])
    have rB : w1.rangeAt (w.heap.size + 1) 0 b.cells := rangeAt_ext (rangeAt_ext (range_at (w := w.alloc (.cells #[.slice A n c] 24)) (B := w.heap.size + 1) b.cells 44 (by simp)) ((Ext.refl _).alloc (.cells #[.slice none 0 0] 24))) hx1
    have c4 : w1.cell? ⟨w.heap.size + 1 + 1, 0, none⟩ = some (.slice none 0 0) := hx1.cell (by simp (maxDischargeDepth := 7) [go_sem])
    have f4 : w1.frozen? ⟨w.heap.size + 1 + 1, 0, none⟩ = false := (hx1.out.frozen (p := ⟨w.heap.size + 1 + 1, 0, none⟩) (by simp)).trans (by simp (maxDischargeDepth := 7) [go_sem])
    have tl := lt_of_cell t0
    have cl := lt_of_cell c4
    clear hx1
    go_wp2
    refine bodyPost_ret (v := .tuple #[.agg #[.slice A n c], .int .i64 1]) (by simp (maxDischargeDepth := 7) [results, Try.results20, go_sem, c4, f4]) rfl ⟨⟨_, _, _, by rw [HE.out], ?_⟩, ?_⟩
    · rw [HVV.out]; exact HV.out _ (kk.setCell (p := ⟨w.heap.size + 1 + 1, 0, none⟩) (by show w.heap.size ≤ w.heap.size + 1 + 1; omega) _)
    · exact kk.setCell (p := ⟨w.heap.size + 1 + 1, 0, none⟩) (by show w.heap.size ≤ w.heap.size + 1 + 1; omega) _
  | true =>
    have h12 := Tree.len_le hm
    rw [hlen] at h12
    by_cases hr : b.root ∈ Tree.roots NS
    · have HE : Hid (Tree.putE NS b = 4) := by show _ = _; unfold Tree.putE; rw [if_pos hm, if_pos hr]
      have HVV : Hid (Tree.putV NS b = NS) := by show _ = _; unfold Tree.putV; rw [HE.out, if_neg (by decide)]
      rw [findV_in hm hr] at HF1
      clear hr
      have gz : (0 : Int) ≤ ((Tree.roots NS).idxOf b.root : Nat) := by omega
      generalize (Tree.roots NS).idxOf b.root = z at *
      go_enter Try.func20, Try.ntmps20
      go_wp2_with fail
      refine (HM.out true hm _ ((by repeat (first | assumption | exact Ext.refl _ | refine Ext.alloc ?_ _ | refine Ext.drew ?_ | refine Ext.drewN ?_ _ | refine Ext.setCell ?_ (by first | (simp; done) | omega | (simp; omega)) _ | refine Ext.trans (by assumption) ?_)))).mono ?_
      rintro e w1 ⟨rfl, hx1⟩
      have kk : Ext w w1 := Ext.trans ((by repeat (first | assumption | exact Ext.refl _ | refine Ext.alloc ?_ _ | refine Ext.drew ?_ | refine Ext.drewN ?_ _ | refine Ext.setCell ?_ (by first | (simp; done) | omega | (simp; omega)) _ | refine Ext.trans (by assumption) ?_))) hx1
      have t0 : w1.cell? ⟨w.heap.size, 0, none⟩ = some (.slice A n c) := hx1.cell (by simp (maxDischargeDepth := 7) [go_sem])
      have tf : w1.frozen? ⟨w.heap.size, 0, none⟩ = false := (hx1.out.frozen (p := ⟨w.heap.size, 0, none⟩) (by simp; omega)).trans (by simp (maxDischargeDepth := 7) [go_sem])
      have rB : w1.rangeAt (w.heap.size + 1) 0 b.cells := rangeAt_ext (rangeAt_ext (range_at (w := w.alloc (.cells #[.slice A n c] 24)) (B := w.heap.size + 1) b.cells 44 (by simp)) ((Ext.refl _).alloc (.cells #[.slice none 0 0] 24))) hx1
      have c4 : w1.cell? ⟨w.heap.size + 1 + 1, 0, none⟩ = some (.slice none 0 0) := hx1.cell (by simp (maxDischargeDepth := 7) [go_sem])
      have f4 : w1.frozen? ⟨w.heap.size + 1 + 1, 0, none⟩ = false := (hx1.out.frozen (p := ⟨w.heap.size + 1 + 1, 0, none⟩) (by simp)).trans (by simp (maxDischargeDepth := 7) [go_sem])
      have tl := lt_of_cell t0
      have cl := lt_of_cell c4
      clear hx1
      have rR : World.rangeAt w1 (w.heap.size + 1) 0 (rootC b.root) := rangeAt_part (xs := []) (ys := rootC b.root) (zs := rootC b.up ++ [Value.int .u64 b.slot, Value.int .u64 b.just]) (k := 0) (by rw [List.nil_append, ← List.append_assoc]; exact rB) rfl
      have rU : World.rangeAt w1 (w.heap.size + 1) 32 (rootC b.up) := by have := rangeAt_part (xs := rootC b.root) (ys := rootC b.up) (zs := [Value.int .u64 b.slot, Value.int .u64 b.just]) (k := 32) rB (rootC_len HBO.out.1); rwa [Nat.zero_add] at this
      have d2 := rangeAt_head rB (j := 64) (v := .int .u64 b.slot) (by unfold Block.cells; simp [rootC_len HBO.out.1, rootC_len HBO.out.2.1])
      simp only [Nat.zero_add] at d2
      go_wp2_with (refine wpList_load_mid rfl 32 _ rfl _ _ rfl (rootC b.root) _ rR Try.underlying32 rfl hi32 ?_)
      refine (HF1.out _ kk).mono ?_
      rintro e w2 ⟨rfl, hx2⟩
      replace tf := (hx2.out.frozen (p := ⟨w.heap.size, 0, none⟩) (lt_of_cell t0)).trans tf
      replace f4 := (hx2.out.frozen (p := ⟨w.heap.size + 1 + 1, 0, none⟩) (lt_of_cell c4)).trans f4
      replace t0 := hx2.cell t0
      replace c4 := hx2.cell c4
      replace rB := rangeAt_ext rB hx2
      replace kk := kk.trans hx2
      replace tl := lt_of_cell t0
      replace cl := lt_of_cell c4
      clear hx2
      clear rR rU d2
      go_wp2
      refine bodyPost_ret (v := .tuple #[.agg #[.slice A n c], .int .i64 4]) (by simp (maxDischargeDepth := 7) [results, Try.results20, go_sem, c4, f4]) rfl ⟨⟨_, _, _, by rw [HE.out], ?_⟩, ?_⟩
      · rw [HVV.out]; exact HV.out _ (kk.setCell (p := ⟨w.heap.size + 1 + 1, 0, none⟩) (by show w.heap.size ≤ w.heap.size + 1 + 1; omega) _)
      · exact kk.setCell (p := ⟨w.heap.size + 1 + 1, 0, none⟩) (by show w.heap.size ≤ w.heap.size + 1 + 1; omega) _
    · rw [findV_out hr] at HF1
      by_cases hu : b.up ∈ Tree.roots NS
      · rw [findV_in hm hu] at HF2
        obtain ⟨p, hp⟩ : ∃ p, (Tree.roots NS).idxOf b.up = p := ⟨_, rfl⟩
        have hpl := List.idxOf_lt_length_of_mem hu
        rw [roots_len, hlen, hp] at hpl
        rw [hp] at HF2
        obtain ⟨sp, hsp⟩ : ∃ sp, (Tree.nd NS p).slot = sp := ⟨_, rfl⟩
        have HSP := Lib.hid hsp
        have HEQ : Hid (Tree.putE NS b = if b.slot ≤ sp ∨ 1099511627776 < b.slot then 6 else if n = 12 then 3 else 0) := by show _ = _; unfold Tree.putE; rw [if_pos hm, if_neg hr, if_pos hu, hp, hsp, hlen]
        have gpn : (p : Int) < n := by omega
        have gp0 : ¬ (p : Int) < 0 := by omega
        have hoku := HBO.out.2.2.1
        obtain ⟨bs, hbs⟩ : ∃ bs, b.slot = bs := ⟨_, rfl⟩
        rw [hbs] at HEQ hoku
        have HBS := Lib.hid hbs
        have HP := Lib.hid hp
        clear hr hu hp hsp hlen hbs
        by_cases h1 : bs ≤ sp
        · have HE : Hid (Tree.putE NS b = 6) := by show _ = _; rw [HEQ.out, if_pos (.inl h1)]
          have HVV : Hid (Tree.putV NS b = NS) := by show _ = _; unfold Tree.putV; rw [HE.out, if_neg (by decide)]
          have gs : (bs : Int) ≤ sp := by omega
          clear h1
          go_enter Try.func20, Try.ntmps20
          go_wp2_with fail
          refine (HM.out true hm _ ((by repeat (first | assumption | exact Ext.refl _ | refine Ext.alloc ?_ _ | refine Ext.drew ?_ | refine Ext.drewN ?_ _ | refine Ext.setCell ?_ (by first | (simp; done) | omega | (simp; omega)) _ | refine Ext.trans (by assumption) ?_)))).mono ?_
          rintro e w1 ⟨rfl, hx1⟩
          have kk : Ext w w1 := Ext.trans ((by repeat (first | assumption | exact Ext.refl _ | refine Ext.alloc ?_ _ | refine Ext.drew ?_ | refine Ext.drewN ?_ _ | refine Ext.setCell ?_ (by first | (simp; done) | omega | (simp; omega)) _ | refine Ext.trans (by assumption) ?_))) hx1
          have t0 : w1.cell? ⟨w.heap.size, 0, none⟩ = some (.slice A n c) := hx1.cell (by simp (maxDischargeDepth := 7) [go_sem])
          have tf : w1.frozen? ⟨w.heap.size, 0, none⟩ = false := (hx1.out.frozen (p := ⟨w.heap.size, 0, none⟩) (by simp; omega)).trans (by simp (maxDischargeDepth := 7) [go_sem])
          have rB : w1.rangeAt (w.heap.size + 1) 0 b.cells := rangeAt_ext (rangeAt_ext (range_at (w := w.alloc (.cells #[.slice A n c] 24)) (B := w.heap.size + 1) b.cells 44 (by simp)) ((Ext.refl _).alloc (.cells #[.slice none 0 0] 24))) hx1
          have c4 : w1.cell? ⟨w.heap.size + 1 + 1, 0, none⟩ = some (.slice none 0 0) := hx1.cell (by simp (maxDischargeDepth := 7) [go_sem])
          have f4 : w1.frozen? ⟨w.heap.size + 1 + 1, 0, none⟩ = false := (hx1.out.frozen (p := ⟨w.heap.size + 1 + 1, 0, none⟩) (by simp)).trans (by simp (maxDischargeDepth := 7) [go_sem])
          have tl := lt_of_cell t0
          have cl := lt_of_cell c4
          clear hx1
          have rR : World.rangeAt w1 (w.heap.size + 1) 0 (rootC b.root) := rangeAt_part (xs := []) (ys := rootC b.root) (zs := rootC b.up ++ [Value.int .u64 b.slot, Value.int .u64 b.just]) (k := 0) (by rw [List.nil_append, ← List.append_assoc]; exact rB) rfl
          have rU : World.rangeAt w1 (w.heap.size + 1) 32 (rootC b.up) := by have := rangeAt_part (xs := rootC b.root) (ys := rootC b.up) (zs := [Value.int .u64 b.slot, Value.int .u64 b.just]) (k := 32) rB (rootC_len HBO.out.1); rwa [Nat.zero_add] at this
          have d2 := rangeAt_head rB (j := 64) (v := .int .u64 b.slot) (by unfold Block.cells; simp [rootC_len HBO.out.1, rootC_len HBO.out.2.1])
          simp only [Nat.zero_add] at d2
          go_wp2_with (refine wpList_load_mid rfl 32 _ rfl _ _ rfl (rootC b.root) _ rR Try.underlying32 rfl hi32 ?_)
          refine (HF1.out _ kk).mono ?_
          rintro e w2 ⟨rfl, hx2⟩
          replace tf := (hx2.out.frozen (p := ⟨w.heap.size, 0, none⟩) (lt_of_cell t0)).trans tf
          replace f4 := (hx2.out.frozen (p := ⟨w.heap.size + 1 + 1, 0, none⟩) (lt_of_cell c4)).trans f4
          replace t0 := hx2.cell t0
          replace c4 := hx2.cell c4
          replace rB := rangeAt_ext rB hx2
          replace kk := kk.trans hx2
          replace tl := lt_of_cell t0
          replace cl := lt_of_cell c4
          clear hx2
          clear rR rU d2
          have rR : World.rangeAt w2 (w.heap.size + 1) 0 (rootC b.root) := rangeAt_part (xs := []) (ys := rootC b.root) (zs := rootC b.up ++ [Value.int .u64 b.slot, Value.int .u64 b.just]) (k := 0) (by rw [List.nil_append, ← List.append_assoc]; exact rB) rfl
          have rU : World.rangeAt w2 (w.heap.size + 1) 32 (rootC b.up) := by have := rangeAt_part (xs := rootC b.root) (ys := rootC b.up) (zs := [Value.int .u64 b.slot, Value.int .u64 b.just]) (k := 32) rB (rootC_len HBO.out.1); rwa [Nat.zero_add] at this
          have d2 := rangeAt_head rB (j := 64) (v := .int .u64 b.slot) (by unfold Block.cells; simp [rootC_len HBO.out.1, rootC_len HBO.out.2.1])
          simp only [Nat.zero_add] at d2
          go_wp2_with (refine wpList_load_mid rfl 32 _ rfl _ _ rfl (rootC b.up) _ rU Try.underlying32 rfl hj32 ?_)
          refine (HF2.out _ kk).mono ?_
          rintro e w3 ⟨rfl, hx3⟩
          replace tf := (hx3.out.frozen (p := ⟨w.heap.size, 0, none⟩) (lt_of_cell t0)).trans tf
          replace f4 := (hx3.out.frozen (p := ⟨w.heap.size + 1 + 1, 0, none⟩) (lt_of_cell c4)).trans f4
          replace t0 := hx3.cell t0
          replace c4 := hx3.cell c4
          replace rB := rangeAt_ext rB hx3
          replace kk := kk.trans hx3
          replace tl := lt_of_cell t0
          replace cl := lt_of_cell c4
          clear hx3
          clear rR rU d2
          obtain ⟨bb, off, rfl, hrx, hokx⟩ := (HV.out _ kk).at' hpl
          have dp := rangeAt_head hrx (Node.at33 hokx)
          change World.cell? _ _ = some (.int .u64 (Tree.nd NS p).slot) at dp
          rw [HSP.out] at dp
          have rR : World.rangeAt w3 (w.heap.size + 1) 0 (rootC b.root) := rangeAt_part (xs := []) (ys := rootC b.root) (zs := rootC b.up ++ [Value.int .u64 b.slot, Value.int .u64 b.just]) (k := 0) (by rw [List.nil_append, ← List.append_assoc]; exact rB) rfl
          have rU : World.rangeAt w3 (w.heap.size + 1) 32 (rootC b.up) := by have := rangeAt_part (xs := rootC b.root) (ys := rootC b.up) (zs := [Value.int .u64 b.slot, Value.int .u64 b.just]) (k := 32) rB (rootC_len HBO.out.1); rwa [Nat.zero_add] at this
          have d2 := rangeAt_head rB (j := 64) (v := .int .u64 b.slot) (by unfold Block.cells; simp [rootC_len HBO.out.1, rootC_len HBO.out.2.1])
          simp only [Nat.zero_add] at d2
          rw [HBS.out] at d2
          clear hrx hokx
          go_wp2_with fail
          refine wp_region_quiet_lit (by kernel_rfl) (by kernel_rfl) ?_
          repeat (first | go_big_quiet_skip | (go_big_quiet_want; first | ((fail); (try simp only [Act.put, List.setIfInBounds_toArray, List.set_cons_zero, List.set_cons_succ]); go_big_quiet_on) | (go_big_quiet_op; first | go_big_quiet_on | go_big_quiet_call (fail))))
          refine wpQuiet_nil ?_
          intro _ hw'
          obtain ⟨nq', hw''⟩ := hw'
          subst hw''
          have kd : Ext w3 (w3.drewN nq') := (Ext.refl _).drewN _
          replace tf := (kd.out.frozen (p := ⟨w.heap.size, 0, none⟩) (lt_of_cell t0)).trans tf
          replace f4 := (kd.out.frozen (p := ⟨w.heap.size + 1 + 1, 0, none⟩) (lt_of_cell c4)).trans f4
          replace t0 := kd.cell t0
          replace c4 := kd.cell c4
          replace rB := rangeAt_ext rB kd
          replace kk := kk.trans kd
          replace tl := lt_of_cell t0
          replace cl := lt_of_cell c4
          clear kd
          clear rR rU d2 dp
          generalize w3.drewN nq' = w3 at *
          go_wp2
          refine bodyPost_ret (v := .tuple #[.agg #[.slice (some ⟨bb, off, none⟩) n c], .int .i64 6]) (by simp (maxDischargeDepth := 7) [results, Try.results20, go_sem, c4, f4]) rfl ⟨⟨_, _, _, by rw [HE.out], ?_⟩, ?_⟩
          · rw [HVV.out]; exact HV.out _ (kk.setCell (p := ⟨w.heap.size + 1 + 1, 0, none⟩) (by show w.heap.size ≤ w.heap.size + 1 + 1; omega) _)
          · exact kk.setCell (p := ⟨w.heap.size + 1 + 1, 0, none⟩) (by show w.heap.size ≤ w.heap.size + 1 + 1; omega) _
        · have gs : decide ((bs : Int) ≤ sp) = false := decide_eq_false (by omega)
          have gs2 : decide (bs ≤ sp) = false := decide_eq_false h1
          by_cases h2 : 1099511627776 < bs
          · have HE : Hid (Tree.putE NS b = 6) := by show _ = _; rw [HEQ.out, if_pos (.inr h2)]
            have HVV : Hid (Tree.putV NS b = NS) := by show _ = _; unfold Tree.putV; rw [HE.out, if_neg (by decide)]
            have gm : (1099511627776 : Int) < bs := by omega
            clear h1 h2
            go_enter Try.func20, Try.ntmps20
            go_wp2_with fail
            refine (HM.out true hm _ ((by repeat (first | assumption | exact Ext.refl _ | refine Ext.alloc ?_ _ | refine Ext.drew ?_ | refine Ext.drewN ?_ _ | refine Ext.setCell ?_ (by first | (simp; done) | omega | (simp; omega)) _ | refine Ext.trans (by assumption) ?_)))).mono ?_
            rintro e w1 ⟨rfl, hx1⟩
            have kk : Ext w w1 := Ext.trans ((by repeat (first | assumption | exact Ext.refl _ | refine Ext.alloc ?_ _ | refine Ext.drew ?_ | refine Ext.drewN ?_ _ | refine Ext.setCell ?_ (by first | (simp; done) | omega | (simp; omega)) _ | refine Ext.trans (by assumption) ?_))) hx1
            have t0 : w1.cell? ⟨w.heap.size, 0, none⟩ = some (.slice A n c) := hx1.cell (by simp (maxDischargeDepth := 7) [go_sem])
            have tf : w1.frozen? ⟨w.heap.size, 0, none⟩ = false := (hx1.out.frozen (p := ⟨w.heap.size, 0, none⟩) (by simp; omega)).trans (by simp (maxDischargeDepth := 7) [go_sem])
            have rB : w1.rangeAt (w.heap.size + 1) 0 b.cells := rangeAt_ext (rangeAt_ext (range_at (w := w.alloc (.cells #[.slice A n c] 24)) (B := w.heap.size + 1) b.cells 44 (by simp)) ((Ext.refl _).alloc (.cells #[.slice none 0 0] 24))) hx1
            have c4 : w1.cell? ⟨w.heap.size + 1 + 1, 0, none⟩ = some (.slice none 0 0) := hx1.cell (by simp (maxDischargeDepth := 7) [go_sem])
            have f4 : w1.frozen? ⟨w.heap.size + 1 + 1, 0, none⟩ = false := (hx1.out.frozen (p := ⟨w.heap.size + 1 + 1, 0, none⟩) (by simp)).trans (by simp (maxDischargeDepth := 7) [go_sem])
            have tl := lt_of_cell t0
            have cl := lt_of_cell c4
            clear hx1
            have rR : World.rangeAt w1 (w.heap.size + 1) 0 (rootC b.root) := rangeAt_part (xs := []) (ys := rootC b.root) (zs := rootC b.up ++ [Value.int .u64 b.slot, Value.int .u64 b.just]) (k := 0) (by rw [List.nil_append, ← List.append_assoc]; exact rB) rfl
            have rU : World.rangeAt w1 (w.heap.size + 1) 32 (rootC b.up) := by have := rangeAt_part (xs := rootC b.root) (ys := rootC b.up) (zs := [Value.int .u64 b.slot, Value.int .u64 b.just]) (k := 32) rB (rootC_len HBO.out.1); rwa [Nat.zero_add] at this
            have d2 := rangeAt_head rB (j := 64) (v := .int .u64 b.slot) (by unfold Block.cells; simp [rootC_len HBO.out.1, rootC_len HBO.out.2.1])
            simp only [Nat.zero_add] at d2
            go_wp2_with (refine wpList_load_mid rfl 32 _ rfl _ _ rfl (rootC b.root) _ rR Try.underlying32 rfl hi32 ?_)
            refine (HF1.out _ kk).mono ?_
            rintro e w2 ⟨rfl, hx2⟩
            replace tf := (hx2.out.frozen (p := ⟨w.heap.size, 0, none⟩) (lt_of_cell t0)).trans tf
            replace f4 := (hx2.out.frozen (p := ⟨w.heap.size + 1 + 1, 0, none⟩) (lt_of_cell c4)).trans f4
            replace t0 := hx2.cell t0
            replace c4 := hx2.cell c4
            replace rB := rangeAt_ext rB hx2
            replace kk := kk.trans hx2
            replace tl := lt_of_cell t0
            replace cl := lt_of_cell c4
            clear hx2
            clear rR rU d2
            have rR : World.rangeAt w2 (w.heap.size + 1) 0 (rootC b.root) := rangeAt_part (xs := []) (ys := rootC b.root) (zs := rootC b.up ++ [Value.int .u64 b.slot, Value.int .u64 b.just]) (k := 0) (by rw [List.nil_append, ← List.append_assoc]; exact rB) rfl
            have rU : World.rangeAt w2 (w.heap.size + 1) 32 (rootC b.up) := by have := rangeAt_part (xs := rootC b.root) (ys := rootC b.up) (zs := [Value.int .u64 b.slot, Value.int .u64 b.just]) (k := 32) rB (rootC_len HBO.out.1); rwa [Nat.zero_add] at this
            have d2 := rangeAt_head rB (j := 64) (v := .int .u64 b.slot) (by unfold Block.cells; simp [rootC_len HBO.out.1, rootC_len HBO.out.2.1])
            simp only [Nat.zero_add] at d2
            go_wp2_with (refine wpList_load_mid rfl 32 _ rfl _ _ rfl (rootC b.up) _ rU Try.underlying32 rfl hj32 ?_)
            refine (HF2.out _ kk).mono ?_
            rintro e w3 ⟨rfl, hx3⟩
            replace tf := (hx3.out.frozen (p := ⟨w.heap.size, 0, none⟩) (lt_of_cell t0)).trans tf
            replace f4 := (hx3.out.frozen (p := ⟨w.heap.size + 1 + 1, 0, none⟩) (lt_of_cell c4)).trans f4
            replace t0 := hx3.cell t0
            replace c4 := hx3.cell c4
            replace rB := rangeAt_ext rB hx3
            replace kk := kk.trans hx3
            replace tl := lt_of_cell t0
            replace cl := lt_of_cell c4
            clear hx3
            clear rR rU d2
            obtain ⟨bb, off, rfl, hrx, hokx⟩ := (HV.out _ kk).at' hpl
            have dp := rangeAt_head hrx (Node.at33 hokx)
            change World.cell? _ _ = some (.int .u64 (Tree.nd NS p).slot) at dp
            rw [HSP.out] at dp
            have rR : World.rangeAt w3 (w.heap.size + 1) 0 (rootC b.root) := rangeAt_part (xs := []) (ys := rootC b.root) (zs := rootC b.up ++ [Value.int .u64 b.slot, Value.int .u64 b.just]) (k := 0) (by rw [List.nil_append, ← List.append_assoc]; exact rB) rfl
            have rU : World.rangeAt w3 (w.heap.size + 1) 32 (rootC b.up) := by have := rangeAt_part (xs := rootC b.root) (ys := rootC b.up) (zs := [Value.int .u64 b.slot, Value.int .u64 b.just]) (k := 32) rB (rootC_len HBO.out.1); rwa [Nat.zero_add] at this
            have d2 := rangeAt_head rB (j := 64) (v := .int .u64 b.slot) (by unfold Block.cells; simp [rootC_len HBO.out.1, rootC_len HBO.out.2.1])
            simp only [Nat.zero_add] at d2
            rw [HBS.out] at d2
            clear hrx hokx
            go_wp2_with fail
            refine wp_region_quiet_lit (by kernel_rfl) (by kernel_rfl) ?_
            repeat (first | go_big_quiet_skip | (go_big_quiet_want; first | ((fail); (try simp only [Act.put, List.setIfInBounds_toArray, List.set_cons_zero, List.set_cons_succ]); go_big_quiet_on) | (go_big_quiet_op; first | go_big_quiet_on | go_big_quiet_call (fail))))
            refine wpQuiet_nil ?_
            intro _ hw'
            obtain ⟨nq', hw''⟩ := hw'
            subst hw''
            have kd : Ext w3 (w3.drewN nq') := (Ext.refl _).drewN _
            replace tf := (kd.out.frozen (p := ⟨w.heap.size, 0, none⟩) (lt_of_cell t0)).trans tf
            replace f4 := (kd.out.frozen (p := ⟨w.heap.size + 1 + 1, 0, none⟩) (lt_of_cell c4)).trans f4
            replace t0 := kd.cell t0
            replace c4 := kd.cell c4
            replace rB := rangeAt_ext rB kd
            replace kk := kk.trans kd
            replace tl := lt_of_cell t0
            replace cl := lt_of_cell c4
            clear kd
            clear rR rU d2 dp
            generalize w3.drewN nq' = w3 at *
            go_wp2
            refine bodyPost_ret (v := .tuple #[.agg #[.slice (some ⟨bb, off, none⟩) n c], .int .i64 6]) (by simp (maxDischargeDepth := 7) [results, Try.results20, go_sem, c4, f4]) rfl ⟨⟨_, _, _, by rw [HE.out], ?_⟩, ?_⟩
            · rw [HVV.out]; exact HV.out _ (kk.setCell (p := ⟨w.heap.size + 1 + 1, 0, none⟩) (by show w.heap.size ≤ w.heap.size + 1 + 1; omega) _)
            · exact kk.setCell (p := ⟨w.heap.size + 1 + 1, 0, none⟩) (by show w.heap.size ≤ w.heap.size + 1 + 1; omega) _
          · have gm : ¬ (1099511627776 : Int) < bs := by omega
            by_cases h3 : n = 12
            · have HE : Hid (Tree.putE NS b = 3) := by show _ = _; rw [HEQ.out, if_neg (by omega), if_pos h3]
              have HVV : Hid (Tree.putV NS b = NS) := by show _ = _; unfold Tree.putV; rw [HE.out, if_neg (by decide)]
              have HG : Hid (((n : Int) == 12) = true) := by show _ = _; rw [h3]; rfl
              clear h1 h2 h3
              go_enter Try.func20, Try.ntmps20
              go_wp2_with fail
              refine (HM.out true hm _ ((by repeat (first | assumption | exact Ext.refl _ | refine Ext.alloc ?_ _ | refine Ext.drew ?_ | refine Ext.drewN ?_ _ | refine Ext.setCell ?_ (by first | (simp; done) | omega | (simp; omega)) _ | refine Ext.trans (by assumption) ?_)))).mono ?_
              rintro e w1 ⟨rfl, hx1⟩
              have kk : Ext w w1 := Ext.trans ((by repeat (first | assumption | exact Ext.refl _ | refine Ext.alloc ?_ _ | refine Ext.drew ?_ | refine Ext.drewN ?_ _ | refine Ext.setCell ?_ (by first | (simp; done) | omega | (simp; omega)) _ | refine Ext.trans (by assumption) ?_))) hx1
              have t0 : w1.cell? ⟨w.heap.size, 0, none⟩ = some (.slice A n c) := hx1.cell (by simp (maxDischargeDepth := 7) [go_sem])
              have tf : w1.frozen? ⟨w.heap.size, 0, none⟩ = false := (hx1.out.frozen (p := ⟨w.heap.size, 0, none⟩) (by simp; omega)).trans (by simp (maxDischargeDepth := 7) [go_sem])
              have rB : w1.rangeAt (w.heap.size + 1) 0 b.cells := rangeAt_ext (rangeAt_ext (range_at (w := w.alloc (.cells #[.slice A n c] 24)) (B := w.heap.size + 1) b.cells 44 (by simp)) ((Ext.refl _).alloc (.cells #[.slice none 0 0] 24))) hx1
              have c4 : w1.cell? ⟨w.heap.size + 1 + 1, 0, none⟩ = some (.slice none 0 0) := hx1.cell (by simp (maxDischargeDepth := 7) [go_sem])
              have f4 : w1.frozen? ⟨w.heap.size + 1 + 1, 0, none⟩ = false := (hx1.out.frozen (p := ⟨w.heap.size + 1 + 1, 0, none⟩) (by simp)).trans (by simp (maxDischargeDepth := 7) [go_sem])
              have tl := lt_of_cell t0
              have cl := lt_of_cell c4
              clear hx1
              have rR : World.rangeAt w1 (w.heap.size + 1) 0 (rootC b.root) := rangeAt_part (xs := []) (ys := rootC b.root) (zs := rootC b.up ++ [Value.int .u64 b.slot, Value.int .u64 b.just]) (k := 0) (by rw [List.nil_append, ← List.append_assoc]; exact rB) rfl
              have rU : World.rangeAt w1 (w.heap.size + 1) 32 (rootC b.up) := by have := rangeAt_part (xs := rootC b.root) (ys := rootC b.up) (zs := [Value.int .u64 b.slot, Value.int .u64 b.just]) (k := 32) rB (rootC_len HBO.out.1); rwa [Nat.zero_add] at this
              have d2 := rangeAt_head rB (j := 64) (v := .int .u64 b.slot) (by unfold Block.cells; simp [rootC_len HBO.out.1, rootC_len HBO.out.2.1])
              simp only [Nat.zero_add] at d2
              go_wp2_with (refine wpList_load_mid rfl 32 _ rfl _ _ rfl (rootC b.root) _ rR Try.underlying32 rfl hi32 ?_)
              refine (HF1.out _ kk).mono ?_
              rintro e w2 ⟨rfl, hx2⟩
              replace tf := (hx2.out.frozen (p := ⟨w.heap.size, 0, none⟩) (lt_of_cell t0)).trans tf
              replace f4 := (hx2.out.frozen (p := ⟨w.heap.size + 1 + 1, 0, none⟩) (lt_of_cell c4)).trans f4
              replace t0 := hx2.cell t0
              replace c4 := hx2.cell c4
              replace rB := rangeAt_ext rB hx2
              replace kk := kk.trans hx2
              replace tl := lt_of_cell t0
              replace cl := lt_of_cell c4
              clear hx2
              clear rR rU d2
              have rR : World.rangeAt w2 (w.heap.size + 1) 0 (rootC b.root) := rangeAt_part (xs := []) (ys := rootC b.root) (zs := rootC b.up ++ [Value.int .u64 b.slot, Value.int .u64 b.just]) (k := 0) (by rw [List.nil_append, ← List.append_assoc]; exact rB) rfl
              have rU : World.rangeAt w2 (w.heap.size + 1) 32 (rootC b.up) := by have := rangeAt_part (xs := rootC b.root) (ys := rootC b.up) (zs := [Value.int .u64 b.slot, Value.int .u64 b.just]) (k := 32) rB (rootC_len HBO.out.1); rwa [Nat.zero_add] at this
              have d2 := rangeAt_head rB (j := 64) (v := .int .u64 b.slot) (by unfold Block.cells; simp [rootC_len HBO.out.1, rootC_len HBO.out.2.1])
              simp only [Nat.zero_add] at d2
              go_wp2_with (refine wpList_load_mid rfl 32 _ rfl _ _ rfl (rootC b.up) _ rU Try.underlying32 rfl hj32 ?_)
              refine (HF2.out _ kk).mono ?_
              rintro e w3 ⟨rfl, hx3⟩
              replace tf := (hx3.out.frozen (p := ⟨w.heap.size, 0, none⟩) (lt_of_cell t0)).trans tf
              replace f4 := (hx3.out.frozen (p := ⟨w.heap.size + 1 + 1, 0, none⟩) (lt_of_cell c4)).trans f4
              replace t0 := hx3.cell t0
              replace c4 := hx3.cell c4
              replace rB := rangeAt_ext rB hx3
              replace kk := kk.trans hx3
              replace tl := lt_of_cell t0
              replace cl := lt_of_cell c4
              clear hx3
              clear rR rU d2
              obtain ⟨bb, off, rfl, hrx, hokx⟩ := (HV.out _ kk).at' hpl
              have dp := rangeAt_head hrx (Node.at33 hokx)
              change World.cell? _ _ = some (.int .u64 (Tree.nd NS p).slot) at dp
              rw [HSP.out] at dp
              have rR : World.rangeAt w3 (w.heap.size + 1) 0 (rootC b.root) := rangeAt_part (xs := []) (ys := rootC b.root) (zs := rootC b.up ++ [Value.int .u64 b.slot, Value.int .u64 b.just]) (k := 0) (by rw [List.nil_append, ← List.append_assoc]; exact rB) rfl
              have rU : World.rangeAt w3 (w.heap.size + 1) 32 (rootC b.up) := by have := rangeAt_part (xs := rootC b.root) (ys := rootC b.up) (zs := [Value.int .u64 b.slot, Value.int .u64 b.just]) (k := 32) rB (rootC_len HBO.out.1); rwa [Nat.zero_add] at this
              have d2 := rangeAt_head rB (j := 64) (v := .int .u64 b.slot) (by unfold Block.cells; simp [rootC_len HBO.out.1, rootC_len HBO.out.2.1])
              simp only [Nat.zero_add] at d2
              rw [HBS.out] at d2
              clear hrx hokx
              go_wp2_with fail
              refine wp_region_quiet_lit (by kernel_rfl) (by kernel_rfl) ?_
              repeat (first | go_big_quiet_skip | (go_big_quiet_want; first | ((fail); (try simp only [Act.put, List.setIfInBounds_toArray, List.set_cons_zero, List.set_cons_succ]); go_big_quiet_on) | (go_big_quiet_op; first | go_big_quiet_on | go_big_quiet_call (fail))))
              refine wpQuiet_nil ?_
              intro _ hw'
              obtain ⟨nq', hw''⟩ := hw'
              subst hw''
              have kd : Ext w3 (w3.drewN nq') := (Ext.refl _).drewN _
              replace tf := (kd.out.frozen (p := ⟨w.heap.size, 0, none⟩) (lt_of_cell t0)).trans tf
              replace f4 := (kd.out.frozen (p := ⟨w.heap.size + 1 + 1, 0, none⟩) (lt_of_cell c4)).trans f4
              replace t0 := kd.cell t0
              replace c4 := kd.cell c4
              replace rB := rangeAt_ext rB kd
              replace kk := kk.trans kd
              replace tl := lt_of_cell t0
              replace cl := lt_of_cell c4
              clear kd
              clear rR rU d2 dp
              generalize w3.drewN nq' = w3 at *
              have gn := HG.out
              go_wp2
              refine bodyPost_ret (v := .tuple #[.agg #[.slice (some ⟨bb, off, none⟩) n c], .int .i64 3]) (by simp (maxDischargeDepth := 7) [results, Try.results20, go_sem, c4, f4]) rfl ⟨⟨_, _, _, by rw [HE.out], ?_⟩, ?_⟩
              · rw [HVV.out]; exact HV.out _ (kk.setCell (p := ⟨w.heap.size + 1 + 1, 0, none⟩) (by show w.heap.size ≤ w.heap.size + 1 + 1; omega) _)
              · exact kk.setCell (p := ⟨w.heap.size + 1 + 1, 0, none⟩) (by show w.heap.size ≤ w.heap.size + 1 + 1; omega) _
            · have HE : Hid (Tree.putE NS b = 0) := by show _ = _; rw [HEQ.out, if_neg (by omega), if_neg h3]
              have HVV : Hid (Tree.putV NS b = NS ++ [Tree.putN NS b]) := by show _ = _; unfold Tree.putV; rw [HE.out, if_pos rfl]
              have gn : ((n : Int) == 12) = false := by first | (simp; done) | (simp; omega)
              obtain ⟨bj, hbj⟩ : ∃ bj, b.just = bj := ⟨_, rfl⟩
              have hxn : Tree.putN NS b = ⟨b.root, (p : Int), bs, bj⟩ := by unfold Tree.putN; rw [HP.out, HBS.out, hbj]
              rw [hxn] at HVV
              have hokj := HBO.out.2.2.2
              rw [hbj] at hokj
              have hbuilt := build_node HBO.out.1 (p : Int) bs bj
              have hxok : Node.Ok ⟨b.root, (p : Int), bs, bj⟩ := ⟨HBO.out.1, wf_i64 (x := (p : Int)) (by omega) (by omega), hoku, hokj⟩
              obtain ⟨x, hx⟩ : ∃ x : Node, (⟨b.root, (p : Int), bs, bj⟩ : Node) = x := ⟨_, rfl⟩
              rw [hx] at hbuilt hxok HVV
              have hl35 := Node.len hxok
              have hs35 : (List.foldl (fun (c : Array Value) (x : Value × Nat) => c.setIfInBounds x.snd x.fst) (#[Value.int .u8 0, Value.int .u8 0, Value.int .u8 0, Value.int .u8 0, Value.int .u8 0, Value.int .u8 0, Value.int .u8 0, Value.int .u8 0, Value.int .u8 0, Value.int .u8 0, Value.int .u8 0, Value.int .u8 0, Value.int .u8 0, Value.int .u8 0, Value.int .u8 0, Value.int .u8 0, Value.int .u8 0, Value.int .u8 0, Value.int .u8 0, Value.int .u8 0, Value.int .u8 0, Value.int .u8 0, Value.int .u8 0, Value.int .u8 0, Value.int .u8 0, Value.int .u8 0, Value.int .u8 0, Value.int .u8 0, Value.int .u8 0, Value.int .u8 0, Value.int .u8 0, Value.int .u8 0, Value.int .i64 0, Value.int .u64 0, Value.int .u64 0]) (rootC b.root).zipIdx).size = 35 := size_put0 _ _
              have HXOK := Lib.hid hxok
              have HD2 : Hid (b.cells[64]? = some (.int .u64 bs)) := by show _ = _; rw [← HBS.out]; unfold Block.cells; simp [rootC_len HBO.out.1, rootC_len HBO.out.2.1]
              have HD3 : Hid (b.cells[65]? = some (.int .u64 bj)) := by show _ = _; rw [← hbj]; unfold Block.cells; simp [rootC_len HBO.out.1, rootC_len HBO.out.2.1]
              have HRT : Hid (∀ W : World, W.rangeAt (w.heap.size + 1) 0 b.cells → W.rangeAt (w.heap.size + 1) 0 (rootC b.root)) := fun W hW => rangeAt_part (xs := []) (ys := rootC b.root) (zs := rootC b.up ++ [Value.int .u64 b.slot, Value.int .u64 b.just]) (k := 0) (by rw [List.nil_append, ← List.append_assoc]; exact hW) rfl
              have hr32 := rootC_len HBO.out.1
              clear h1 h2 hxn hbj hx hxok
              go_enter Try.func20, Try.ntmps20
              go_wp2_with fail
              refine (HM.out true hm _ ((by repeat (first | assumption | exact Ext.refl _ | refine Ext.alloc ?_ _ | refine Ext.drew ?_ | refine Ext.drewN ?_ _ | refine Ext.setCell ?_ (by first | (simp; done) | omega | (simp; omega)) _ | refine Ext.trans (by assumption) ?_)))).mono ?_
              rintro e w1 ⟨rfl, hx1⟩
              have kk : Ext w w1 := Ext.trans ((by repeat (first | assumption | exact Ext.refl _ | refine Ext.alloc ?_ _ | refine Ext.drew ?_ | refine Ext.drewN ?_ _ | refine Ext.setCell ?_ (by first | (simp; done) | omega | (simp; omega)) _ | refine Ext.trans (by assumption) ?_))) hx1
              have t0 : w1.cell? ⟨w.heap.size, 0, none⟩ = some (.slice A n c) := hx1.cell (by simp (maxDischargeDepth := 7) [go_sem])
              have tf : w1.frozen? ⟨w.heap.size, 0, none⟩ = false := (hx1.out.frozen (p := ⟨w.heap.size, 0, none⟩) (by simp; omega)).trans (by simp (maxDischargeDepth := 7) [go_sem])
              have rB : w1.rangeAt (w.heap.size + 1) 0 b.cells := rangeAt_ext (rangeAt_ext (range_at (w := w.alloc (.cells #[.slice A n c] 24)) (B := w.heap.size + 1) b.cells 44 (by simp)) ((Ext.refl _).alloc (.cells #[.slice none 0 0] 24))) hx1
              have c4 : w1.cell? ⟨w.heap.size + 1 + 1, 0, none⟩ = some (.slice none 0 0) := hx1.cell (by simp (maxDischargeDepth := 7) [go_sem])
              have f4 : w1.frozen? ⟨w.heap.size + 1 + 1, 0, none⟩ = false := (hx1.out.frozen (p := ⟨w.heap.size + 1 + 1, 0, none⟩) (by simp)).trans (by simp (maxDischargeDepth := 7) [go_sem])
              have tl := lt_of_cell t0
              have cl := lt_of_cell c4
              clear hx1
              have rR : World.rangeAt w1 (w.heap.size + 1) 0 (rootC b.root) := rangeAt_part (xs := []) (ys := rootC b.root) (zs := rootC b.up ++ [Value.int .u64 b.slot, Value.int .u64 b.just]) (k := 0) (by rw [List.nil_append, ← List.append_assoc]; exact rB) rfl
              have rU : World.rangeAt w1 (w.heap.size + 1) 32 (rootC b.up) := by have := rangeAt_part (xs := rootC b.root) (ys := rootC b.up) (zs := [Value.int .u64 b.slot, Value.int .u64 b.just]) (k := 32) rB (rootC_len HBO.out.1); rwa [Nat.zero_add] at this
              have d2 := rangeAt_head rB (j := 64) (v := .int .u64 b.slot) (by unfold Block.cells; simp [rootC_len HBO.out.1, rootC_len HBO.out.2.1])
              simp only [Nat.zero_add] at d2
              go_wp2_with (refine wpList_load_mid rfl 32 _ rfl _ _ rfl (rootC b.root) _ rR Try.underlying32 rfl hi32 ?_)
              refine (HF1.out _ kk).mono ?_
              rintro e w2 ⟨rfl, hx2⟩
              replace tf := (hx2.out.frozen (p := ⟨w.heap.size, 0, none⟩) (lt_of_cell t0)).trans tf
              replace f4 := (hx2.out.frozen (p := ⟨w.heap.size + 1 + 1, 0, none⟩) (lt_of_cell c4)).trans f4
              replace t0 := hx2.cell t0
              replace c4 := hx2.cell c4
              replace rB := rangeAt_ext rB hx2
              replace kk := kk.trans hx2
              replace tl := lt_of_cell t0
              replace cl := lt_of_cell c4
              clear hx2
              clear rR rU d2
              have rR : World.rangeAt w2 (w.heap.size + 1) 0 (rootC b.root) := rangeAt_part (xs := []) (ys := rootC b.root) (zs := rootC b.up ++ [Value.int .u64 b.slot, Value.int .u64 b.just]) (k := 0) (by rw [List.nil_append, ← List.append_assoc]; exact rB) rfl
              have rU : World.rangeAt w2 (w.heap.size + 1) 32 (rootC b.up) := by have := rangeAt_part (xs := rootC b.root) (ys := rootC b.up) (zs := [Value.int .u64 b.slot, Value.int .u64 b.just]) (k := 32) rB (rootC_len HBO.out.1); rwa [Nat.zero_add] at this
              have d2 := rangeAt_head rB (j := 64) (v := .int .u64 b.slot) (by unfold Block.cells; simp [rootC_len HBO.out.1, rootC_len HBO.out.2.1])
              simp only [Nat.zero_add] at d2
              go_wp2_with (refine wpList_load_mid rfl 32 _ rfl _ _ rfl (rootC b.up) _ rU Try.underlying32 rfl hj32 ?_)
              refine (HF2.out _ kk).mono ?_
              rintro e w3 ⟨rfl, hx3⟩
              replace tf := (hx3.out.frozen (p := ⟨w.heap.size, 0, none⟩) (lt_of_cell t0)).trans tf
              replace f4 := (hx3.out.frozen (p := ⟨w.heap.size + 1 + 1, 0, none⟩) (lt_of_cell c4)).trans f4
              replace t0 := hx3.cell t0
              replace c4 := hx3.cell c4
              replace rB := rangeAt_ext rB hx3
              replace kk := kk.trans hx3
              replace tl := lt_of_cell t0
              replace cl := lt_of_cell c4
              clear hx3
              clear rR rU d2
              obtain ⟨bb, off, rfl, hrx, hokx⟩ := (HV.out _ kk).at' hpl
              have dp := rangeAt_head hrx (Node.at33 hokx)
              change World.cell? _ _ = some (.int .u64 (Tree.nd NS p).slot) at dp
              rw [HSP.out] at dp
              have rR : World.rangeAt w3 (w.heap.size + 1) 0 (rootC b.root) := rangeAt_part (xs := []) (ys := rootC b.root) (zs := rootC b.up ++ [Value.int .u64 b.slot, Value.int .u64 b.just]) (k := 0) (by rw [List.nil_append, ← List.append_assoc]; exact rB) rfl
              have rU : World.rangeAt w3 (w.heap.size + 1) 32 (rootC b.up) := by have := rangeAt_part (xs := rootC b.root) (ys := rootC b.up) (zs := [Value.int .u64 b.slot, Value.int .u64 b.just]) (k := 32) rB (rootC_len HBO.out.1); rwa [Nat.zero_add] at this
              have d2 := rangeAt_head rB (j := 64) (v := .int .u64 b.slot) (by unfold Block.cells; simp [rootC_len HBO.out.1, rootC_len HBO.out.2.1])
              simp only [Nat.zero_add] at d2
              rw [HBS.out] at d2
              clear hrx hokx
              go_wp2_with fail
              refine wp_region_quiet_lit (by kernel_rfl) (by kernel_rfl) ?_
              repeat (first | go_big_quiet_skip | (go_big_quiet_want; first | ((fail); (try simp only [Act.put, List.setIfInBounds_toArray, List.set_cons_zero, List.set_cons_succ]); go_big_quiet_on) | (go_big_quiet_op; first | go_big_quiet_on | go_big_quiet_call (fail))))
              refine wpQuiet_nil ?_
              intro _ hw'
              obtain ⟨nq', hw''⟩ := hw'
              subst hw''
              have kd : Ext w3 (w3.drewN nq') := (Ext.refl _).drewN _
              replace tf := (kd.out.frozen (p := ⟨w.heap.size, 0, none⟩) (lt_of_cell t0)).trans tf
              replace f4 := (kd.out.frozen (p := ⟨w.heap.size + 1 + 1, 0, none⟩) (lt_of_cell c4)).trans f4
              replace t0 := kd.cell t0
              replace c4 := kd.cell c4
              replace rB := rangeAt_ext rB kd
              replace kk := kk.trans kd
              replace tl := lt_of_cell t0
              replace cl := lt_of_cell c4
              clear kd
              clear rR rU d2 dp
              generalize w3.drewN nq' = w3 at *
              go_upto_region 13 with fail
              have RB := Lib.hid rB
              have nl : w.heap.size + 1 < w3.heap.size := by omega
              refine wp_region_noPanic ?_
              refine wp_region_held_drew (S := fun w' => w'.rangeAt (w.heap.size + 1) 0 b.cells) (by kernel_rfl) (rangeAt_ext rB ((by repeat (first | assumption | exact Ext.refl _ | refine Ext.alloc ?_ _ | refine Ext.drew ?_ | refine Ext.drewN ?_ _ | refine Ext.setCell ?_ (by first | (simp; done) | omega | (simp; omega)) _ | refine Ext.trans (by assumption) ?_)))) (fun hHeld => ?_)
              change wpAnyH _ _ _ _ _ 15 (Array.replicate 15 false) _ _
              clear rB
              refine wpAnyH_take (i := 0) (v := Value.pointer (some ⟨w.heap.size, 0, none⟩)) rfl (by kernel_rfl) (by kernel_rfl) (by kernel_rfl) (fun _ _ _ h => h) (Or.inl ⟨by rfl, fun _ hSw => by first | (go_simp; done) | (go_simp; with_reducible rfl)⟩) hHeld ?_
              (try simp only [List.getElem_toArray, List.getElem_cons_zero, List.getElem_cons_succ, Act.put, List.setIfInBounds_toArray, List.set_cons_zero, List.set_cons_succ])
              refine wpAnyH_take (i := 3) (v := Value.pointer (some ⟨w.heap.size + 1, 0, none⟩)) rfl (by kernel_rfl) (by kernel_rfl) (by kernel_rfl) (fun _ _ _ h => h) (Or.inl ⟨by rfl, fun _ hSw => by first | (go_simp; done) | (go_simp; with_reducible rfl)⟩) hHeld ?_
              (try simp only [List.getElem_toArray, List.getElem_cons_zero, List.getElem_cons_succ, Act.put, List.setIfInBounds_toArray, List.set_cons_zero, List.set_cons_succ])
              refine wpAnyH_take (i := 4) (v := .agg (rootC b.root).toArray) rfl (by kernel_rfl) (by kernel_rfl) (by kernel_rfl) (fun _ _ _ h => h) (yieldsIf_load_mid (by rfl) 32 (.tmp 49) (by rfl) (w.heap.size + 1) 0 (by go_simp) (rootC b.root) _ (fun w hw => HRT.out _ hw) Try.underlying32 (by rfl) hi32) hHeld ?_
              (try simp only [List.getElem_toArray, List.getElem_cons_zero, List.getElem_cons_succ, Act.put, List.setIfInBounds_toArray, List.set_cons_zero, List.set_cons_succ])
              refine wpAnyH_take (i := 5) (v := Value.int .i64 (p : Nat)) rfl (by kernel_rfl) (by kernel_rfl) (by kernel_rfl) (fun _ _ _ h => h) (Or.inl ⟨by rfl, fun _ hSw => by first | (go_simp; done) | (go_simp; with_reducible rfl)⟩) hHeld ?_
              (try simp only [List.getElem_toArray, List.getElem_cons_zero, List.getElem_cons_succ, Act.put, List.setIfInBounds_toArray, List.set_cons_zero, List.set_cons_succ])
              refine wpAnyH_take (i := 6) (v := Value.pointer (some ⟨w.heap.size + 1, 64, none⟩)) rfl (by kernel_rfl) (by kernel_rfl) (by kernel_rfl) (fun _ _ _ h => h) (Or.inl ⟨by rfl, fun _ hSw => by first | (go_simp; done) | (go_simp; with_reducible rfl)⟩) hHeld ?_
              (try simp only [List.getElem_toArray, List.getElem_cons_zero, List.getElem_cons_succ, Act.put, List.setIfInBounds_toArray, List.set_cons_zero, List.set_cons_succ])
              refine wpAnyH_take (i := 7) (v := Value.int .u64 (bs : Nat)) rfl (by kernel_rfl) (by kernel_rfl) (by kernel_rfl) (fun _ _ _ h => h) (Or.inl ⟨by rfl, fun _ hSw => by have hcc := rangeAt_head hSw (j := 64) HD2.out; simp only [Nat.zero_add] at hcc; first | (go_simp; done) | (go_simp; with_reducible rfl)⟩) hHeld ?_
              (try simp only [List.getElem_toArray, List.getElem_cons_zero, List.getElem_cons_succ, Act.put, List.setIfInBounds_toArray, List.set_cons_zero, List.set_cons_succ])
              refine wpAnyH_take (i := 8) (v := Value.pointer (some ⟨w.heap.size + 1, 65, none⟩)) rfl (by kernel_rfl) (by kernel_rfl) (by kernel_rfl) (fun _ _ _ h => h) (Or.inl ⟨by rfl, fun _ hSw => by first | (go_simp; done) | (go_simp; with_reducible rfl)⟩) hHeld ?_
              (try simp only [List.getElem_toArray, List.getElem_cons_zero, List.getElem_cons_succ, Act.put, List.setIfInBounds_toArray, List.set_cons_zero, List.set_cons_succ])
              refine wpAnyH_take (i := 9) (v := Value.int .u64 (bj : Nat)) rfl (by kernel_rfl) (by kernel_rfl) (by kernel_rfl) (fun _ _ _ h => h) (Or.inl ⟨by rfl, fun _ hSw => by have hcc := rangeAt_head hSw (j := 65) HD3.out; simp only [Nat.zero_add] at hcc; first | (go_simp; done) | (go_simp; with_reducible rfl)⟩) hHeld ?_
              (try simp only [List.getElem_toArray, List.getElem_cons_zero, List.getElem_cons_succ, Act.put, List.setIfInBounds_toArray, List.set_cons_zero, List.set_cons_succ])
              refine wpAnyH_take (i := 10) (v := Value.agg x.cells.toArray) rfl (by kernel_rfl) (by kernel_rfl) (by kernel_rfl) (fun _ _ _ h => h) (Or.inl ⟨by rfl, fun _ hSw => by first | (go_simp; done) | (go_simp; with_reducible rfl) | (go_simp; rw [hbuilt])⟩) hHeld ?_
              (try simp only [List.getElem_toArray, List.getElem_cons_zero, List.getElem_cons_succ, Act.put, List.setIfInBounds_toArray, List.set_cons_zero, List.set_cons_succ])
              refine wpAnyH_ready (rs := [1, 11]) (by kernel_rfl) (by simp) ?_
              refine AllReadyH.cons rfl (fun K hK => ?_) ?_
              · go_simp
                refine hK.out _ _ hHeld (fun hHeld => ?_)
                clear hK K
                (try simp only [List.getElem_toArray, List.getElem_cons_zero, List.getElem_cons_succ, Act.put, List.setIfInBounds_toArray, List.set_cons_zero, List.set_cons_succ])
                refine wpAnyH_ready (rs := [2, 11]) (by kernel_rfl) (by simp) ?_
                refine AllReadyH.cons rfl (fun K hK => ?_) ?_
                · refine step_app rowNodes (by rfl) (.const (Value.slice none 0 0)) (.tmp 47) (by rfl) w3.heap.size (.slice none 0 0) 0 [] (by go_simp) (World.ownsRow_nil _ _ _ _) (some ⟨bb, off, none⟩) n c (flatN NS) (by go_simp) ((HV.out _ (kk.trans ((Ext.refl w3).drew))).src) (by omega) (((Ext.refl w3).drew)).size ?_
                  intro q4 w4 hown4 hgrow4 hat4
                  have k4 : Ext w3 w4 := (((Ext.refl w3).drew)).grown hgrow4 (fun j e => by cases e)
                  rw [Nat.zero_add, List.nil_append] at hown4
                  refine hK.out _ _ (rangeAt_ext RB.out k4) (fun hHeld => ?_)
                  clear hK K
                  (try simp only [List.getElem_toArray, List.getElem_cons_zero, List.getElem_cons_succ, Act.put, List.setIfInBounds_toArray, List.set_cons_zero, List.set_cons_succ])
                  refine wpAnyH_ready (rs := [11]) (by kernel_rfl) (by simp) ?_
                  refine AllReadyH.cons rfl (fun K hK => ?_) ?_
                  · rw [if_pos (by rfl)]
                    refine wp_buildN 56 (by rfl) x.cells (by go_simp) hl35 ?_
                    have kV : Ext w3 (w4.alloc (.cells x.cells.toArray 34)) := k4.alloc _
                    have hownV := own_ext hown4 ((Ext.refl w4).alloc (.cells x.cells.toArray 34))
                    have hsrcV : Src (w4.alloc (.cells x.cells.toArray 34)) 35 (some ⟨w4.heap.size, 0, none⟩) 1 1 x.cells := src_atN (by rw [hl35]) (Node.one x) rfl
                    refine hK.out _ _ (rangeAt_ext RB.out kV) (fun hHeld => ?_)
                    clear hK K
                    (try simp only [List.getElem_toArray, List.getElem_cons_zero, List.getElem_cons_succ, Act.put, List.setIfInBounds_toArray, List.set_cons_zero, List.set_cons_succ])
                    refine wpAnyH_ready (rs := [12]) (by kernel_rfl) (by simp) ?_
                    refine AllReadyH.cons rfl (fun K hK => ?_) ?_
                    · refine step_app rowNodes (by rfl) (.tmp 48) (.tmp 57) (by rfl) w3.heap.size q4 n (flatN NS) (by go_simp) hownV (some ⟨w4.heap.size, 0, none⟩) 1 1 x.cells (by go_simp) hsrcV (by omega) kV.size ?_
                      intro q5 w5 hown5 hgrow5 hat5
                      rw [← flatN_snoc] at hown5
                      have hq0 : q4.ownBlock ≠ some w.heap.size := own_off hownV (.inl tl)
                      have hq1 : q4.ownBlock ≠ some (w.heap.size + 1) := own_off hownV (.inl nl)
                      have hq2 : q4.ownBlock ≠ some (w.heap.size + 1 + 1) := own_off hownV (.inl cl)
                      have c5 := grownC hgrow5 (kV.cell c4) hq2
                      have f5 := grownF hgrow5 (kV.cell c4) hq2 ((kV.out.frozen (p := ⟨w.heap.size + 1 + 1, 0, none⟩) cl).trans f4)
                      have t5 := grownC hgrow5 (kV.cell t0) hq0
                      have tf5 := grownF hgrow5 (kV.cell t0) hq0 ((kV.out.frozen (p := ⟨w.heap.size, 0, none⟩) tl).trans tf)
                      have k5 : Ext w w5 := (kk.trans kV).grown hgrow5 (fun j e => Nat.le_trans kk.size (own_from hownV j e))
                      refine hK.out _ _ (grown_range hgrow5 (rangeAt_ext RB.out kV) hq1) (fun hHeld => ?_)
                      clear hK K
                      (try simp only [List.getElem_toArray, List.getElem_cons_zero, List.getElem_cons_succ, Act.put, List.setIfInBounds_toArray, List.set_cons_zero, List.set_cons_succ])
                      have hn5 : q5.ownBlock ≠ some w.heap.size := by
                        rcases hat5 with h | h
                        · rw [h]; exact hq0
                        · rw [h]; intro e5; have e6 := Option.some.inj e5; have := kV.size; omega
                      obtain ⟨A5, c5', rfl⟩ := own_form' hown5
                      have hx6 : Ext w (w5.setCell ⟨w.heap.size, 0, none⟩ (.slice A5 (n + 1) c5')) := k5.setCell (p := ⟨w.heap.size, 0, none⟩) (Nat.le_refl _) _
                      have o6 := own_setCell' (a := ⟨w.heap.size, 0, none⟩) hown5 hn5 (.slice A5 (n + 1) c5')
                      have t6 : (w5.setCell ⟨w.heap.size, 0, none⟩ (.slice A5 (n + 1) c5')).cell? ⟨w.heap.size, 0, none⟩ = some (.slice A5 (n + 1) c5') := World.cell?_setCell_same' _ _ _ (by rw [t5]; rfl)
                      have c6 : (w5.setCell ⟨w.heap.size, 0, none⟩ (.slice A5 (n + 1) c5')).cell? ⟨w.heap.size + 1 + 1, 0, none⟩ = some (.slice none 0 0) := (World.cell?_setCell_other _ _ _ _ (by simp)).trans c5
                      have f6 : (w5.setCell ⟨w.heap.size, 0, none⟩ (.slice A5 (n + 1) c5')).frozen? ⟨w.heap.size + 1 + 1, 0, none⟩ = false := by rw [World.frozen?_setCell]; exact f5
                      have HFIN := Lib.hid (And.intro hx6 (And.intro o6 (And.intro t6 (And.intro c6 f6))))
                      clear hx6 o6 t6 c6 f6 hown5 hgrow5 hat5
                      refine wpAnyH_take (i := 13) (v := Value.pointer (some ⟨w.heap.size, 0, none⟩)) rfl (by kernel_rfl) (by kernel_rfl) (by kernel_rfl) (fun _ _ _ h => h) (Or.inl ⟨by rfl, fun _ hSw => by first | (go_simp; done) | (go_simp; with_reducible rfl)⟩) hHeld ?_
                      (try simp only [List.getElem_toArray, List.getElem_cons_zero, List.getElem_cons_succ, Act.put, List.setIfInBounds_toArray, List.set_cons_zero, List.set_cons_succ])
                      refine wpAnyH_ready (rs := [14]) (by kernel_rfl) (by simp) ?_
                      refine AllReadyH.cons rfl (fun K hK => ?_) ?_
                      · go_simp
                        refine hK.out _ _ (range_setB hHeld (p := ⟨w.heap.size, 0, none⟩) (by show w.heap.size + 1 ≠ w.heap.size; omega) _) (fun hHeld => ?_)
                        clear hK K
                        (try simp only [List.getElem_toArray, List.getElem_cons_zero, List.getElem_cons_succ, Act.put, List.setIfInBounds_toArray, List.set_cons_zero, List.set_cons_succ])
                        refine wpAnyH_done (by kernel_rfl) ?_ _
                        refine NoPanic.normal ?_
                        obtain ⟨hx6, o6, t6, c6, f6⟩ := HFIN.out
                        have HO6 := Lib.hid o6
                        have HX6 := Lib.hid hx6
                        clear HFIN o6 hx6 t0 tf c4 f4 t5 tf5 c5 f5 hHeld kV hownV hsrcV hq0 hq1 hq2 k5 hn5 kk
                        generalize w5.setCell ⟨w.heap.size, 0, none⟩ (.slice A5 (n + 1) c5') = w6 at *
                        have t6l := lt_of_cell t6
                        have c6l := lt_of_cell c6
                        go_wp2
                        refine bodyPost_ret (v := .tuple #[.agg #[.slice A5 (n + 1) c5'], .int .i64 0]) (by simp (maxDischargeDepth := 7) [results, Try.results20, go_sem, c6, f6]) rfl ⟨⟨_, _, _, by rw [HE.out], ?_⟩, ?_⟩
                        · rw [HVV.out]
                          refine nl_of_own (base := w3.heap.size) (own_setCell (a := ⟨w.heap.size + 1 + 1, 0, none⟩) HO6.out cl _) (by omega) (by rw [List.length_append, HLE.out]; rfl) (fun y hy => ?_)
                          rcases List.mem_append.1 hy with hy | hy
                          · exact HOK.out y hy
                          · rw [List.mem_singleton.1 hy]; exact HXOK.out
                        · exact HX6.out.setCell (p := ⟨w.heap.size + 1 + 1, 0, none⟩) (by show w.heap.size ≤ w.heap.size + 1 + 1; omega) _
                      · exact AllReadyH.nil
                    · exact AllReadyH.nil
                  · exact AllReadyH.nil
                refine AllReadyH.cons rfl (fun K hK => ?_) ?_
                · rw [if_pos (by rfl)]
                  refine wp_buildN 56 (by rfl) x.cells (by go_simp) hl35 ?_
                  have kW : Ext w3 (w3.drew.alloc (.cells x.cells.toArray 34)) := ((Ext.refl w3).drew).alloc _
                  have hsrcW : Src (w3.drew.alloc (.cells x.cells.toArray 34)) 35 (some ⟨w3.drew.heap.size, 0, none⟩) 1 1 x.cells := src_atN (by rw [hl35]) (Node.one x) rfl
                  have t0W := kW.cell t0
                  refine hK.out _ _ (rangeAt_ext RB.out kW) (fun hHeld => ?_)
                  clear hK K
                  (try simp only [List.getElem_toArray, List.getElem_cons_zero, List.getElem_cons_succ, Act.put, List.setIfInBounds_toArray, List.set_cons_zero, List.set_cons_succ])
                  refine wpAnyH_ready (rs := [2]) (by kernel_rfl) (by simp) ?_
                  refine AllReadyH.cons rfl (fun K hK => ?_) ?_
                  · refine step_app rowNodes (by rfl) (.const (Value.slice none 0 0)) (.tmp 47) (by rfl) w3.heap.size (.slice none 0 0) 0 [] (by go_simp) (World.ownsRow_nil _ _ _ _) (some ⟨bb, off, none⟩) n c (flatN NS) (by go_simp) ((HV.out _ (kk.trans kW)).src) (by omega) (kW).size ?_
                    intro q4 w4 hown4 hgrow4 hat4
                    have k4 : Ext w3 w4 := (kW).grown hgrow4 (fun j e => by cases e)
                    rw [Nat.zero_add, List.nil_append] at hown4
                    refine hK.out _ _ (rangeAt_ext RB.out k4) (fun hHeld => ?_)
                    clear hK K
                    (try simp only [List.getElem_toArray, List.getElem_cons_zero, List.getElem_cons_succ, Act.put, List.setIfInBounds_toArray, List.set_cons_zero, List.set_cons_succ])
                    have kV := k4
                    have hownV := hown4
                    have hsrcV := hsrcW.ext ((Ext.refl _).grown hgrow4 (fun j e => by cases e))
                    refine wpAnyH_ready (rs := [12]) (by kernel_rfl) (by simp) ?_
                    refine AllReadyH.cons rfl (fun K hK => ?_) ?_
                    · refine step_app rowNodes (by rfl) (.tmp 48) (.tmp 57) (by rfl) w3.heap.size q4 n (flatN NS) (by go_simp) hownV (some ⟨w3.drew.heap.size, 0, none⟩) 1 1 x.cells (by go_simp) hsrcV (by omega) kV.size ?_
                      intro q5 w5 hown5 hgrow5 hat5
                      rw [← flatN_snoc] at hown5
                      have hq0 : q4.ownBlock ≠ some w.heap.size := own_off hownV (.inl tl)
                      have hq1 : q4.ownBlock ≠ some (w.heap.size + 1) := own_off hownV (.inl nl)
                      have hq2 : q4.ownBlock ≠ some (w.heap.size + 1 + 1) := own_off hownV (.inl cl)
                      have c5 := grownC hgrow5 (kV.cell c4) hq2
                      have f5 := grownF hgrow5 (kV.cell c4) hq2 ((kV.out.frozen (p := ⟨w.heap.size + 1 + 1, 0, none⟩) cl).trans f4)
                      have t5 := grownC hgrow5 (kV.cell t0) hq0
                      have tf5 := grownF hgrow5 (kV.cell t0) hq0 ((kV.out.frozen (p := ⟨w.heap.size, 0, none⟩) tl).trans tf)
                      have k5 : Ext w w5 := (kk.trans kV).grown hgrow5 (fun j e => Nat.le_trans kk.size (own_from hownV j e))
                      refine hK.out _ _ (grown_range hgrow5 (rangeAt_ext RB.out kV) hq1) (fun hHeld => ?_)
                      clear hK K
                      (try simp only [List.getElem_toArray, List.getElem_cons_zero, List.getElem_cons_succ, Act.put, List.setIfInBounds_toArray, List.set_cons_zero, List.set_cons_succ])
                      have hn5 : q5.ownBlock ≠ some w.heap.size := by
                        rcases hat5 with h | h
                        · rw [h]; exact hq0
                        · rw [h]; intro e5; have e6 := Option.some.inj e5; have := kV.size; omega
                      obtain ⟨A5, c5', rfl⟩ := own_form' hown5
                      have hx6 : Ext w (w5.setCell ⟨w.heap.size, 0, none⟩ (.slice A5 (n + 1) c5')) := k5.setCell (p := ⟨w.heap.size, 0, none⟩) (Nat.le_refl _) _
                      have o6 := own_setCell' (a := ⟨w.heap.size, 0, none⟩) hown5 hn5 (.slice A5 (n + 1) c5')
                      have t6 : (w5.setCell ⟨w.heap.size, 0, none⟩ (.slice A5 (n + 1) c5')).cell? ⟨w.heap.size, 0, none⟩ = some (.slice A5 (n + 1) c5') := World.cell?_setCell_same' _ _ _ (by rw [t5]; rfl)
                      have c6 : (w5.setCell ⟨w.heap.size, 0, none⟩ (.slice A5 (n + 1) c5')).cell? ⟨w.heap.size + 1 + 1, 0, none⟩ = some (.slice none 0 0) := (World.cell?_setCell_other _ _ _ _ (by simp)).trans c5
                      have f6 : (w5.setCell ⟨w.heap.size, 0, none⟩ (.slice A5 (n + 1) c5')).frozen? ⟨w.heap.size + 1 + 1, 0, none⟩ = false := by rw [World.frozen?_setCell]; exact f5
                      have HFIN := Lib.hid (And.intro hx6 (And.intro o6 (And.intro t6 (And.intro c6 f6))))
                      clear hx6 o6 t6 c6 f6 hown5 hgrow5 hat5
                      refine wpAnyH_take (i := 13) (v := Value.pointer (some ⟨w.heap.size, 0, none⟩)) rfl (by kernel_rfl) (by kernel_rfl) (by kernel_rfl) (fun _ _ _ h => h) (Or.inl ⟨by rfl, fun _ hSw => by first | (go_simp; done) | (go_simp; with_reducible rfl)⟩) hHeld ?_
                      (try simp only [List.getElem_toArray, List.getElem_cons_zero, List.getElem_cons_succ, Act.put, List.setIfInBounds_toArray, List.set_cons_zero, List.set_cons_succ])
                      refine wpAnyH_ready (rs := [14]) (by kernel_rfl) (by simp) ?_
                      refine AllReadyH.cons rfl (fun K hK => ?_) ?_
                      · go_simp
                        refine hK.out _ _ (range_setB hHeld (p := ⟨w.heap.size, 0, none⟩) (by show w.heap.size + 1 ≠ w.heap.size; omega) _) (fun hHeld => ?_)
                        clear hK K
                        (try simp only [List.getElem_toArray, List.getElem_cons_zero, List.getElem_cons_succ, Act.put, List.setIfInBounds_toArray, List.set_cons_zero, List.set_cons_succ])
                        refine wpAnyH_done (by kernel_rfl) ?_ _
                        refine NoPanic.normal ?_
                        obtain ⟨hx6, o6, t6, c6, f6⟩ := HFIN.out
                        have HO6 := Lib.hid o6
                        have HX6 := Lib.hid hx6
                        clear HFIN o6 hx6 t0 tf c4 f4 t5 tf5 c5 f5 hHeld kV hownV hsrcV hq0 hq1 hq2 k5 hn5 kk
                        generalize w5.setCell ⟨w.heap.size, 0, none⟩ (.slice A5 (n + 1) c5') = w6 at *
                        have t6l := lt_of_cell t6
                        have c6l := lt_of_cell c6
                        go_wp2
                        refine bodyPost_ret (v := .tuple #[.agg #[.slice A5 (n + 1) c5'], .int .i64 0]) (by simp (maxDischargeDepth := 7) [results, Try.results20, go_sem, c6, f6]) rfl ⟨⟨_, _, _, by rw [HE.out], ?_⟩, ?_⟩
                        · rw [HVV.out]
                          refine nl_of_own (base := w3.heap.size) (own_setCell (a := ⟨w.heap.size + 1 + 1, 0, none⟩) HO6.out cl _) (by omega) (by rw [List.length_append, HLE.out]; rfl) (fun y hy => ?_)
                          rcases List.mem_append.1 hy with hy | hy
                          · exact HOK.out y hy
                          · rw [List.mem_singleton.1 hy]; exact HXOK.out
                        · exact HX6.out.setCell (p := ⟨w.heap.size + 1 + 1, 0, none⟩) (by show w.heap.size ≤ w.heap.size + 1 + 1; omega) _
                      · exact AllReadyH.nil
                    · exact AllReadyH.nil
                  · exact AllReadyH.nil
                · exact AllReadyH.nil
              refine AllReadyH.cons rfl (fun K hK => ?_) ?_
              · rw [if_pos (by rfl)]
                refine wp_buildN 56 (by rfl) x.cells (by go_simp) hl35 ?_
                have kW : Ext w3 (w3.drew.alloc (.cells x.cells.toArray 34)) := ((Ext.refl w3).drew).alloc _
                have hsrcW : Src (w3.drew.alloc (.cells x.cells.toArray 34)) 35 (some ⟨w3.drew.heap.size, 0, none⟩) 1 1 x.cells := src_atN (by rw [hl35]) (Node.one x) rfl
                have t0W := kW.cell t0
                refine hK.out _ _ (rangeAt_ext RB.out kW) (fun hHeld => ?_)
                clear hK K
                (try simp only [List.getElem_toArray, List.getElem_cons_zero, List.getElem_cons_succ, Act.put, List.setIfInBounds_toArray, List.set_cons_zero, List.set_cons_succ])
                refine wpAnyH_ready (rs := [1]) (by kernel_rfl) (by simp) ?_
                refine AllReadyH.cons rfl (fun K hK => ?_) ?_
                · go_simp
                  refine hK.out _ _ hHeld (fun hHeld => ?_)
                  clear hK K
                  (try simp only [List.getElem_toArray, List.getElem_cons_zero, List.getElem_cons_succ, Act.put, List.setIfInBounds_toArray, List.set_cons_zero, List.set_cons_succ])
                  refine wpAnyH_ready (rs := [2]) (by kernel_rfl) (by simp) ?_
                  refine AllReadyH.cons rfl (fun K hK => ?_) ?_
                  · refine step_app rowNodes (by rfl) (.const (Value.slice none 0 0)) (.tmp 47) (by rfl) w3.heap.size (.slice none 0 0) 0 [] (by go_simp) (World.ownsRow_nil _ _ _ _) (some ⟨bb, off, none⟩) n c (flatN NS) (by go_simp) ((HV.out _ (kk.trans kW)).src) (by omega) (kW).size ?_
                    intro q4 w4 hown4 hgrow4 hat4
                    have k4 : Ext w3 w4 := (kW).grown hgrow4 (fun j e => by cases e)
                    rw [Nat.zero_add, List.nil_append] at hown4
                    refine hK.out _ _ (rangeAt_ext RB.out k4) (fun hHeld => ?_)
                    clear hK K
                    (try simp only [List.getElem_toArray, List.getElem_cons_zero, List.getElem_cons_succ, Act.put, List.setIfInBounds_toArray, List.set_cons_zero, List.set_cons_succ])
                    have kV := k4
                    have hownV := hown4
                    have hsrcV := hsrcW.ext ((Ext.refl _).grown hgrow4 (fun j e => by cases e))
                    refine wpAnyH_ready (rs := [12]) (by kernel_rfl) (by simp) ?_
                    refine AllReadyH.cons rfl (fun K hK => ?_) ?_
                    · refine step_app rowNodes (by rfl) (.tmp 48) (.tmp 57) (by rfl) w3.heap.size q4 n (flatN NS) (by go_simp) hownV (some ⟨w3.drew.heap.size, 0, none⟩) 1 1 x.cells (by go_simp) hsrcV (by omega) kV.size ?_
                      intro q5 w5 hown5 hgrow5 hat5
                      rw [← flatN_snoc] at hown5
                      have hq0 : q4.ownBlock ≠ some w.heap.size := own_off hownV (.inl tl)
                      have hq1 : q4.ownBlock ≠ some (w.heap.size + 1) := own_off hownV (.inl nl)
                      have hq2 : q4.ownBlock ≠ some (w.heap.size + 1 + 1) := own_off hownV (.inl cl)
                      have c5 := grownC hgrow5 (kV.cell c4) hq2
                      have f5 := grownF hgrow5 (kV.cell c4) hq2 ((kV.out.frozen (p := ⟨w.heap.size + 1 + 1, 0, none⟩) cl).trans f4)
                      have t5 := grownC hgrow5 (kV.cell t0) hq0
                      have tf5 := grownF hgrow5 (kV.cell t0) hq0 ((kV.out.frozen (p := ⟨w.heap.size, 0, none⟩) tl).trans tf)
                      have k5 : Ext w w5 := (kk.trans kV).grown hgrow5 (fun j e => Nat.le_trans kk.size (own_from hownV j e))
                      refine hK.out _ _ (grown_range hgrow5 (rangeAt_ext RB.out kV) hq1) (fun hHeld => ?_)
                      clear hK K
                      (try simp only [List.getElem_toArray, List.getElem_cons_zero, List.getElem_cons_succ, Act.put, List.setIfInBounds_toArray, List.set_cons_zero, List.set_cons_succ])
                      have hn5 : q5.ownBlock ≠ some w.heap.size := by
                        rcases hat5 with h | h
                        · rw [h]; exact hq0
                        · rw [h]; intro e5; have e6 := Option.some.inj e5; have := kV.size; omega
                      obtain ⟨A5, c5', rfl⟩ := own_form' hown5
                      have hx6 : Ext w (w5.setCell ⟨w.heap.size, 0, none⟩ (.slice A5 (n + 1) c5')) := k5.setCell (p := ⟨w.heap.size, 0, none⟩) (Nat.le_refl _) _
                      have o6 := own_setCell' (a := ⟨w.heap.size, 0, none⟩) hown5 hn5 (.slice A5 (n + 1) c5')
                      have t6 : (w5.setCell ⟨w.heap.size, 0, none⟩ (.slice A5 (n + 1) c5')).cell? ⟨w.heap.size, 0, none⟩ = some (.slice A5 (n + 1) c5') := World.cell?_setCell_same' _ _ _ (by rw [t5]; rfl)
                      have c6 : (w5.setCell ⟨w.heap.size, 0, none⟩ (.slice A5 (n + 1) c5')).cell? ⟨w.heap.size + 1 + 1, 0, none⟩ = some (.slice none 0 0) := (World.cell?_setCell_other _ _ _ _ (by simp)).trans c5
                      have f6 : (w5.setCell ⟨w.heap.size, 0, none⟩ (.slice A5 (n + 1) c5')).frozen? ⟨w.heap.size + 1 + 1, 0, none⟩ = false := by rw [World.frozen?_setCell]; exact f5
                      have HFIN := Lib.hid (And.intro hx6 (And.intro o6 (And.intro t6 (And.intro c6 f6))))
                      clear hx6 o6 t6 c6 f6 hown5 hgrow5 hat5
                      refine wpAnyH_take (i := 13) (v := Value.pointer (some ⟨w.heap.size, 0, none⟩)) rfl (by kernel_rfl) (by kernel_rfl) (by kernel_rfl) (fun _ _ _ h => h) (Or.inl ⟨by rfl, fun _ hSw => by first | (go_simp; done) | (go_simp; with_reducible rfl)⟩) hHeld ?_
                      (try simp only [List.getElem_toArray, List.getElem_cons_zero, List.getElem_cons_succ, Act.put, List.setIfInBounds_toArray, List.set_cons_zero, List.set_cons_succ])
                      refine wpAnyH_ready (rs := [14]) (by kernel_rfl) (by simp) ?_
                      refine AllReadyH.cons rfl (fun K hK => ?_) ?_
                      · go_simp
                        refine hK.out _ _ (range_setB hHeld (p := ⟨w.heap.size, 0, none⟩) (by show w.heap.size + 1 ≠ w.heap.size; omega) _) (fun hHeld => ?_)
                        clear hK K
                        (try simp only [List.getElem_toArray, List.getElem_cons_zero, List.getElem_cons_succ, Act.put, List.setIfInBounds_toArray, List.set_cons_zero, List.set_cons_succ])
                        refine wpAnyH_done (by kernel_rfl) ?_ _
                        refine NoPanic.normal ?_
                        obtain ⟨hx6, o6, t6, c6, f6⟩ := HFIN.out
                        have HO6 := Lib.hid o6
                        have HX6 := Lib.hid hx6
                        clear HFIN o6 hx6 t0 tf c4 f4 t5 tf5 c5 f5 hHeld kV hownV hsrcV hq0 hq1 hq2 k5 hn5 kk
                        generalize w5.setCell ⟨w.heap.size, 0, none⟩ (.slice A5 (n + 1) c5') = w6 at *
                        have t6l := lt_of_cell t6
                        have c6l := lt_of_cell c6
                        go_wp2
                        refine bodyPost_ret (v := .tuple #[.agg #[.slice A5 (n + 1) c5'], .int .i64 0]) (by simp (maxDischargeDepth := 7) [results, Try.results20, go_sem, c6, f6]) rfl ⟨⟨_, _, _, by rw [HE.out], ?_⟩, ?_⟩
                        · rw [HVV.out]
                          refine nl_of_own (base := w3.heap.size) (own_setCell (a := ⟨w.heap.size + 1 + 1, 0, none⟩) HO6.out cl _) (by omega) (by rw [List.length_append, HLE.out]; rfl) (fun y hy => ?_)
                          rcases List.mem_append.1 hy with hy | hy
                          · exact HOK.out y hy
                          · rw [List.mem_singleton.1 hy]; exact HXOK.out
                        · exact HX6.out.setCell (p := ⟨w.heap.size + 1 + 1, 0, none⟩) (by show w.heap.size ≤ w.heap.size + 1 + 1; omega) _
                      · exact AllReadyH.nil
                    · exact AllReadyH.nil
                  · exact AllReadyH.nil
                · exact AllReadyH.nil
              · exact AllReadyH.nil
      · have HE : Hid (Tree.putE NS b = 5) := by show _ = _; unfold Tree.putE; rw [if_pos hm, if_neg hr, if_neg hu]
        have HVV : Hid (Tree.putV NS b = NS) := by show _ = _; unfold Tree.putV; rw [HE.out, if_neg (by decide)]
        rw [findV_out hu] at HF2
        clear hr hu
        go_enter Try.func20, Try.ntmps20
        go_wp2_with fail
        refine (HM.out true hm _ ((by repeat (first | assumption | exact Ext.refl _ | refine Ext.alloc ?_ _ | refine Ext.drew ?_ | refine Ext.drewN ?_ _ | refine Ext.setCell ?_ (by first | (simp; done) | omega | (simp; omega)) _ | refine Ext.trans (by assumption) ?_)))).mono ?_
        rintro e w1 ⟨rfl, hx1⟩
        have kk : Ext w w1 := Ext.trans ((by repeat (first | assumption | exact Ext.refl _ | refine Ext.alloc ?_ _ | refine Ext.drew ?_ | refine Ext.drewN ?_ _ | refine Ext.setCell ?_ (by first | (simp; done) | omega | (simp; omega)) _ | refine Ext.trans (by assumption) ?_))) hx1
        have t0 : w1.cell? ⟨w.heap.size, 0, none⟩ = some (.slice A n c) := hx1.cell (by simp (maxDischargeDepth := 7) [go_sem])
        have tf : w1.frozen? ⟨w.heap.size, 0, none⟩ = false := (hx1.out.frozen (p := ⟨w.heap.size, 0, none⟩) (by simp; omega)).trans (by simp (maxDischargeDepth := 7) [go_sem])
        have rB : w1.rangeAt (w.heap.size + 1) 0 b.cells := rangeAt_ext (rangeAt_ext (range_at (w := w.alloc (.cells #[.slice A n c] 24)) (B := w.heap.size + 1) b.cells 44 (by simp)) ((Ext.refl _).alloc (.cells #[.slice none 0 0] 24))) hx1
        have c4 : w1.cell? ⟨w.heap.size + 1 + 1, 0, none⟩ = some (.slice none 0 0) := hx1.cell (by simp (maxDischargeDepth := 7) [go_sem])
        have f4 : w1.frozen? ⟨w.heap.size + 1 + 1, 0, none⟩ = false := (hx1.out.frozen (p := ⟨w.heap.size + 1 + 1, 0, none⟩) (by simp)).trans (by simp (maxDischargeDepth := 7) [go_sem])
        have tl := lt_of_cell t0
        have cl := lt_of_cell c4
        clear hx1
        have rR : World.rangeAt w1 (w.heap.size + 1) 0 (rootC b.root) := rangeAt_part (xs := []) (ys := rootC b.root) (zs := rootC b.up ++ [Value.int .u64 b.slot, Value.int .u64 b.just]) (k := 0) (by rw [List.nil_append, ← List.append_assoc]; exact rB) rfl
        have rU : World.rangeAt w1 (w.heap.size + 1) 32 (rootC b.up) := by have := rangeAt_part (xs := rootC b.root) (ys := rootC b.up) (zs := [Value.int .u64 b.slot, Value.int .u64 b.just]) (k := 32) rB (rootC_len HBO.out.1); rwa [Nat.zero_add] at this
        have d2 := rangeAt_head rB (j := 64) (v := .int .u64 b.slot) (by unfold Block.cells; simp [rootC_len HBO.out.1, rootC_len HBO.out.2.1])
        simp only [Nat.zero_add] at d2
        go_wp2_with (refine wpList_load_mid rfl 32 _ rfl _ _ rfl (rootC b.root) _ rR Try.underlying32 rfl hi32 ?_)
        refine (HF1.out _ kk).mono ?_
        rintro e w2 ⟨rfl, hx2⟩
        replace tf := (hx2.out.frozen (p := ⟨w.heap.size, 0, none⟩) (lt_of_cell t0)).trans tf
        replace f4 := (hx2.out.frozen (p := ⟨w.heap.size + 1 + 1, 0, none⟩) (lt_of_cell c4)).trans f4
        replace t0 := hx2.cell t0
        replace c4 := hx2.cell c4
        replace rB := rangeAt_ext rB hx2
        replace kk := kk.trans hx2
        replace tl := lt_of_cell t0
        replace cl := lt_of_cell c4
        clear hx2
        clear rR rU d2
        have rR : World.rangeAt w2 (w.heap.size + 1) 0 (rootC b.root) := rangeAt_part (xs := []) (ys := rootC b.root) (zs := rootC b.up ++ [Value.int .u64 b.slot, Value.int .u64 b.just]) (k := 0) (by rw [List.nil_append, ← List.append_assoc]; exact rB) rfl
        have rU : World.rangeAt w2 (w.heap.size + 1) 32 (rootC b.up) := by have := rangeAt_part (xs := rootC b.root) (ys := rootC b.up) (zs := [Value.int .u64 b.slot, Value.int .u64 b.just]) (k := 32) rB (rootC_len HBO.out.1); rwa [Nat.zero_add] at this
        have d2 := rangeAt_head rB (j := 64) (v := .int .u64 b.slot) (by unfold Block.cells; simp [rootC_len HBO.out.1, rootC_len HBO.out.2.1])
        simp only [Nat.zero_add] at d2
        go_wp2_with (refine wpList_load_mid rfl 32 _ rfl _ _ rfl (rootC b.up) _ rU Try.underlying32 rfl hj32 ?_)
        refine (HF2.out _ kk).mono ?_
        rintro e w3 ⟨rfl, hx3⟩
        replace tf := (hx3.out.frozen (p := ⟨w.heap.size, 0, none⟩) (lt_of_cell t0)).trans tf
        replace f4 := (hx3.out.frozen (p := ⟨w.heap.size + 1 + 1, 0, none⟩) (lt_of_cell c4)).trans f4
        replace t0 := hx3.cell t0
        replace c4 := hx3.cell c4
        replace rB := rangeAt_ext rB hx3
        replace kk := kk.trans hx3
        replace tl := lt_of_cell t0
        replace cl := lt_of_cell c4
        clear hx3
        clear rR rU d2
        go_wp2
        refine bodyPost_ret (v := .tuple #[.agg #[.slice A n c], .int .i64 5]) (by simp (maxDischargeDepth := 7) [results, Try.results20, go_sem, c4, f4]) rfl ⟨⟨_, _, _, by rw [HE.out], ?_⟩, ?_⟩
        · rw [HVV.out]; exact HV.out _ (kk.setCell (p := ⟨w.heap.size + 1 + 1, 0, none⟩) (by show w.heap.size ≤ w.heap.size + 1 + 1; omega) _)
        · exact kk.setCell (p := ⟨w.heap.size + 1 + 1, 0, none⟩) (by show w.heap.size ≤ w.heap.size + 1 + 1; omega) _
end Go.Proofs.Ytoifhpcpahfddaa
