/- Layer 14: delta.sum, Own, Of. -/
import Derived.Test.YtjhhfininnlkfaaDeltaVoted
namespace Go.Proofs.Ytjhhfininnlkfaa
open Go.RowKit Go.WideShapes Go.ChangeShapes
set_option linter.unusedVariables false
set_option linter.unusedSimpArgs false








attribute [local go_sem] Oper.semAt_some
namespace Delta
/-- What those have who were handed on for a place. -/
def accL (l : List Int) (xs : List (Nat × Nat)) (p : Nat) : Nat := (xs.map (fun x => if x.2 = p then Weight.at' l x.1 else 0)).sum
theorem accL_snoc (l : List Int) (xs : List (Nat × Nat)) (x : Nat × Nat) (p : Nat) : accL l (xs ++ [x]) p = accL l xs p + if x.2 = p then Weight.at' l x.1 else 0 := by unfold accL; simp
theorem at_le {l : List Int} (h : Stake.overL l = false) (k : Nat) : Weight.at' l k ≤ 1099511627776 := by
  have := Stake.sumL_le h [k]
  simpa [Stake.sumL, Weight.at'] using this
theorem accL_le {l : List Int} (h : Stake.overL l = false) (xs : List (Nat × Nat)) (p : Nat) : accL l xs p ≤ xs.length * 1099511627776 := by
  unfold accL
  induction xs with
  | nil => simp
  | cons x xs ih =>
    simp only [List.map_cons, List.sum_cons, List.length_cons]
    have := at_le h x.1
    split <;> omega
/-- What each place has. -/
def ownF (T : List Node) (v but : List Lat) (l : List Int) (p : Nat) : Nat := accL l (pairs T v but v.length) p
def sumV (T : List Node) (v but : List Lat) (l : List Int) : List Int := Weight.listOf T.length (ownF T v but l)
theorem ownF_lt {T : List Node} {v but : List Lat} {l : List Int} (h : Stake.overL l = false) (h8 : v.length ≤ 8) (p : Nat) : ownF T v but l p < 18446744073709551616 := by
  have := accL_le h (pairs T v but v.length) p
  have := pairs_len T v but v.length
  unfold ownF
  omega
theorem sumV_len (T : List Node) (v but : List Lat) (l : List Int) : (sumV T v but l).length = T.length := Weight.listOf_len _ _
theorem sumV_wf {T : List Node} {v but : List Lat} {l : List Int} (h : Stake.overL l = false) (h8 : v.length ≤ 8) : ∀ x ∈ sumV T v but l, (Lit.int .u64 x).wf = true := by
  intro x hx
  unfold sumV Weight.listOf at hx
  obtain ⟨k, _, rfl⟩ := List.mem_map.1 hx
  have := ownF_lt (T := T) (but := but) h h8 k
  simp [Lit.wf, IntKind.min, IntKind.max, IntKind.signed, IntKind.bits]; omega
end Delta
theorem make_zer (n : Nat) (hn : n ≤ 17592186043904) (W : World) :
    (Instr.makeSlice 29 (.int .i64 (n : Int)) (.int .i64 (n : Int))).run Try.prog W = .ok (.slice (some ⟨W.heap.size, 0, none⟩) n n) (W.alloc (.cells ((List.replicate n (0 : Int)).map (Value.int .u64)).toArray 26)) := by
  obtain ⟨i0, hi, hz0, hz1, hz2⟩ := info_parts (show (Try.prog.info? 26).map (fun i => (i.zero, i.size, i.bytes)) = some (some (.int .u64 0), 1, 8) by kernel_rfl)
  have h := run_make (P := Try.prog) W 29 26 i0 _ Try.underlying29 hi hz0 .i64 .i64 (n : Int) (n : Int) (by omega) (Int.le_refl _) (by rw [hz2]; omega) (by omega)
  rw [hz1, Nat.mul_one] at h
  simp only [Int.toNat_natCast] at h
  have e : madeCells (Value.int .u64 0).cells n = ((List.replicate n (0 : Int)).map (Value.int .u64)).toArray := by
    apply Array.toList_inj.1
    rw [List.map_replicate]
    exact toList_madeCells_one _ n
  rw [e] at h
  exact h
/-- The world of a sum. -/
structure SumR (w W : World) (Bl Bg Bo S : Nat) (A : Option Addr) (n c : Nat) (vA : Option Addr) (vn vc vo : Nat) (bA : Option Addr) (bn bc bo : Nat) (LA : Option Addr) (ln lc : Nat) (f : Nat → Nat) : Prop where
  ext : Below w.heap.size w W
  cap : Capt W S A n c vA vn vc vo bA bn bc bo
  bal : W.cell? ⟨Bl, 0, none⟩ = some (.slice LA ln lc)
  out : W.cell? ⟨Bo, 0, none⟩ = some (.slice (some ⟨Bg, 0, none⟩) n n)
  at' : ∀ p, p < n → W.cell? ⟨Bg, p, none⟩ = some (.int .u64 (f p : Nat)) ∧ W.frozen? ⟨Bg, p, none⟩ = false
section
variable {w W W' : World} {Bl Bg Bo S : Nat} {A : Option Addr} {n c : Nat} {vA : Option Addr} {vn vc vo : Nat} {bA : Option Addr} {bn bc bo : Nat} {LA : Option Addr} {ln lc : Nat} {f g : Nat → Nat}
theorem SumR.grow (R : SumR w W Bl Bg Bo S A n c vA vn vc vo bA bn bc bo LA ln lc f) (hx : Ext W W') : SumR w W' Bl Bg Bo S A n c vA vn vc vo bA bn bc bo LA ln lc f :=
  ⟨((⟨R.ext⟩ : Ext w W).trans hx).out, R.cap.ext hx, hx.cell R.bal, hx.cell R.out, fun p hp => ⟨hx.cell (R.at' p hp).1, (hx.out.frozen (p := ⟨Bg, p, none⟩) (lt_of_cell (R.at' p hp).1)).trans (R.at' p hp).2⟩⟩
theorem SumR.own (R : SumR w W Bl Bg Bo S A n c vA vn vc vo bA bn bc bo LA ln lc f) {row : Option Nat} (hg : W.grownBy W' row) (hr : ∀ r, row = some r → w.heap.size ≤ r ∧ ∃ o : Obj, W.heap[r]? = some o ∧ o.isCells = false) : SumR w W' Bl Bg Bo S A n c vA vn vc vo bA bn bc bo LA ln lc f := by
  have hr' : ∀ r, row = some r → ∃ o : Obj, W.heap[r]? = some o ∧ o.isCells = false := fun r e => (hr r e).2
  exact ⟨R.ext.grown hg (by have := R.ext.size; omega) (fun k e => (hr k e).1), ⟨cell_kept R.cap.t0 hg hr', cell_kept R.cap.v0 hg hr', cell_kept R.cap.v1 hg hr', cell_kept R.cap.b0 hg hr', cell_kept R.cap.b1 hg hr'⟩, cell_kept R.bal hg hr', cell_kept R.out hg hr', fun p hp => ⟨cell_kept (R.at' p hp).1 hg hr', (frozen_kept (R.at' p hp).1 hg hr').trans (R.at' p hp).2⟩⟩
theorem SumR.set (R : SumR w W Bl Bg Bo S A n c vA vn vc vo bA bn bc bo LA ln lc f) (hB : w.heap.size ≤ Bg ∧ Bl ≠ Bg ∧ Bo ≠ Bg ∧ Bg < S) {q : Nat} (hq : q < n) (x : Nat) (hg : ∀ p, g p = if p = q then x else f p) : SumR w (W.setCell ⟨Bg, q, none⟩ (.int .u64 (x : Nat))) Bl Bg Bo S A n c vA vn vc vo bA bn bc bo LA ln lc g := by
  have hne : ∀ {B o : Nat}, B ≠ Bg → (⟨Bg, q, none⟩ : Addr) ≠ ⟨B, o, none⟩ := fun {B o} h e => h (congrArg Addr.block e).symm
  refine ⟨R.ext.setCell (p := ⟨Bg, q, none⟩) hB.1 _, ⟨?_, ?_, ?_, ?_, ?_⟩, ?_, ?_, fun p hp => ⟨?_, by rw [World.frozen?_setCell]; exact (R.at' p hp).2⟩⟩
  · exact (World.cell?_setCell_other _ _ _ _ (hne (by omega))).trans R.cap.t0
  · exact (World.cell?_setCell_other _ _ _ _ (hne (by omega))).trans R.cap.v0
  · exact (World.cell?_setCell_other _ _ _ _ (hne (by omega))).trans R.cap.v1
  · exact (World.cell?_setCell_other _ _ _ _ (hne (by omega))).trans R.cap.b0
  · exact (World.cell?_setCell_other _ _ _ _ (hne (by omega))).trans R.cap.b1
  · exact (World.cell?_setCell_other _ _ _ _ (hne hB.2.1)).trans R.bal
  · exact (World.cell?_setCell_other _ _ _ _ (hne hB.2.2.1)).trans R.out
  · rw [hg p]
    by_cases e : p = q
    · subst e
      rw [if_pos rfl]
      exact World.cell?_setCell_same' _ _ _ (by rw [(R.at' p hp).1]; rfl)
    · rw [if_neg e]
      exact (World.cell?_setCell_other _ _ _ _ (fun e' => e (by have := congrArg Addr.off e'; simpa using this.symm))).trans (R.at' p hp).1
end





set_option maxRecDepth 100000 in
set_option maxHeartbeats 4000000 in
theorem dsum_in (A : Option Addr) (n c : Nat) (NS : List Node) (hm : Tree.mayV NS = true) (vA : Option Addr) (vn vc vo : Nat) (v : List Lat) (bA : Option Addr) (bn bc bo : Nat) (but : List Lat) (LA : Option Addr) (ln lc : Nat) (l : List Int) (hl8 : ln ≤ 8) (hll : vn = ln) (hov : Stake.overL l = false) (w : World) (h : NL w A n c NS) (hv : VL w vA vn vc v) (hb : VL w bA bn bc but) (hl : Ints w .u64 LA ln lc l) :
    CallsIn Fence.wide 9 Try.prog 21 #[.agg #[.slice A n c], .agg #[.slice vA vn vc, .int .u64 vo], .agg #[.slice bA bn bc, .int .u64 bo], .slice LA ln lc] w fun e w' => (∃ x, e = .returned x ∧ IsInts w' .u64 x (Delta.sumV NS v but l)) ∧ Ext w w' := by
  have hnl := h.len
  have hroom := h.row.room
  have hvl := hv.len
  have hll2 := hl.len
  have hmk := fun W => make_zer n hroom W
  refine callsIn_of_wp_marks Try.func21 rfl trivial ?_ rfl
  simp only [Try.ntmps21, List.size_toArray, List.length_cons, List.length_nil, Nat.reduceAdd, Nat.reduceSub, Array.replicate_succ, Array.replicate_zero, List.push_toArray, List.append_toArray, List.nil_append, List.cons_append]
  gi_wp2_with (refine ⟨trivial, ?_⟩; gi_at_call 34; refine (callsIn_wide.2 (voted_any _ _ _ _ _ _ _ _ _ _ _ _)).mono ?_; rintro e w' ⟨rfl, rfl⟩)
  obtain ⟨W0, hW0⟩ : ∃ W0, (((((((((w.alloc (.cells #[.slice A n c] 24)).alloc (.cells #[.slice vA ln vc, .int .u64 vo] 28)).alloc (.cells #[.slice bA bn bc, .int .u64 bo] 28)).alloc (.cells #[.slice LA ln lc] 29)).alloc (.cells (Array.replicate n (.int .u64 0)) 26)).alloc (.cells #[.slice (some ⟨(w.heap.size + 1 + 1 + 1 + 1), 0, none⟩) n n] 29)).alloc (.cells #[.slice A n c] 24)).alloc (.cells #[.slice vA ln vc, .int .u64 vo] 28)).alloc (.cells #[.slice bA bn bc, .int .u64 bo] 28)) = W0 := ⟨_, rfl⟩
  have hsz : w.heap.size ≤ W0.heap.size := by rw [← hW0]; simp; omega
  have R0 : SumR w W0 ((w.heap.size + 1 + 1 + 1)) ((w.heap.size + 1 + 1 + 1 + 1)) ((w.heap.size + 1 + 1 + 1 + 1 + 1)) ((w.heap.size + 1 + 1 + 1 + 1 + 1 + 1)) A n c vA ln vc vo bA bn bc bo LA ln lc (fun p => Delta.accL l [] p) := by
    rw [← hW0]
    exact ⟨((by repeat (first | assumption | exact Ext.refl _ | refine Ext.alloc ?_ _ | refine Ext.drew ?_ | refine Ext.drewN ?_ _ | refine Ext.setCell ?_ (by first | (simp; done) | omega | (simp; omega)) _ | refine Ext.trans (by assumption) ?_)) : Ext w _).out, ⟨by simp (maxDischargeDepth := 9) [go_sem], by simp (maxDischargeDepth := 9) [go_sem], by simp (maxDischargeDepth := 9) [go_sem], by simp (maxDischargeDepth := 9) [go_sem], by simp (maxDischargeDepth := 9) [go_sem]⟩, by simp (maxDischargeDepth := 9) [go_sem], by simp (maxDischargeDepth := 9) [go_sem], fun p hp => ⟨by simp (maxDischargeDepth := 9) [go_sem, Delta.accL, hp], by simp (maxDischargeDepth := 9) [go_sem, Delta.accL, hp]⟩⟩
  rw [hW0]
  clear hW0
  have HL := Lib.hid (fun W (k : Ext w W) => hl.ext k)
  have HX : Hid (∀ p, (Delta.pairs NS v but ln).length ≤ 8 ∧ Delta.accL l [] p = 0) := fun p => ⟨Nat.le_trans (Delta.pairs_len _ _ _ _) hl8, rfl⟩
  have HVN : Hid (v.length = ln) := hvl.trans hll
  have HNN := Lib.hid hnl
  have HOV := Lib.hid hov
  have hB : w.heap.size ≤ ((w.heap.size + 1 + 1 + 1 + 1)) ∧ ((w.heap.size + 1 + 1 + 1)) ≠ ((w.heap.size + 1 + 1 + 1 + 1)) ∧ ((w.heap.size + 1 + 1 + 1 + 1 + 1)) ≠ ((w.heap.size + 1 + 1 + 1 + 1)) ∧ ((w.heap.size + 1 + 1 + 1 + 1)) < ((w.heap.size + 1 + 1 + 1 + 1 + 1 + 1)) := by omega
  have HBB := Lib.hid hB
  have hit := voted1_in A n c NS hm vA ln vc vo v bA bn bc bo but ((w.heap.size + 1 + 1 + 1 + 1 + 1 + 1)) w h (hll ▸ hv) hb
  clear hB h hv hb hl hmk hm
  refine range_pair (w := W0) rfl (by omega) (gf := 48) (lb := #[.pointer (some ⟨((w.heap.size + 1 + 1 + 1 + 1 + 1 + 1)) + 1, 0, none⟩), .pointer (some ⟨((w.heap.size + 1 + 1 + 1 + 1 + 1 + 1)) + 1 + 1, 0, none⟩), .pointer (some ⟨((w.heap.size + 1 + 1 + 1 + 1 + 1 + 1)), 0, none⟩)]) rfl trivial (enters_of Try.func48 (by kernel_rfl) rfl)
    (xs := Delta.pairs NS v but ln) (T := fun W => Ext w W ∧ Capt W ((w.heap.size + 1 + 1 + 1 + 1 + 1 + 1)) A n c vA ln vc vo bA bn bc bo) hit
    (fun pre W => SumR w W ((w.heap.size + 1 + 1 + 1)) ((w.heap.size + 1 + 1 + 1 + 1)) ((w.heap.size + 1 + 1 + 1 + 1 + 1)) ((w.heap.size + 1 + 1 + 1 + 1 + 1 + 1)) A n c vA ln vc vo bA bn bc bo LA ln lc (fun p => Delta.accL l pre p))
    (fun s W W' row R hg hr => R.own hg (fun r e => ⟨by have := (hr r e).1; omega, (hr r e).2⟩))
    (fun s W W' R hx => R.grow hx) R0 (fun s W R => ⟨⟨R.ext⟩, R.cap⟩)
    (fun x => { tmps := #[.agg #[.slice A n c], .agg #[.slice vA ln vc, .int .u64 vo], .agg #[.slice bA bn bc, .int .u64 bo], .slice LA ln lc, .pointer (some ⟨w.heap.size, 0, none⟩), .pointer (some ⟨w.heap.size + 1, 0, none⟩), .pointer (some ⟨w.heap.size + 1 + 1, 0, none⟩), .pointer (some ⟨((w.heap.size + 1 + 1 + 1)), 0, none⟩), .slice none 0 0, .pointer (some ⟨((w.heap.size + 1 + 1 + 1 + 1 + 1)), 0, none⟩), .int .i64 (x.1 : Nat), .int .i64 (x.2 : Nat), .pointer (some ⟨w.heap.size, 0, none⟩), .slice A n c, .int .i64 (n : Nat), .slice (some ⟨((w.heap.size + 1 + 1 + 1 + 1)), 0, none⟩) n n, .agg #[.slice A n c], .agg #[.slice vA ln vc, .int .u64 vo], .agg #[.slice bA bn bc, .int .u64 bo], .func (.func 48) #[] #[.pointer (some ⟨((w.heap.size + 1 + 1 + 1 + 1 + 1 + 1)) + 1, 0, none⟩), .pointer (some ⟨((w.heap.size + 1 + 1 + 1 + 1 + 1 + 1)) + 1 + 1, 0, none⟩), .pointer (some ⟨((w.heap.size + 1 + 1 + 1 + 1 + 1 + 1)), 0, none⟩)], .int .i64 (x.1 : Nat), .int .i64 (x.2 : Nat), undef, undef, undef, undef, undef, undef, undef, undef, undef, undef, undef], defers := [] }) ?assign ?body ?done
  case assign =>
    intro lp x W K hK
    gi_wp2
    exact hK
  case body =>
    rintro lp pre x W R hpx
    obtain ⟨k, q⟩ := x
    have hmem := Delta.pairs_mem (hpx.subset (by simp) : (k, q) ∈ Delta.pairs NS v but ln)
    have hk : k < ln := hmem.1
    have hq : q < n := by have := hmem.2; rw [HNN.out] at this; exact this
    have hlen := List.IsPrefix.length_le hpx
    have hle := Delta.accL_le HOV.out pre q
    have hat := Delta.at_le HOV.out k
    have h8 := (HX.out 0).1
    have hI := HL.out W ⟨R.ext⟩
    obtain ⟨b, off, rfl, hcs⟩ := hI.cells (by omega)
    have dx := hcs k hk
    have hu := hI.u64 k
    have hy : nth l k = ((Weight.at' l k : Nat) : Int) := by unfold Weight.at'; omega
    rw [hy] at dx
    simp only [List.length_append, List.length_singleton] at hlen
    have HSN := Lib.hid (fun p => Delta.accL_snoc l pre (k, q) p)
    obtain ⟨c0, f0⟩ := R.at' q hq
    have cb := R.bal
    have co := R.out
    have HR := Lib.hid R
    generalize Weight.at' l k = y at *
    obtain ⟨z, hz⟩ : ∃ z, Delta.accL l pre q = z := ⟨_, rfl⟩
    rw [hz] at c0 hle
    have hadd : IntKind.u64.wrap ((z : Int) + (y : Int)) = ((z + y : Nat) : Int) := by
      rw [IntKind.wrap_u64]; omega
    have HZ := Lib.hid hz
    have g1 : (k : Int) < ln := by omega
    have g2 : (q : Int) < n := by omega
    have hmix : Try.prog.follows .mixedOrders = true := by kernel_rfl
    have HB2 := HBB.out
    clear R hmem hlen hle hat h8 hI hcs hu hy hz hpx hit R0 HX HVN HNN HOV HBB HL hnl hvl hll2 hll hroom hl8 hov hsz
    gi_wp2
    generalize (Value.func (.func 48) #[] #[.pointer (some ⟨((w.heap.size + 1 + 1 + 1 + 1 + 1 + 1)) + 1, 0, none⟩), .pointer (some ⟨((w.heap.size + 1 + 1 + 1 + 1 + 1 + 1)) + 1 + 1, 0, none⟩), .pointer (some ⟨((w.heap.size + 1 + 1 + 1 + 1 + 1 + 1)), 0, none⟩)]) = FV
    generalize e6 : ((w.heap.size + 1 + 1 + 1 + 1 + 1 + 1)) = B6 at *
    have E6 := Lib.hid e6
    clear e6
    generalize e5 : ((w.heap.size + 1 + 1 + 1 + 1 + 1)) = B5 at *
    have E5 := Lib.hid e5
    clear e5
    generalize e4 : ((w.heap.size + 1 + 1 + 1 + 1)) = B4 at *
    have E4 := Lib.hid e4
    clear e4
    generalize e3 : ((w.heap.size + 1 + 1 + 1)) = B3 at *
    have E3 := Lib.hid e3
    clear e3
    have HB3 := Lib.hid HB2
    clear HB2
    gi_region_o
    all_goals gi_wp2
    all_goals
      refine ⟨(KeepsOthers.setCell W ⟨B4, q, none⟩ _).trans (KeepsOthers.drew _), ?_⟩
      have hset := HR.out.set HB3.out hq (z + y) (g := fun p => Delta.accL l (pre ++ [(k, q)]) p) (fun p => by
        show Delta.accL l (pre ++ [(k, q)]) p = _
        rw [HSN.out]
        by_cases e : p = q
        · subst e; rw [if_pos rfl, if_pos rfl, HZ.out]
        · rw [if_neg e, if_neg (fun e' => e e'.symm), Nat.add_zero])
      have R9 := hset.grow ((Ext.refl _).drew)
      clear hset
      have e6 := E6.out
      subst e6
      have e5 := E5.out
      subst e5
      have e4 := E4.out
      subst e4
      have e3 := E3.out
      subst e3
      exact R9
  case done =>
    rintro D W hD R hK
    have co := R.out
    have HR := Lib.hid R
    clear R
    gi_wp2
    refine ⟨by simp, .inl ⟨_, _, rfl, run_takeDeferred hK, ?_⟩⟩
    have R2 := HR.out.own (grownBy_putObj' W D (.deferred none)) (fun r e => by cases e; exact ⟨by omega, _, hK, rfl⟩)
    refine ⟨_, results_tmp rfl _ _ _, ⟨_, rfl, ⟨_, n, n, rfl, ?_⟩⟩, ⟨R2.ext⟩⟩
    refine ⟨?_, Nat.le_refl _, hroom, ?_, (fun e => by cases e), fun hn => ⟨_, 0, rfl, fun p hp => ?_⟩⟩
    · rw [Delta.sumV_len]; exact HNN.out
    · exact Delta.sumV_wf HOV.out (by rw [HVN.out]; exact hl8)
    · rw [Nat.zero_add, (R2.at' p hp).1]
      unfold Delta.sumV
      rw [Weight.nth_listOf (by rw [HNN.out]; exact hp)]
      unfold Delta.ownF
      rw [HVN.out]
theorem dsum_any (A : Option Addr) (n c : Nat) (NS : List Node) (hm : Tree.mayV NS = true) (vA : Option Addr) (vn vc vo : Nat) (v : List Lat) (bA : Option Addr) (bn bc bo : Nat) (but : List Lat) (LA : Option Addr) (ln lc : Nat) (l : List Int) (hl8 : ln ≤ 8) (hll : vn = ln) (hov : Stake.overL l = false) (w : World) (h : NL w A n c NS) (hv : VL w vA vn vc v) (hb : VL w bA bn bc but) (hl : Ints w .u64 LA ln lc l) :
    Calls Try.prog 21 #[.agg #[.slice A n c], .agg #[.slice vA vn vc, .int .u64 vo], .agg #[.slice bA bn bc, .int .u64 bo], .slice LA ln lc] w fun e w' => (∃ x, e = .returned x ∧ IsInts w' .u64 x (Delta.sumV NS v but l)) ∧ Ext w w' :=
  callsIn_wide.1 (dsum_in A n c NS hm vA vn vc vo v bA bn bc bo but LA ln lc l hl8 hll hov w h hv hb hl)
end Go.Proofs.Ytjhhfininnlkfaa
