/- The contracts of layer 8 (weight): slices.Clone, up, Sub, with, Pass, Same. -/
import Derived.Test.YtjhhfininnlkfaaWeightV
import Derived.Test.YtjhhfininnlkfaaNum
import Derived.Test.YtjhhfininnlkfaaTree
import Derived.Test.YtjhhfininnlkfaaQuietX
import Derived.Deep.DeepCutAuto
namespace Go.Proofs.Ytjhhfininnlkfaa
open Go.RowKit Go.WideShapes Go.ChangeShapes
set_option linter.unusedVariables false
set_option linter.unusedSimpArgs false





theorem rowU64 : RowT Try.prog 29 26 1 8 := RowT.mk' (z := .int .u64 0) rfl (by kernel_rfl) rfl (by omega) (by omega)
/-- An element of a row that the call owns is stored over. -/
theorem own_store {w : World} {base g c n : Nat} {e : TypeId} {xs : List Value} (h : w.ownsRow base e 1 (.slice (some ⟨g, 0, none⟩) n c) n xs) {p : Nat} (hp : p < n) (u : Value) : (w.setCell ⟨g, p, none⟩ u).ownsRow base e 1 (.slice (some ⟨g, 0, none⟩) n c) n (xs.set p u) := by
  obtain ⟨h0, h⟩ := h
  refine ⟨by simpa using h0, ?_⟩
  rcases h with ⟨e1, _⟩ | ⟨g', cap, cur, e1, hb, hh, hc, hm, hs, ht⟩
  · cases e1
  · obtain ⟨rfl, rfl⟩ : g = g' ∧ c = cap := by simpa using e1
    refine .inr ⟨g, c, cur.setIfInBounds p u, rfl, hb, ?_, hc, hm, by simpa using hs, ?_⟩
    · show (w.heap.modify g _)[g]? = _
      rw [Array.getElem?_modify]
      simp [hh]
    · rw [Array.toList_setIfInBounds, ← ht, List.take_set]
theorem own_cell {w : World} {base g c n : Nat} {e : TypeId} {xs : List Value} (h : w.ownsRow base e 1 (.slice (some ⟨g, 0, none⟩) n c) n xs) {p : Nat} {u : Value} (hp : xs[p]? = some u) : w.cell? ⟨g, p, none⟩ = some u := by
  have := h.cells (g := g) rfl p u hp
  rwa [Addr.add_lit, Nat.zero_add] at this
theorem own_free {w : World} {base g c n : Nat} {e : TypeId} {xs : List Value} (h : w.ownsRow base e 1 (.slice (some ⟨g, 0, none⟩) n c) n xs) (p : Nat) : w.frozen? ⟨g, p, none⟩ = false := by
  rcases h.2 with ⟨e1, _⟩ | ⟨g', cap, cur, e1, hb, hh, hc, hm, hs, ht⟩
  · cases e1
  · obtain ⟨rfl, rfl⟩ : g = g' ∧ c = cap := by simpa using e1
    simp [World.frozen?, hh]
theorem own_at {w : World} {base n : Nat} {e : TypeId} {v : Value} {xs : List Value} (h : w.ownsRow base e 1 v n xs) (hn : 0 < n) : ∃ g c, v = .slice (some ⟨g, 0, none⟩) n c ∧ base ≤ g := by
  rcases h.2 with ⟨_, e⟩ | ⟨g, cap, cur, e1, hb, _⟩
  · omega
  · exact ⟨g, cap, e1, hb⟩
set_option maxHeartbeats 1000000 in
theorem clone64_any (A : Option Addr) (n c : Nat) (l : List Int) (w : World) (h : Ints w .u64 A n c l) :
    Calls Try.prog 38 #[.slice A n c] w fun e w' => (∃ v, e = .returned v ∧ w'.ownsRow w.heap.size 26 1 v n (l.map (Value.int .u64))) ∧ Ext w w' := by
  cases A with
  | none =>
    have hc := h.nil rfl
    have hn : n = 0 := by have := h.cap; omega
    subst hc; subst hn
    have hl : l = [] := List.eq_nil_of_length_eq_zero h.len
    subst hl
    have hnil := fun w => Lib.run_eql_slice_nil (P := Try.prog) w 29 26 none 0 0 0 0 Try.underlying29
    go_enter Try.func38, Try.ntmps38
    go_wp2
    go_ret
    exact ⟨⟨_, rfl, World.ownsRow_nil _ _ _ _⟩, Ext.refl _⟩
  | some a =>
    have hnil := fun w => Lib.run_eql_slice_nil (P := Try.prog) w 29 26 (some a) n c 0 0 Try.underlying29
    have hroom := h.room
    have HS := Lib.hid (ints_src h)
    clear h
    go_enter Try.func38, Try.ntmps38
    go_wp2_with (at_builtin; refine wpList_app rowU64 rfl _ _ rfl w.heap.size _ 0 [] rfl (World.ownsRow_made w #[] 0 (Nat.le_refl _) (by unfold maxLen; omega) rfl) (some a) n c (l.map (Value.int .u64)) rfl (HS.out.ext ((Ext.refl _).alloc _)) (by omega) (by simp) ?_)
    intro v' w1 hown hgrow _
    go_wp2
    go_ret
    exact ⟨⟨_, rfl, by simpa using hown⟩, ((Ext.refl w).alloc _).grown hgrow (fun k hk => by cases hk; exact Nat.le_refl _)⟩
/-- The sums under way: a struct of a tree and of numbers that the call owns. -/
structure SumsR (w W : World) (base Bs : Nat) (A : Option Addr) (n c g c2 : Nat) (l : List Int) : Prop where
  ext : Ext w W
  c0 : W.cell? ⟨Bs, 0, none⟩ = some (.slice A n c)
  c1 : W.cell? ⟨Bs, 1, none⟩ = some (.slice (some ⟨g, 0, none⟩) n c2)
  own : W.ownsRow base 26 1 (.slice (some ⟨g, 0, none⟩) n c2) n (l.map (Value.int .u64))
  bs : w.heap.size ≤ Bs
  bg : w.heap.size ≤ g
  ne : Bs ≠ g
  len : l.length = n
  wf : ∀ x ∈ l, (Lit.int .u64 x).wf = true
theorem SumsR.grow {w W W' : World} {base Bs : Nat} {A : Option Addr} {n c g c2 : Nat} {l : List Int} (R : SumsR w W base Bs A n c g c2 l) (hx : Ext W W') : SumsR w W' base Bs A n c g c2 l :=
  ⟨R.ext.trans hx, hx.cell R.c0, hx.cell R.c1, own_ext R.own hx, R.bs, R.bg, R.ne, R.len, R.wf⟩
theorem SumsR.at' {w W : World} {base Bs : Nat} {A : Option Addr} {n c g c2 : Nat} {l : List Int} (R : SumsR w W base Bs A n c g c2 l) {i : Nat} (hi : i < n) : W.cell? ⟨g, i, none⟩ = some (.int .u64 (Weight.at' l i : Nat)) ∧ Weight.at' l i < 18446744073709551616 := by
  have hl := R.len
  have h1 := own_cell R.own (nth_map (k := .u64) (l := l) (i := i) (by omega))
  have hwf := R.wf (nth l i) (by rw [nth_eq (by omega)]; exact List.getElem_mem _)
  have hb := bounds_u64 hwf
  unfold Weight.at'
  rw [h1]
  refine ⟨?_, by omega⟩
  rw [Int.toNat_of_nonneg hb.1]
theorem SumsR.set {w W : World} {base Bs : Nat} {A : Option Addr} {n c g c2 : Nat} {l : List Int} (R : SumsR w W base Bs A n c g c2 l) {p : Nat} (hp : p < n) (x : Nat) (hx : x < 18446744073709551616) : SumsR w (W.setCell ⟨g, p, none⟩ (.int .u64 x)) base Bs A n c g c2 (l.set p x) := by
  refine ⟨R.ext.setCell (p := ⟨g, p, none⟩) R.bg _, ?_, ?_, ?_, R.bs, R.bg, R.ne, by simpa using R.len, fun y hy => ?_⟩
  · rw [World.cell?_of_block (w := W) (Below.heap_setCell W ⟨g, p, none⟩ _ Bs R.ne)]; exact R.c0
  · rw [World.cell?_of_block (w := W) (Below.heap_setCell W ⟨g, p, none⟩ _ Bs R.ne)]; exact R.c1
  · have := own_store R.own hp (.int .u64 x)
    rwa [← List.map_set] at this
  · rcases List.mem_or_eq_of_mem_set hy with h | rfl
    · exact R.wf y h
    · simp [Lit.wf, IntKind.min, IntKind.max, IntKind.signed, IntKind.bits]; omega
set_option maxHeartbeats 1000000 in
theorem up_any (base Bs : Nat) (A : Option Addr) (n c g c2 : Nat) (l : List Int) (NS : List Node) (hm : Tree.mayV NS = true) (i : Nat) (hi : i < n) (w W : World) (h : NL w A n c NS) (R : SumsR w W base Bs A n c g c2 l) :
    Calls Try.prog 39 #[.pointer (some ⟨Bs, 0, none⟩), .int .i64 i] W fun e W' => e = .returned (.bool (Weight.upB NS l i)) ∧ SumsR w W' base Bs A n c g c2 (Weight.upL NS l i) := by
  have hlen := h.len
  have hroom := h.row.room
  obtain ⟨b, off, rfl, hr, hok⟩ := (h.ext R.ext).at' hi
  have d32 := rangeAt_head hr (Node.at32 hok)
  change W.cell? _ = some (.int .i64 (Tree.nd NS i).par) at d32
  have c0 := R.c0
  have c1 := R.c1
  have gi : (i : Int) < n := by omega
  have HR := Lib.hid R
  by_cases h0 : i = 0
  · have hp : (Tree.nd NS i).par = -1 := by rw [h0]; exact Tree.par_zero hm
    have e1 : Weight.upB NS l i = true := by unfold Weight.upB; rw [hp]; rfl
    have e2 : Weight.upL NS l i = l := by unfold Weight.upL; rw [hp]; rfl
    rw [e1, e2]
    rw [hp] at d32
    clear e1 e2 hp h0 hr hok h R hm
    go_enter Try.func39, Try.ntmps39
    go_wp2
    go_ret
    exact ⟨rfl, HR.out⟩
  · obtain ⟨_, hp1, hp2⟩ := Tree.par_pos hm (by omega) h0
    obtain ⟨p, hp⟩ : ∃ p, Tree.up NS i = p := ⟨_, rfl⟩
    rw [hp] at hp2
    have hpi : p < i := by omega
    have hpn : p < n := by omega
    have e1 : Weight.upB NS l i = Num.addB (Weight.at' l p) (Weight.at' l i) := by unfold Weight.upB; rw [hp2, if_neg (by omega)]; rfl
    have e2 : Weight.upL NS l i = l.set p ((Num.addV (Weight.at' l p) (Weight.at' l i) : Nat) : Int) := by unfold Weight.upL; rw [hp2, if_neg (by omega)]; rfl
    rw [e1, e2]
    rw [hp2] at d32
    obtain ⟨dp, bp⟩ := R.at' hpn
    obtain ⟨di, bi⟩ := R.at' hi
    have fg := own_free R.own p
    have gp : (p : Int) < n := by omega
    have HA := Lib.hid (fun W => add_any _ _ bp bi W)
    have HV := Lib.hid (Num.addV_lt (Weight.at' l p) (Weight.at' l i))
    generalize Num.addV (Weight.at' l p) (Weight.at' l i) = x at *
    generalize Num.addB (Weight.at' l p) (Weight.at' l i) = y at *
    generalize Weight.at' l p = u1 at *
    generalize Weight.at' l i = u2 at *
    have z0 := fun p => cell_in c0 p
    have z1 := fun p => cell_in c1 p
    have z2 := fun p => cell_in dp p
    have z3 := fun p => cell_in di p
    clear e1 e2 hp2 h0 hr hok h R hm hp hp1
    go_enter Try.func39, Try.ntmps39
    go_wp2
    refine wp_region_quiet_below (by kernel_rfl) (by kernel_rfl) ?_
    repeat (first | go_big_quiet_skip | (go_big_quiet_want; first | ((fail); (try simp only [Act.put, List.setIfInBounds_toArray, List.set_cons_zero, List.set_cons_succ]); go_big_quiet_on) | (go_big_quiet_op; first | go_big_quiet_on | go_big_quiet_call ((go_at_call 50; exact regrown_ext (HA.out _))))))
    refine wpQuiet_nil ?_
    intro _ hw'
    obtain ⟨pq, hw''⟩ := hw'
    subst hw''
    have hx : Ext W (Go.Sort.grow (redrawn W pq.d) pq.os) := ext_regrown _ _
    have R2 := HR.out.grow hx
    generalize (Go.Sort.grow (redrawn W pq.d) pq.os) = W2 at hx R2 ⊢
    have c1' := hx.cell c1
    have dp' := hx.cell dp
    have fg' := own_free R2.own p
    have R3 := R2.set hpn x HV.out
    have HR3 := Lib.hid R3
    clear R2 R3 z0 z1 z2 z3
    go_wp2
    go_ret
    exact ⟨rfl, HR3.out⟩
/-- A value and whether there is one, as the sums come back. -/
def SubsAt (w' : World) (v : Value) (o : Option (List Int)) : Prop := match o with
  | some l => IsInts w' .u64 v l
  | none => v = .slice none 0 0
theorem SubsAt.ext {w w' : World} {v : Value} {o : Option (List Int)} (h : SubsAt w v o) (hx : Ext w w') : SubsAt w' v o := by
  cases o with
  | none => exact h
  | some l => exact IsInts.ext h hx
set_option maxHeartbeats 2000000 in
theorem sub_w_any (A : Option Addr) (n c : Nat) (NS : List Node) (B : Option Addr) (m d : Nat) (l : List Int) (w : World) (h : NL w A n c NS) (hl : Ints w .u64 B m d l) :
    Calls Try.prog 23 #[.agg #[.slice A n c], .slice B m d] w fun e w' => (∃ v, e = .returned (.tuple #[v, .bool (Weight.subV NS l).isSome]) ∧ SubsAt w' v (Weight.subV NS l)) ∧ Ext w w' := by
  have hlen := h.len
  have hroom := h.row.room
  have hll := hl.len
  have hroom2 := hl.room
  have HV := Lib.hid (fun W (k : Ext w W) => h.ext k)
  have HM := Lib.hid (fun b (hb : Tree.mayV NS = b) W (k : Ext w W) => treeMay_is A n c NS b hb W (h.ext k))
  cases hm : Tree.mayV NS with
  | false =>
    have HM' := Lib.hid (fun W (kx : Ext w W) => HM.out false hm W kx)
    have e : Weight.subV NS l = none := by unfold Weight.subV; rw [hm]; simp
    rw [e]
    clear e h hl hm
    go_enter Try.func23, Try.ntmps23
    go_wp2_with fail
    refine (HM'.out _ ((by repeat (first | assumption | exact Ext.refl _ | refine Ext.alloc ?_ _ | refine Ext.drew ?_ | refine Ext.drewN ?_ _ | refine Ext.setCell ?_ (by first | (simp; done) | omega | (simp; omega)) _ | refine Ext.trans (by assumption) ?_)))).mono ?_
    rintro e w1 ⟨rfl, hx1⟩
    have k1 : Ext w w1 := Ext.trans ((by repeat (first | assumption | exact Ext.refl _ | refine Ext.alloc ?_ _ | refine Ext.drew ?_ | refine Ext.drewN ?_ _ | refine Ext.setCell ?_ (by first | (simp; done) | omega | (simp; omega)) _ | refine Ext.trans (by assumption) ?_))) hx1
    have t0 := hx1.cell (p := ⟨w.heap.size, 0, none⟩) (v := .slice A n c) (by first | (simp; done) | (simp (maxDischargeDepth := 7) [go_sem]; done))
    go_wp2
    go_ret2
    exact ⟨⟨_, rfl, rfl⟩, k1⟩
  | true =>
    have HM' := Lib.hid (fun W (kx : Ext w W) => HM.out true hm W kx)
    by_cases hnm : m = n
    · subst hnm
      have h12 := Tree.len_le hm
      have hpos := Tree.len_pos hm
      rw [hlen] at h12 hpos
      have HC := Lib.hid (fun W (kx : Ext w W) => clone64_any B m d l W (hl.ext kx))
      have HWF := Lib.hid hl.wf
      have HUP := Lib.hid (fun base Bs g c2 l' (i : Nat) (hi : i < m) b (hb : Weight.upB NS l' i = b) W (R : SumsR w W base Bs A m c g c2 l') => (by subst hb; exact up_any base Bs A m c g c2 l' NS hm i hi w W h R : Calls Try.prog 39 #[.pointer (some ⟨Bs, 0, none⟩), .int .i64 i] W fun e W' => e = .returned (.bool b) ∧ SumsR w W' base Bs A m c g c2 (Weight.upL NS l' i)))
      have HMA := Lib.hid hm
      have HLE := Lib.hid hlen
      have HLL := Lib.hid hll
      clear h hl hm hlen hll
      go_enter Try.func23, Try.ntmps23
      go_wp2_with fail
      refine (HM'.out _ ((by repeat (first | assumption | exact Ext.refl _ | refine Ext.alloc ?_ _ | refine Ext.drew ?_ | refine Ext.drewN ?_ _ | refine Ext.setCell ?_ (by first | (simp; done) | omega | (simp; omega)) _ | refine Ext.trans (by assumption) ?_)))).mono ?_
      rintro e w1 ⟨rfl, hx1⟩
      have k1 : Ext w w1 := Ext.trans ((by repeat (first | assumption | exact Ext.refl _ | refine Ext.alloc ?_ _ | refine Ext.drew ?_ | refine Ext.drewN ?_ _ | refine Ext.setCell ?_ (by first | (simp; done) | omega | (simp; omega)) _ | refine Ext.trans (by assumption) ?_))) hx1
      have t0 := hx1.cell (p := ⟨w.heap.size, 0, none⟩) (v := .slice A m c) (by first | (simp; done) | (simp (maxDischargeDepth := 7) [go_sem]; done))
      have T0 := Lib.hid t0
      have tl := lt_of_cell t0
      clear HM HM'
      go_wp2_with fail
      go_cut [6] (fun p wx => ∃ Bs g c2 : Nat, p = .pointer (some ⟨Bs, 0, none⟩) ∧ SumsR w wx w1.heap.size Bs A m c g c2 l)
      case first =>
        go_region_held3 (fun w' => w'.cell? ⟨w.heap.size, 0, none⟩ = some (.slice A m c)) (exact Ext.cell (by repeat (first | assumption | exact Ext.refl _ | refine Ext.alloc ?_ _ | refine Ext.drew ?_ | refine Ext.drewN ?_ _ | refine Ext.setCell ?_ (by first | (simp; done) | omega | (simp; omega)) _ | refine Ext.trans (by assumption) ?_)) T0.out) ((go_at_call 38; (with_reducible refine (HC.out _ (Ext.trans k1 (by repeat (first | assumption | exact Ext.refl _ | refine Ext.alloc ?_ _ | refine Ext.drew ?_ | refine Ext.drewN ?_ _ | refine Ext.setCell ?_ (by first | (simp; done) | omega | (simp; omega)) _ | refine Ext.trans (by assumption) ?_)))).mono ?_); rintro e2 w2 ⟨⟨v, rfl, hown⟩, hx2⟩; have hx3 : Ext w1 w2 := Ext.trans (by repeat (first | assumption | exact Ext.refl _ | refine Ext.alloc ?_ _ | refine Ext.drew ?_ | refine Ext.drewN ?_ _ | refine Ext.setCell ?_ (by first | (simp; done) | omega | (simp; omega)) _ | refine Ext.trans (by assumption) ?_)) hx2; obtain ⟨g, c2, rfl, hg⟩ := own_at hown hpos; have hz3 := hx3.size))
        have hlt := hown.lt g rfl
        go_wp2_with fail
        go_meet
        refine ⟨w2.heap.size, g, c2, rfl, ⟨k1.trans (hx3.alloc _), by simp, by simp, own_base (hown.alloc _) (Nat.le_refl _), ?_, ?_, ?_, HLL.out, HWF.out⟩⟩
        · have := k1.size; omega
        · have := k1.size; have := hlt.1; simp at this; omega
        · have := hlt.2; omega
      case rest =>
        obtain ⟨Bs, g, c2, rfl, R⟩ := hcut
        have hst : l = Weight.LW NS l m := by
          have := Weight.LW_start (T := NS) (l := l) (by rw [HLL.out, HLE.out]) (fun x hx => (bounds_u64 (HWF.out x hx)).1)
          rw [HLE.out] at this
          exact this.symm
        have HR := Lib.hid R
        have HST := Lib.hid hst
        clear R hst HC T0 t0 tl
        go_wp2
        go_loopw [8, 29] (fun _ i wr => ∃ k : Nat, k ≤ m ∧ i = .int .i64 k ∧ SumsR w wr w1.heap.size Bs A m c g c2 (Weight.LW NS l (m - k))) (fun _ i _ => m - (intOf i).toNat)
        case atStart => exact ⟨0, Nat.zero_le _, rfl, by rw [Nat.sub_zero, ← HST.out]; exact HR.out⟩
        case round =>
          obtain ⟨k, hk, rfl, R⟩ := hrel
          by_cases hlt : k < m
          · obtain ⟨i, hi⟩ : ∃ i, m - 1 - k = i := ⟨_, rfl⟩
            have him : i < m := by omega
            have hmk : m - k = i + 1 := by omega
            rw [hmk] at R
            have hint : (m : Int) - 1 - k = (i : Int) := by omega
            have HINT := Lib.hid hint
            have HMK := Lib.hid (show m - (k + 1) = i by omega)
            have g1 : (k : Int) < m := by omega
            have HRR := Lib.hid R
            clear R hi hmk hint
            cases hb : Weight.upB NS (Weight.LW NS l (i + 1)) i with
            | true =>
              have hs := Lib.hid (Weight.up_step HMA.out l (by rw [HLE.out]; exact him) hb)
              have HU := Lib.hid (fun W R => HUP.out w1.heap.size Bs g c2 _ i him true hb W R)
              clear hb
              go_wp2_with fail
              rw [HINT.out]
              refine (HU.out _ HRR.out).mono ?_
              rintro e2 w2 ⟨rfl, R2⟩
              rw [hs.out] at R2
              have HR2 := Lib.hid R2
              clear R2
              go_wp2
              go_roundw
              case rel => first | exact ⟨k + 1, by omega, by go_num, by rw [HMK.out]; exact HR2.out⟩ | (refine ⟨_, ⟨k + 1, by omega, ?_, by rw [HMK.out]; exact HR2.out⟩, rfl⟩; go_num)
              case measure => simp [intOf]; omega
            | false =>
              have hf := Weight.up_fail HMA.out l (by rw [HLE.out]; exact him) hb
              have hn : Hid (Weight.subV NS l = none) := by show _ = _; unfold Weight.subV; rw [if_neg]; exact fun h => hf h.2.2
              have HU := Lib.hid (fun W R => HUP.out w1.heap.size Bs g c2 _ i him false hb W R)
              clear hb hf
              go_wp2_with fail
              rw [HINT.out]
              refine (HU.out _ HRR.out).mono ?_
              rintro e2 w2 ⟨rfl, R2⟩
              have kx := R2.ext
              clear R2
              go_wp2
              go_ret2
              exact ⟨⟨_, by rw [hn.out]; rfl, by rw [hn.out]; rfl⟩, kx⟩
          · have e : k = m := by omega
            subst e
            rw [Nat.sub_self] at R
            have ht := Weight.total_end HMA.out l (R.at' hpos).2
            have hn : Hid (Weight.subV NS l = some (Weight.LW NS l 0)) := by
              show _ = _
              unfold Weight.subV
              rw [if_pos ⟨HMA.out, by rw [HLL.out, HLE.out], ht⟩, Weight.LW_end HMA.out]
            have c1 := R.c1
            have HRR := Lib.hid R
            clear R ht
            go_wp2
            go_ret2
            exact ⟨⟨_, by rw [hn.out]; rfl, by rw [hn.out]; exact isInts_own HRR.out.own (by omega) HRR.out.wf⟩, HRR.out.ext⟩
    · have e : Weight.subV NS l = none := by unfold Weight.subV; rw [if_neg]; rw [hll, hlen]; exact fun h => hnm h.2.1
      rw [e]
      have g1 : ((m : Int) != n) = true := by simp; omega
      clear e h hl hm hnm
      go_enter Try.func23, Try.ntmps23
      go_wp2_with fail
      refine (HM'.out _ ((by repeat (first | assumption | exact Ext.refl _ | refine Ext.alloc ?_ _ | refine Ext.drew ?_ | refine Ext.drewN ?_ _ | refine Ext.setCell ?_ (by first | (simp; done) | omega | (simp; omega)) _ | refine Ext.trans (by assumption) ?_)))).mono ?_
      rintro e w1 ⟨rfl, hx1⟩
      have k1 : Ext w w1 := Ext.trans ((by repeat (first | assumption | exact Ext.refl _ | refine Ext.alloc ?_ _ | refine Ext.drew ?_ | refine Ext.drewN ?_ _ | refine Ext.setCell ?_ (by first | (simp; done) | omega | (simp; omega)) _ | refine Ext.trans (by assumption) ?_))) hx1
      have t0 := hx1.cell (p := ⟨w.heap.size, 0, none⟩) (v := .slice A n c) (by first | (simp; done) | (simp (maxDischargeDepth := 7) [go_sem]; done))
      go_wp2
      go_ret2
      exact ⟨⟨_, rfl, rfl⟩, k1⟩
end Go.Proofs.Ytjhhfininnlkfaa
