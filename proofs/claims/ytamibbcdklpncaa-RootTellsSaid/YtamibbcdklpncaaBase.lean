/- Base: small lemmas that all texts of this seat use: worlds that have only grown, the last step of a law's row. -/
import Derived.Test.YtamibbcdklpncaaRows
import Derived.WalkKit
import Derived.WalkLawsBesides
import Derived.WalkSpells
import Derived.BigQuiet
import Derived.Lib.Hide
import Derived.Laws.StructEq
import Derived.Laws.Externs
import Derived.Deep.LoopGhost
import Derived.SizedLaws
import Derived.ProofKit
import Derived.OpenShut
import Derived.DeepKeys
import Derived.DeepKeys3
namespace Go.Proofs.Ytamibbcdklpncaa
open Go.RowKit Go.WideShapes Go.ChangeShapes

/-- The world has only grown: what lay there lies there still. -/
structure Ext (w w' : World) : Prop where mk :: (out : Below w.heap.size w w')
namespace Ext
theorem refl (w : World) : Ext w w := ⟨Below.refl _ _⟩
theorem trans {a b c : World} (h : Ext a b) (k : Ext b c) : Ext a c := ⟨h.out.trans (k.out.mono h.out.size)⟩
theorem alloc {a b : World} (h : Ext a b) (o : Obj) : Ext a (b.alloc o) := ⟨h.out.alloc h.out.size o⟩
theorem drew {a b : World} (h : Ext a b) : Ext a b.drew := ⟨h.out.drew⟩
theorem drewN {a b : World} (h : Ext a b) (n : Nat) : Ext a (b.drewN n) := ⟨⟨h.out.os, h.out.tape, h.out.output, h.out.size, h.out.block⟩⟩
theorem setCell {a b : World} (h : Ext a b) {p : Addr} (hp : a.heap.size ≤ p.block) (u : Value) : Ext a (b.setCell p u) := ⟨h.out.setCell hp u⟩
theorem grown {a b c : World} {row : Option Nat} (h : Ext a b) (hg : b.grownBy c row) (hr : ∀ k, row = some k → a.heap.size ≤ k) : Ext a c := ⟨h.out.grown hg h.out.size hr⟩
theorem size {a b : World} (h : Ext a b) : a.heap.size ≤ b.heap.size := h.out.size
theorem cell {a b : World} (h : Ext a b) {p : Addr} {v : Value} (hc : a.cell? p = some v) : b.cell? p = some v := (h.out.cell (World.block_lt_of_cell? a p hc)).trans hc
/-- What the walk wants of a world that has only grown: old cells and old marks read as before, an old cell that is written holds what was written (three rules), no block has gone. -/
theorem facts {W w1 : World} (h : Ext W w1) : (∀ b o, b < W.heap.size → w1.cell? ⟨b, o, none⟩ = W.cell? ⟨b, o, none⟩) ∧ (∀ b o, b < W.heap.size → w1.frozen? ⟨b, o, none⟩ = W.frozen? ⟨b, o, none⟩) ∧
    (∀ b o u, b < W.heap.size → (W.cell? ⟨b, o, none⟩).isSome = true → (w1.setCell ⟨b, o, none⟩ u).cell? ⟨b, o, none⟩ = some u) ∧ W.heap.size ≤ w1.heap.size :=
  ⟨fun b o hb => h.out.cell (p := ⟨b, o, none⟩) hb, fun b o hb => h.out.frozen (p := ⟨b, o, none⟩) hb, fun b o u hb hs => World.cell?_setCell_same' _ _ _ (by rw [h.out.cell (p := ⟨b, o, none⟩) hb]; exact hs), h.out.size⟩
end Ext

theorem calls_two {P : Program} {f : FuncId} {k : IntKind} {p q p' q' : Int} {w : World} {R : Ending → World → Prop} (hp : p = p') (hq : q = q') (c : Calls P f #[.int k p', .int k q'] w R) : Calls P f #[.int k p, .int k q] w R := by
  subst hp; subst hq; exact c
/-- A block of two cells that lay there lies there still. -/
theorem Ext.box2 {W w1 : World} (h : Ext W w1) {B : Nat} {a b : Value} (h0 : W.cell? ⟨B, 0, none⟩ = some a) (h1 : W.cell? ⟨B, 1, none⟩ = some b) (hf : ∀ o, W.frozen? ⟨B, o, none⟩ = false) :
    w1.cell? ⟨B, 0, none⟩ = some a ∧ w1.cell? ⟨B, 1, none⟩ = some b ∧ (∀ o, w1.frozen? ⟨B, o, none⟩ = false) :=
  ⟨h.cell h0, h.cell h1, fun o => (h.out.frozen (p := ⟨B, o, none⟩) (World.block_lt_of_cell? W ⟨B, 0, none⟩ h0)).trans (hf o)⟩
theorem Ext.box2d {W w1 : World} (h : Ext W.drew w1) {B : Nat} {a b : Value} (h0 : W.cell? ⟨B, 0, none⟩ = some a) (h1 : W.cell? ⟨B, 1, none⟩ = some b) (hf : ∀ o, W.frozen? ⟨B, o, none⟩ = false) :
    w1.cell? ⟨B, 0, none⟩ = some a ∧ w1.cell? ⟨B, 1, none⟩ = some b ∧ (∀ o, w1.frozen? ⟨B, o, none⟩ = false) := Ext.box2 h h0 h1 hf
theorem Ext.undrew {W w1 : World} (h : Ext W.drew w1) : Ext W w1 := ((Ext.refl W).drew).trans h
theorem below_of_ext {w w' : World} (h : Ext w w') : Below w.heap.size w w' := h.out

/-- The end of a walk that returns one value and has only grown the world. -/
theorem ret_ext {v u : Value} {w w' : World} (hv : v = u) (h : Ext w w') : Ending.returned v = Ending.returned u ∧ Ext w w' := ⟨by rw [hv], h⟩

section
variable {H : Type} {enc : TypeId × Value → H} {P : Program}
/-- The last step of a row whose call has only grown the world. -/
theorem post_law {f : Func} {s : ChangeSpec} {apart fresh handsOn : Bool} {W W' : World} {args : Array Value} {v : Value} {ds gs : List (DataW H)} {before pa pv : List MemPlace}
    (hW : DataW.Whole enc P f.params.toList s.vars apart W args.toList ds gs before)
    (hres : ∀ (b : Nat) (sp : Nat → Bool) (hd : Bool), DataW.TrodAll enc P W' b sp hd f.resultTypes.toList (v.resultList f.resultTypes.size) (s.fn H (ds ++ gs)).results [])
    (hargs : DataW.TrodAll enc P W' 0 (fun b => decide (b < W.heap.size)) true f.params.toList args.toList (s.fn H (ds ++ gs)).args pa)
    (hvars : DataW.TrodVars enc P W' (fun b => decide (b < W.heap.size)) s.vars (s.fn H (ds ++ gs)).vars pv)
    (hps : before = pa ++ pv) (hext : Ext W W') : s.post enc P f apart fresh handsOn false W args v W' := by
  refine ⟨ds, gs, before, [], pa, pv, hW, hres _ _ _, hargs, hvars, World.keptBut_mono (fun p hp => ⟨hp, ?_⟩) (hext.out.frame (· ∈ before)), fun h => by cases h⟩
  rw [hps, List.mem_append] at hp
  exact Or.inr hp
end

/-! ### '==' of arrays and structs of numbers -/
section
variable {P : Program}
def wideType (P : Program) (k : TypeId) : Bool := match P.underlying k with | some (.array _ _) | some (.struct _) => true | _ => false
/-- What may be compared: a key of the type. -/
def Keyed (P : Program) (k : TypeId) (x : Value) : Prop := ∃ l, keyOf P k x = some l
/-- The type is one of arrays and structs of numbers. -/
structure KeyT (P : Program) (k : TypeId) : Prop where
  at' : P.keyTypeAt 6 k = true
  tiled : P.tiled 6 k = true
  wide : wideType P k = true
  guard : P.eqGuardType P.depth k = false
theorem KeyT.law {k : TypeId} (h : KeyT P k) : WideMaps.KeyLaw P k := deep_law (m := 6) (by omega) h.at' h.tiled h.wide
theorem run_equal_key {k : TypeId} (h : KeyT P k) {x y : Value} (hx : Keyed P k x) (hy : Keyed P k y) {b : Bool} (hb : b = true ↔ x = y) (w : World) : (Op.equal k x y).run P w = .ok b w := by
  obtain ⟨lx, hx⟩ := hx
  obtain ⟨ly, hy⟩ := hy
  obtain ⟨r, hr, hi⟩ := run_equal_deep w (m := 6) (by omega) h.at' h.wide hx hy
  have e : r = b := by
    rw [Bool.eq_iff_iff, hi, hb]
    constructor
    · rintro rfl
      exact keyOf_inj_deep h.tiled h.wide hx hy
    · rintro rfl
      rw [hx] at hy
      exact Option.some.inj hy
  rw [hr, e]
theorem run_eql_key {k : TypeId} (h : KeyT P k) {xs ys : Array Value} (hx : Keyed P k (.agg xs)) (hy : Keyed P k (.agg ys)) {b : Bool} (hb : b = true ↔ Value.agg xs = Value.agg ys) (w : World) : (binOp .eql k (.agg xs) (.agg ys)).run P w = .ok (.bool b) w := by
  simp only [binOp, Sem.run_bind, run_equal_key h hx hy hb, Result.andThen_ok, Sem.run_pure]
theorem run_neq_key {k : TypeId} (h : KeyT P k) {xs ys : Array Value} (hx : Keyed P k (.agg xs)) (hy : Keyed P k (.agg ys)) {b : Bool} (hb : b = true ↔ Value.agg xs = Value.agg ys) (w : World) : (binOp .neq k (.agg xs) (.agg ys)).run P w = .ok (.bool (!b)) w := by
  simp only [binOp, Sem.run_bind, run_equal_key h hx hy hb, Result.andThen_ok, Sem.run_pure]
end

/-- A whole number from 0 on, below 2^64. -/
def IsU64 (v : Value) (n : Nat) : Prop := v = .int .u64 (n : Int) ∧ n < 18446744073709551616
/-- A whole number of 64 bits. -/
def IsI64 (v : Value) (n : Int) : Prop := v = .int .i64 n ∧ -9223372036854775808 ≤ n ∧ n ≤ 9223372036854775807

section
variable {H : Type} {enc : TypeId × Value → H} {P : Program} {w : World} {base : Nat} {spare : Nat → Bool} {held : Bool}
theorem open_U64 {b0 : Nat} {t : TypeId} {v : Value} {d : DataW H} {ps : List MemPlace} (ht : P.underlying t = some (.int .u64)) (hval : Value.okWide P w .any b0 t v) (hd : DataW.Trod enc P w base spare held t v d ps) : ∃ n, IsU64 v n := by
  obtain ⟨x, rfl, rfl, rfl, wx⟩ := open_int ht hval hd
  have h := bounds_u64 wx
  exact ⟨x.toNat, by rw [Int.toNat_of_nonneg h.1], by omega⟩
theorem open_I64 {b0 : Nat} {t : TypeId} {v : Value} {d : DataW H} {ps : List MemPlace} (ht : P.underlying t = some (.int .i64)) (hval : Value.okWide P w .any b0 t v) (hd : DataW.Trod enc P w base spare held t v d ps) : ∃ n, IsI64 v n := by
  obtain ⟨x, rfl, rfl, rfl, wx⟩ := open_int ht hval hd
  have h := bounds_i64 wx
  exact ⟨x, rfl, by omega, by omega⟩
end
theorem own : ownKnob Try.prog.godebug = none := by kernel_rfl
theorem laidOut : laidOutB Try.prog = true := by kernel_rfl
end Go.Proofs.Ytamibbcdklpncaa
