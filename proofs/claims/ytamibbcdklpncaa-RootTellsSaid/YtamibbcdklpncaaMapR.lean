/- Maps keyed by roots: places by roots; sets of roots. What a look-up, a store, a count yield, told by the list of keys that were stored. -/
import Derived.Test.YtamibbcdklpncaaLat
import Derived.Maps.OwnOps
import Derived.Maps.OwnSet
import Derived.Maps.AppendAt
namespace Go.Proofs.Ytamibbcdklpncaa
open Go.RowKit Go.WideShapes Go.ChangeShapes
set_option linter.unusedVariables false
set_option linter.unusedSimpArgs false

theorem keyLaw : Maps.Keyed Try.prog 23 := Maps.Keyed.of_law root_keyT.law
/-- A root as a key. -/
noncomputable def keyL (r : List Int) : Lit := (keyOf Try.prog 23 (.agg (rootC r).toArray)).getD (.bool true)
theorem key_is {r : List Int} (h : RootOk r) : keyOf Try.prog 23 (.agg (rootC r).toArray) = some (keyL r) := by
  obtain ⟨l, hl⟩ := root_keyed h
  unfold keyL
  rw [hl]; rfl
theorem keyL_inj {r s : List Int} (h : RootOk r) (g : RootOk s) (e : keyL r = keyL s) : r = s := by
  have a := key_is h
  have b := key_is g
  rw [e] at a
  have := keyLaw.inj a b
  simp only [Value.agg.injEq] at this
  exact rootC_inj.1 this
theorem keyL_key {r : List Int} (h : RootOk r) : WideAt.IsKeyLit (keyL r) := keyLaw.key (key_is h)
/-- Places by roots: block B is a map in which these were stored one behind the other, each with its place. -/
structure IMap (w : World) (B : Nat) (R : List (List Int)) (D : DataW Unit) : Prop where
  own : w.ownsMap Try.prog 23 (plainElem Try.prog 3) B R.length D
  has : ∀ r, RootOk r → Maps.has D (keyL r) = decide (r ∈ R)
  val : ∀ j r, R[j]? = some r → RootOk r → r ∉ R.drop (j + 1) → D.atKey (keyL r) (.lit (.int .i64 0)) = .lit (.int .i64 j)
  len : Maps.size D ≤ R.length ∧ (Maps.size D = R.length ↔ R.Nodup)
namespace IMap
variable {w w' : World} {B : Nat} {R : List (List Int)} {D : DataW Unit}
theorem made (w : World) : IMap (w.alloc (.map #[] 0)) w.heap.size [] (.map []) :=
  ⟨World.ownsMap_made w _ _ _, fun r _ => rfl, fun j r h => by simp at h, by simp [Maps.size]⟩
theorem put {r : List Int} (h : IMap w B R D) (hr : RootOk r) (hR : ∀ s ∈ R, RootOk s) (hown : w'.ownsMap Try.prog 23 (plainElem Try.prog 3) B (R.length + 1) (D.put (keyL r) (.lit (.int .i64 R.length)))) :
    IMap w' B (R ++ [r]) (D.put (keyL r) (.lit (.int .i64 R.length))) := by
  have hm := h.own.isMap
  have ht := h.own.tidy keyLaw
  have hk := keyL_key hr
  refine ⟨by simpa using hown, fun s hs => ?_, fun j s hj hs hno => ?_, ?_⟩
  · by_cases e : s = r
    · subst e
      rw [Maps.has_put_same hm hk]; simp
    · rw [Maps.has_put_other (fun e' => e (keyL_inj hs hr e')), h.has s hs]
      simp [e]
  · by_cases hlt : j < R.length
    · rw [List.getElem?_append_left hlt] at hj
      rw [List.drop_append_of_le_length (by omega)] at hno
      have e : s ≠ r := fun e => hno (by simp [e])
      rw [Maps.atKey_put_other (fun e' => e (keyL_inj hs hr e'))]
      exact h.val j s hj hs (fun hm => hno (by simp [hm]))
    · have e : j = R.length := by
        have := (List.getElem?_eq_some_iff.1 hj).1
        simp at this; omega
      subst e
      simp at hj
      subst hj
      rw [Maps.atKey_put_same hm hk]
  · rw [Maps.size_put ht, h.has r hr]
    obtain ⟨h1, h2⟩ := h.len
    by_cases hmem : r ∈ R
    · rw [decide_eq_true hmem]
      simp only [if_true, List.length_append, List.length_singleton]
      refine ⟨by omega, ⟨fun e => by omega, fun e => ?_⟩⟩
      have := (List.nodup_append.1 e).2.2 r hmem r (by simp)
      exact absurd rfl this
    · rw [decide_eq_false hmem]
      simp only [Bool.false_eq_true, if_false, List.length_append, List.length_singleton]
      refine ⟨by omega, ?_⟩
      rw [List.nodup_append]
      constructor
      · intro e
        refine ⟨h2.1 (by omega), by simp, fun a ha b hb e => ?_⟩
        rw [List.mem_singleton.1 hb] at e
        exact hmem (e ▸ ha)
      · intro e
        have := h2.2 e.1
        omega
theorem ext (h : IMap w B R D) (hx : Ext w w') : IMap w' B R D :=
  ⟨h.own.kept (row := none) ⟨hx.out.os, hx.out.tape, hx.out.output, hx.out.size, fun i hi _ => hx.out.block i hi⟩ (by simp), h.has, h.val, h.len⟩
end IMap
theorem elemI {x : Int} (h : (Lit.int .i64 x).wf = true) : plainElem (H := Unit) Try.prog 3 (.int .i64 x) = some (.lit (.int .i64 x), []) := plainElem_int Try.underlying3 h
theorem zeroI (w : World) : (zeroValue 3).run Try.prog w = .ok (.int .i64 0) w := by kernel_rfl
/-- A set of roots: block B is a map in which these were stored, each with yes. -/
structure BMap (w : World) (B n : Nat) (R : List (List Int)) (D : DataW Unit) : Prop where
  own : w.ownsMap Try.prog 23 (plainElem Try.prog 4) B n D
  has : ∀ r, RootOk r → D.atKey (keyL r) (.lit (.bool false)) = .lit (.bool (decide (r ∈ R)))
namespace BMap
variable {w w' : World} {B n : Nat} {R : List (List Int)} {D : DataW Unit}
theorem made (w : World) : BMap (w.alloc (.map #[] 0)) w.heap.size 0 [] (.map []) := ⟨World.ownsMap_made w _ _ _, fun r _ => by simp [DataW.atKey]⟩
theorem put {r : List Int} (h : BMap w B n R D) (hr : RootOk r) (hown : w'.ownsMap Try.prog 23 (plainElem Try.prog 4) B (n + 1) (D.put (keyL r) (.lit (.bool true)))) :
    BMap w' B (n + 1) (R ++ [r]) (D.put (keyL r) (.lit (.bool true))) := by
  have hm := h.own.isMap
  have hk := keyL_key hr
  refine ⟨hown, fun s hs => ?_⟩
  by_cases e : s = r
  · subst e
    rw [Maps.atKey_put_same hm hk]; simp
  · rw [Maps.atKey_put_other (fun e' => e (keyL_inj hs hr e')), h.has s hs]
    simp [e]
theorem ext (h : BMap w B n R D) (hx : Ext w w') : BMap w' B n R D :=
  ⟨h.own.kept (row := none) ⟨hx.out.os, hx.out.tape, hx.out.output, hx.out.size, fun i hi _ => hx.out.block i hi⟩ (by simp), h.has⟩
end BMap
theorem plainElem_bool_inv {P : Program} {e : TypeId} (he : P.underlying e = some .bool) {v : Value} {z : DataW Unit × List MemPlace} (h : plainElem P e v = some z) : ∃ a, v = .bool a ∧ z = (.lit (.bool a), []) := by
  unfold plainElem at h
  rw [he] at h
  cases v <;> simp at h
  subst h
  exact ⟨_, rfl, rfl⟩
theorem zeroB (w : World) : (zeroValue 4).run Try.prog w = .ok (.bool false) w := by kernel_rfl
/-- A look-up in a set. -/
theorem BMap.look {w : World} {B n : Nat} {R : List (List Int)} {D : DataW Unit} (h : BMap w B n R D) {r : List Int} (hr : RootOk r) : (Instr.lookup 40 (.map (some B)) (.agg (rootC r).toArray) false).run Try.prog w = .ok (.bool (decide (r ∈ R))) w := by
  obtain ⟨v, ps, hrun, hv⟩ := h.own.lookup (t := 40) keyLaw Try.underlying40 (zeroB w) (plainElem_bool Try.underlying4 false) (key_is hr)
  obtain ⟨a, rfl, e⟩ := plainElem_bool_inv Try.underlying4 hv
  rw [hrun]
  have := congrArg Prod.fst e
  simp only [h.has r hr] at this
  simp at this
  rw [this]














































end Go.Proofs.Ytamibbcdklpncaa
