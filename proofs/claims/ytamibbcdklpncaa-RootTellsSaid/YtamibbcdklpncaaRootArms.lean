/- Steps of plain regions with guards: wide loads, literals; a slice of two roots. -/
import Derived.Test.YtamibbcdklpncaaRootList
namespace Go.Proofs.Ytamibbcdklpncaa
open Go.RowKit Go.WideShapes Go.ChangeShapes
set_option linter.unusedVariables false
set_option linter.unusedSimpArgs false
section
variable {P : Program}
theorem at_load {ops : Array Oper} {rest : List Oper} {a : Act} {w : World} {Q : Exit → Act → World → Prop} {d : Option Tmp} {ty : TypeId} {x : Operand} {t : TypeId} {p : String} {f : Array Edge} {g : Option (Nat × Bool)} (h : wpList P ops Q ({ dst := d, op := .load ty x, type := t, pos := p, after := f, guard := g } :: rest) a w) : wpList P ops Q ({ dst := d, op := .load ty x, type := t, pos := p, after := f, guard := g } :: rest) a w := h
theorem at_store {ops : Array Oper} {rest : List Oper} {a : Act} {w : World} {Q : Exit → Act → World → Prop} {d : Option Tmp} {ty : TypeId} {x y : Operand} {t : TypeId} {p : String} {f : Array Edge} {g : Option (Nat × Bool)} (h : wpList P ops Q ({ dst := d, op := .store ty x y, type := t, pos := p, after := f, guard := g } :: rest) a w) : wpList P ops Q ({ dst := d, op := .store ty x y, type := t, pos := p, after := f, guard := g } :: rest) a w := h
theorem at_build {ops : Array Oper} {rest : List Oper} {a : Act} {w : World} {Q : Exit → Act → World → Prop} {d : Option Tmp} {ty : TypeId} {x : Array (Nat × Operand)} {t : TypeId} {p : String} {f : Array Edge} {g : Option (Nat × Bool)} (h : wpList P ops Q ({ dst := d, op := .build ty x, type := t, pos := p, after := f, guard := g } :: rest) a w) : wpList P ops Q ({ dst := d, op := .build ty x, type := t, pos := p, after := f, guard := g } :: rest) a w := h
theorem at_slice {ops : Array Oper} {rest : List Oper} {a : Act} {w : World} {Q : Exit → Act → World → Prop} {d : Option Tmp} {ty : TypeId} {n : Nat} {x : Array (Nat × Operand)} {t : TypeId} {p : String} {f : Array Edge} {g : Option (Nat × Bool)} (h : wpList P ops Q ({ dst := d, op := .buildSlice ty n x, type := t, pos := p, after := f, guard := g } :: rest) a w) : wpList P ops Q ({ dst := d, op := .buildSlice ty n x, type := t, pos := p, after := f, guard := g } :: rest) a w := h
theorem wpList_load_grd {ops : Array Oper} {rest : List Oper} {op : Oper} {a : Act} {w : World} {Q : Exit → Act → World → Prop} (hw : Region.wanted op (yielded ops a.tmps) = true) (ty : TypeId) (x : Operand) (ho : op.op = .load ty x)
    (b o : Nat) (hx : a.eval x = .pointer (some ⟨b, o, none⟩)) (cs : List Value) (d : TypeDesc) (hc : w.rangeAt b o cs)
    (hu : P.underlying ty = some d) (hd : d.isRow = true) (hi : (P.info? ty).map (·.size) = some cs.length)
    (h : wpList P ops Q rest (a.put op.dst (.agg cs.toArray)) w) : wpList P ops Q (op :: rest) a w :=
  wpList_step fun K hK => by
    rw [if_pos hw]
    exact wp_load_mid ty x ho b o hx cs d hc hu hd hi (hK _ _ h)
theorem wpList_build_grd {ops : Array Oper} {rest : List Oper} {o : Oper} {a : Act} {w : World} {Q : Exit → Act → World → Prop} (hw : Region.wanted o (yielded ops a.tmps) = true) (t : TypeId) (parts : Array (Nat × Operand)) (ho : o.op = .build t parts) (cells : Array Value)
    (hc : P.built t (parts.map fun (i, x) => (i, a.eval x)).toList = some cells) (h : wpList P ops Q rest (a.put o.dst (.agg cells)) w) : wpList P ops Q (o :: rest) a w :=
  wpList_step fun K hK => by
    rw [if_pos hw]
    unfold Oper.wp execOp
    simp only [ho, Sem.run_bind, run_build w t _ cells hc, Result.andThen_ok, Sem.run_pure]
    exact hK _ _ h
end
theorem foldput_size (off : Nat) : ∀ (cs : List Value) (k : Nat) (cur : Array Value), (List.foldl (fun (c : Array Value) (x : Value × Nat) => c.setIfInBounds (off + x.snd) x.fst) cur (cs.zipIdx k)).size = cur.size
  | [], _, _ => rfl
  | v :: cs, k, cur => by
    rw [List.zipIdx_cons, List.foldl_cons, foldput_size off cs]
    simp
theorem foldput_get (off : Nat) : ∀ (cs : List Value) (k : Nat) (cur : Array Value), off + k + cs.length ≤ cur.size → ∀ i, (List.foldl (fun (c : Array Value) (x : Value × Nat) => c.setIfInBounds (off + x.snd) x.fst) cur (cs.zipIdx k))[i]? = if off + k ≤ i ∧ i < off + k + cs.length then cs[i - (off + k)]? else cur[i]?
  | [], k, cur, _, i => by simp; omega
  | v :: cs, k, cur, h, i => by
    rw [List.zipIdx_cons, List.foldl_cons, foldput_get off cs (k + 1) _ (by simp at h ⊢; omega) i]
    have hl : (v :: cs).length = cs.length + 1 := rfl
    rw [hl] at h ⊢
    by_cases e : i = off + k
    · subst e
      rw [if_neg (by omega), if_pos (by omega), Nat.sub_self, Array.getElem?_setIfInBounds_self, if_pos (by omega)]
      rfl
    · by_cases e1 : off + k ≤ i ∧ i < off + k + (cs.length + 1)
      · rw [if_pos (by omega), if_pos e1, show i - (off + k) = (i - (off + (k + 1))) + 1 by omega]
        rfl
      · rw [if_neg (by omega), if_neg e1]
        simp [Array.getElem?_setIfInBounds, Ne.symm e]
theorem fold_two {cs ds : List Value} {cur : Array Value} (h : cs.length + ds.length = cur.size) {n : Nat} (hn : cs.length = n) :
    List.foldl (fun (c : Array Value) (x : Value × Nat) => c.setIfInBounds (n + x.snd) x.fst) (List.foldl (fun (c : Array Value) (x : Value × Nat) => c.setIfInBounds x.snd x.fst) cur cs.zipIdx) ds.zipIdx = (cs ++ ds).toArray := by
  subst hn
  have h0 := foldput_get 0 cs 0 cur (by omega)
  have hs := foldput_size 0 cs 0 cur
  simp only [Nat.zero_add, Nat.add_zero, Nat.sub_zero] at h0 hs
  refine Array.ext_getElem? fun i => ?_
  rw [foldput_get cs.length ds 0 _ (by rw [hs]; omega) i, h0 i]
  simp only [Nat.add_zero]
  have hr : (cs ++ ds).toArray[i]? = (cs ++ ds)[i]? := by simp
  rw [hr]
  by_cases e : i < cs.length
  · rw [if_neg (by omega), if_pos (by omega), List.getElem?_append_left e]
  · rw [List.getElem?_append_right (by omega)]
    by_cases e1 : i < cs.length + ds.length
    · rw [if_pos (by omega)]
    · rw [if_neg (by omega), if_neg (by omega), List.getElem?_eq_none (by omega), Array.getElem?_eq_none (by omega)]
theorem fold_size0 {cs : List Value} {cur : Array Value} : (List.foldl (fun (c : Array Value) (x : Value × Nat) => c.setIfInBounds x.snd x.fst) cur cs.zipIdx).size = cur.size := by
  have hs := foldput_size 0 cs 0 cur
  simpa using hs
set_option maxRecDepth 100000 in
theorem wp_buildR2 {op : Oper} {a : Act} {w : World} {K : Act → World → Prop} {Q : Exit → Act → World → Prop} (y y' : Nat) (ho : op.op = .buildSlice 24 2 #[(0, .tmp y), (1, .tmp y')]) (cs ds : List Value) (hy1 : a.eval (.tmp y) = .agg cs.toArray) (hy2 : a.eval (.tmp y') = .agg ds.toArray) (hl : cs.length = 32) (hm : ds.length = 32)
    (h : K (a.put op.dst (.slice (some ⟨w.heap.size, 0, none⟩) 2 2)) (w.alloc (.cells (cs ++ ds).toArray 23))) : op.wp Try.prog a w K Q := by
  have hzn := zeroRoot
  have hzs := zRoot_size
  have hze := zRoot_ne
  have hy : a.tmps[y]?.getD undef = .agg cs.toArray := by simpa [Act.eval] using hy1
  have hy' : a.tmps[y']?.getD undef = .agg ds.toArray := by simpa [Act.eval] using hy2
  unfold Oper.wp execOp
  simp only [ho]
  go_simp
  rw [if_neg (by rw [fold_size0]; exact fun h => Nat.lt_irrefl 64 h), fold_two (by rw [hl, hm]; rfl) hl]
  exact h
theorem wpList_buildR2 {ops : Array Oper} {rest : List Oper} {op : Oper} {a : Act} {w : World} {Q : Exit → Act → World → Prop} (hw : Region.wanted op (yielded ops a.tmps) = true) (y y' : Nat) (ho : op.op = .buildSlice 24 2 #[(0, .tmp y), (1, .tmp y')]) (cs ds : List Value) (hy1 : a.eval (.tmp y) = .agg cs.toArray) (hy2 : a.eval (.tmp y') = .agg ds.toArray) (hl : cs.length = 32) (hm : ds.length = 32) (B : Nat) (hB : B = w.heap.size)
    (h : wpList Try.prog ops Q rest (a.put op.dst (.slice (some ⟨B, 0, none⟩) 2 2)) (w.alloc (.cells (cs ++ ds).toArray 23))) : wpList Try.prog ops Q (op :: rest) a w :=
  wpList_step fun _ hK => by
    rw [if_pos hw]
    exact wp_buildR2 y y' ho cs ds hy1 hy2 hl hm (hB ▸ hK _ _ h)
end Go.Proofs.Ytamibbcdklpncaa
