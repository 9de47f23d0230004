/- Layer 14: who voted otherwise, in plain terms; a range over a function that hands on two numbers and only lays memory between them. -/
import Derived.Test.YtjhhfininnlkfaaTree
import Derived.Test.YtjhhfininnlkfaaVote
import Derived.Test.YtjhhfininnlkfaaStakeB
import Derived.Test.YtjhhfininnlkfaaWeight
import Derived.Test.YtjhhfininnlkfaaStakeBits
import Derived.Sort.BigQuietIn
namespace Go.Proofs.Ytjhhfininnlkfaa
open Go.RowKit Go.WideShapes Go.ChangeShapes
set_option linter.unusedVariables false
set_option linter.unusedSimpArgs false
namespace Delta
def newB (v but : List Lat) (k : Nat) : Bool := (v.getD k Lat.none).has && !(decide (k < but.length) && (but.getD k Lat.none).eqb (v.getD k Lat.none))
def hasB (T : List Node) (v but : List Lat) (k : Nat) : Bool := newB v but k && decide ((v.getD k Lat.none).root ∈ Tree.roots T)
def plc (T : List Node) (v : List Lat) (k : Nat) : Nat := (Tree.roots T).idxOf (v.getD k Lat.none).root
def pairs (T : List Node) (v but : List Lat) (n : Nat) : List (Nat × Nat) := ((List.range n).filter (hasB T v but)).map (fun k => (k, plc T v k))
theorem pairs_yes {T : List Node} {v but : List Lat} {k : Nat} (h : hasB T v but k = true) : pairs T v but (k + 1) = pairs T v but k ++ [(k, plc T v k)] := by
  unfold pairs; rw [List.range_succ, List.filter_append, List.map_append]; simp [h]
theorem pairs_no {T : List Node} {v but : List Lat} {k : Nat} (h : hasB T v but k = false) : pairs T v but (k + 1) = pairs T v but k := by
  unfold pairs; rw [List.range_succ, List.filter_append, List.map_append]; simp [h]
theorem pairs_pre {T : List Node} {v but : List Lat} {k n : Nat} (h : k ≤ n) : pairs T v but k <+: pairs T v but n := by
  obtain ⟨d, rfl⟩ : ∃ d, n = k + d := ⟨n - k, by omega⟩
  induction d with
  | zero => exact List.prefix_refl _
  | succ d ih =>
    have ih' := ih (by omega)
    rw [← Nat.add_assoc]
    cases hb : hasB T v but (k + d) with
    | true => rw [pairs_yes hb]; exact ih'.trans (List.prefix_append _ _)
    | false => rw [pairs_no hb]; exact ih'
theorem pairs_mem {T : List Node} {v but : List Lat} {n : Nat} {x : Nat × Nat} (h : x ∈ pairs T v but n) : x.1 < n ∧ x.2 < T.length := by
  unfold pairs at h
  obtain ⟨k, hk, rfl⟩ := List.mem_map.1 h
  obtain ⟨h1, h2⟩ := List.mem_filter.1 hk
  refine ⟨List.mem_range.1 h1, ?_⟩
  unfold hasB at h2
  simp at h2
  have := List.idxOf_lt_length_of_mem h2.2
  unfold plc
  unfold Tree.roots at this ⊢
  simpa using this
theorem pairs_len (T : List Node) (v but : List Lat) (n : Nat) : (pairs T v but n).length ≤ n := by
  unfold pairs
  rw [List.length_map]
  exact Nat.le_trans (List.length_filter_le _ _) (by simp)
end Delta
section
variable {F : Fence} {n : Nat} {P : Program}
theorem wpIn_load_mid {op : Oper} {a : Act} {w : World} {K : Act → World → Prop} {Q : Exit → Act → World → Prop} (ty : TypeId) (x : Operand) (ho : op.op = .load ty x)
    (b o : Nat) (hx : a.eval x = .pointer (some ⟨b, o, none⟩)) (cs : List Value) (d : TypeDesc) (hc : w.rangeAt b o cs)
    (hu : P.underlying ty = some d) (hd : d.isRow = true) (hi : (P.info? ty).map (·.size) = some cs.length)
    (h : K (a.put op.dst (.agg cs.toArray)) w) : op.wpIn F n P a w K Q := by
  refine ⟨fun f hf => ?_, ?_⟩
  · simp [Oper.about, ho] at hf
  · rw [Oper.semAt_eq _ _ _ (by simp [ho])]
    unfold execOp
    simp only [ho, hx, Instr.loadAt, Instr.sureAddr, Sem.run_bind, Sem.run_pure, Result.andThen_ok, run_loadVar_mid w b o ty cs d hc hu hd hi]
    exact h
theorem wpListIn_load_mid {ops : Array Oper} {rest : List Oper} {op : Oper} {a : Act} {w : World} {Q : Exit → Act → World → Prop} (hgd : op.guard = none) (ty : TypeId) (x : Operand) (ho : op.op = .load ty x)
    (b o : Nat) (hx : a.eval x = .pointer (some ⟨b, o, none⟩)) (cs : List Value) (d : TypeDesc) (hc : w.rangeAt b o cs)
    (hu : P.underlying ty = some d) (hd : d.isRow = true) (hi : (P.info? ty).map (·.size) = some cs.length)
    (h : wpListIn F n P ops Q rest (a.put op.dst (.agg cs.toArray)) w) : wpListIn F n P ops Q (op :: rest) a w :=
  wpListIn_plain hgd fun _ hK => wpIn_load_mid ty x ho b o hx cs d hc hu hd hi (hK _ _ h)
theorem wpListIn_store_mid {ops : Array Oper} {rest : List Oper} {op : Oper} {a : Act} {w : World} {Q : Exit → Act → World → Prop} (hgd : op.guard = none) (ty : TypeId) (x y : Operand) (ho : op.op = .store ty x y)
    (b o : Nat) (cells : Array Value) (hx : a.eval x = .pointer (some ⟨b, o, none⟩)) (hy : a.eval y = .agg cells)
    (ht : w.there b o cells.size) (hi : (P.info? ty).map (·.size) = some cells.size) (h1 : cells.all (·.oneCell') = true)
    (h : wpListIn F n P ops Q rest (a.put op.dst undef) (w.setCells b o cells.toList)) : wpListIn F n P ops Q (op :: rest) a w := by
  refine wpListIn_plain hgd fun K hK => ?_
  refine ⟨fun f hf => ?_, ?_⟩
  · simp [Oper.about, ho] at hf
  · rw [Oper.semAt_eq _ _ _ (by simp [ho])]
    unfold execOp
    simp only [ho, hx, hy, Instr.storeAt, Instr.sureAddr, Sem.run_bind, Sem.run_pure, Result.andThen_ok, run_storeVar_mid w b o ty cells ht hi h1]
    exact hK _ _ h
theorem quietIn_load_mid {o : Oper} {a : Act} {C : World → Prop} {next : Act → Prop} (ty : TypeId) (x : Operand) (ho : o.op = .load ty x) (b off : Nat) (hx : a.eval x = .pointer (some ⟨b, off, none⟩)) (cs : List Value) (d : TypeDesc) (hc : ∀ w, C w → w.rangeAt b off cs)
    (hu : P.underlying ty = some d) (hd : d.isRow = true) (hi : (P.info? ty).map (·.size) = some cs.length) (h : next (a.put o.dst (.agg cs.toArray))) : o.quietIn F n P a C next :=
  ⟨_, fun w hw => by
    unfold Oper.quietAtIn execOp
    simp only [ho, hx, Instr.loadAt, Instr.sureAddr, Sem.run_bind, Sem.run_pure, Result.andThen_ok, run_loadVar_mid w b off ty cs d (hc w hw) hu hd hi]
    exact ⟨rfl, rfl⟩, h⟩
/-- How a round's body may be left here: it goes on; what is no cells lies as it lay. -/
def pairPost (I : List (Nat × Nat) → World → Prop) (xs : List (Nat × Nat)) (W : World) : Exit → Act → World → Prop
  | .normal, _, W' => KeepsOthers W W' ∧ I xs W'
  | _, _, _ => False
/-- What an iterator over pairs owes that only lays memory. -/
def PairIter (F : Fence) (n : Nat) (P : Program) (gf : Nat) (lb : Array Value) (xs : List (Nat × Nat)) (T : World → Prop) : Prop :=
  ∀ (l : Nat) (J : List (Nat × Nat) → World → Prop) (W : World), (∀ s A, J s A → T A) → (∀ s A A', J s A → Ext A A' → J s A') →
    (∀ pre x W1, J pre W1 → (pre ++ [x]) <+: xs → YieldAt F (n - 1) P l #[.int .i64 (x.1 : Nat), .int .i64 (x.2 : Nat)] W1 fun e W' => e = .returned (.bool true) ∧ J (pre ++ [x]) W') → J [] W →
    CallsIn F n P gf (#[.func (.yield l) #[] #[]] ++ lb) W fun e W' => (∃ v, e = .returned v) ∧ J xs W'
theorem range_pair {g : Operand} {p q : Tmp} {assign body : Code} {Q : Exit → Act → World → Prop} {a : Act} {w : World}
    (hro : F.round = none) (h1 : 1 ≤ n) {gf : Nat} {lb : Array Value} (hg : a.eval g = .func (.func gf) #[] lb) (hFg : F.fn gf) (eg : ∀ args w, (callFunc gf args).run P w = .ok (.enter gf args) w)
    {xs : List (Nat × Nat)} {T : World → Prop} (hit : PairIter F (n - 1) P gf lb xs T)
    (I : List (Nat × Nat) → World → Prop) (hI : OwnFrom w.heap.size I) (hset : ∀ s A A', I s A → Ext A A' → I s A') (h0 : I [] w) (hIT : ∀ s A, I s A → T A) (a₁ : Nat × Nat → Act)
    (hassign : ∀ (l : Nat) (x : Nat × Nat) (W : World) (K : Act → World → Prop), K (a₁ x) W →
      assign.wpIn (F.inRound l) (n - 1 - 1) P (Exit.then K (fun _ _ _ => False)) { tmps := ((#[p, q] : Array Tmp).zip #[Value.int .i64 (x.1 : Nat), Value.int .i64 (x.2 : Nat)]).foldl (fun t (p, v) => t.setIfInBounds p v) a.tmps, defers := [] } W)
    (hbody : ∀ (l : Nat) (pre : List (Nat × Nat)) (x : Nat × Nat) (W : World), I pre W → (pre ++ [x]) <+: xs → body.wpIn (F.inRound l) (n - 1 - 1) P (pairPost I (pre ++ [x]) W) (a₁ x) W)
    (hdone : ∀ (D : Nat) (W : World), w.heap.size ≤ D → I xs W → W.heap[D]? = some (.deferred (some [])) → Q .normal { a with defers := { target := .collected D, args := #[] } :: a.defers } W) :
    (Code.rangeFunc g #[p, q] assign body).wpIn F n P Q a w := by
  refine wpIn_rangeFunc ?_
  intro fn hfn
  rw [hro]
  obtain ⟨rec, hrec⟩ : ∃ rec : LoopState → Option Code → Loop, rec = fun st pe => { state := st, pending := pe, fn, tmps := a.tmps, params := #[p, q], assign, body, defers := w.heap.size } := ⟨_, rfl⟩
  obtain ⟨W1, hW1⟩ : ∃ W1, (w.alloc (.deferred (some []))).alloc (.loop (rec .ready none)) = W1 := ⟨_, rfl⟩
  have hl1 : W1.heap[w.heap.size + 1]? = some (.loop (rec .ready none)) := by
    have := World.alloc_heap_new (w.alloc (.deferred (some []))) (.loop (rec .ready none))
    rw [World.size_alloc] at this
    rw [← hW1]; exact this
  have hk1 : W1.heap[w.heap.size]? = some (.deferred (some [])) := by
    rw [← hW1]; exact (Below.heap_alloc _ _ _ (by simp)).trans (World.alloc_heap_new w _)
  have hi1 : I [] W1 := by rw [← hW1]; exact hI.alloc _ (hI.alloc _ h0)
  refine ⟨w.heap.size + 1, [{ target := .collected w.heap.size, args := #[] }], W1, { target := .fn (.func gf) lb, args := #[.func (.yield (w.heap.size + 1)) #[] #[]] }, W1, gf, #[.func (.yield (w.heap.size + 1)) #[] #[]] ++ lb, W1, ?_, ?_, ?_, ?_, fun _ => h1, ?_⟩
  · rw [← hW1, hrec]; exact run_enterLoop_outer _ _ _ _ _
  · simp only [resolve, hg]; simp [go_sem]
  · intro f' hf'; simp [Target.leads] at hf'; subst hf'; exact hFg
  · simp [invoke, go_sem, eg]
  · refine (hit (w.heap.size + 1) (fun pre W => I pre W ∧ W.heap[w.heap.size + 1]? = some (.loop (rec .ready none)) ∧ W.heap[w.heap.size]? = some (.deferred (some []))) W1 (fun s A h => hIT s A h.1) ?_ ?_ ⟨hi1, hl1, hk1⟩).mono ?_
    · intro s A A' ⟨i1, i2, i3⟩ hx
      exact ⟨hset s A A' i1 hx, (hx.out.block _ (Array.getElem?_eq_some_iff.1 i2).1).trans i2, (hx.out.block _ (Array.getElem?_eq_some_iff.1 i3).1).trans i3⟩
    · intro pre x W ⟨i1, i2, i3⟩ hpx
      have hlt : w.heap.size + 1 < W.heap.size := (Array.getElem?_eq_some_iff.1 i2).1
      have hy := run_yield (P := P) (args := #[.int .i64 (x.1 : Nat), .int .i64 (x.2 : Nat)]) i2 (by rw [hrec]; rfl)
      rw [hrec] at hy
      refine ⟨fn, _, assign, body, hy, roundIn_of_wpIn hfn (hassign _ x W _ ⟨_, run_beginRound i2 (by rw [hrec]), ?_⟩)⟩
      have j2 : (W.putObj (w.heap.size + 1) (.loop { rec .ready none with state := .busy })).heap[w.heap.size + 1]? = some (.loop { rec .ready none with state := .busy }) := World.putObj_heap_same hlt
      have j3 : (W.putObj (w.heap.size + 1) (.loop { rec .ready none with state := .busy })).heap[w.heap.size]? = some (.deferred (some [])) := (World.putObj_heap_other (by omega)).trans i3
      refine wpIn_mono (hbody _ pre x _ (hI.putObj _ i1 (by omega) i2 rfl) hpx) ?_
      rintro e a3 W3 hp
      cases e <;> first | exact hp.elim | skip
      obtain ⟨hk3, hi3⟩ := hp
      have l3 := hk3.same _ _ j2 rfl
      have hr := run_endRound (P := P) none l3
      refine ⟨_, _, hr, rfl, ⟨hI.putObj _ hi3 (by omega) l3 rfl, ?_, (World.putObj_heap_other (by omega)).trans (hk3.same _ _ j3 rfl)⟩⟩
      have := World.putObj_heap_same (w := W3) (o := .loop { rec .ready none with state := .ready, pending := none }) (Array.getElem?_eq_some_iff.1 l3).1
      rw [hrec] at this ⊢
      exact this
    · rintro e W2 ⟨⟨v, rfl⟩, i1, i2, i3⟩
      have hend := run_endLoop (P := P) i2 (by rw [hrec]; simp)
      rw [hrec] at hend
      exact ⟨none, _, hend, hdone _ _ (Nat.le_refl _) (hI.putObj _ i1 (by omega) i2 rfl) ((World.putObj_heap_other (by omega)).trans i3)⟩
end
end Go.Proofs.Ytjhhfininnlkfaa
