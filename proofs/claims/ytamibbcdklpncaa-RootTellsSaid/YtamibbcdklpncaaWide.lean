/- Slices of elements of more than one cell; roots; '==' of arrays and structs of numbers, on opaque cells. -/
import Derived.Test.YtamibbcdklpncaaRow
import Derived.Deep.MidRow
import Derived.BigQuiet
namespace Go.Proofs.Ytamibbcdklpncaa
open Go.RowKit Go.WideShapes Go.ChangeShapes
set_option linter.unusedVariables false
set_option linter.unusedSimpArgs false

/-! ### ranges of cells -/
theorem rangeAt_ext {w w' : World} {b o : Nat} {cs : List Value} (h : w.rangeAt b o cs) (hx : Ext w w') : w'.rangeAt b o cs := fun j v hv => hx.cell (h j v hv)
theorem rangeAt_part {w : World} {b o : Nat} {xs ys zs : List Value} (h : w.rangeAt b o (xs ++ ys ++ zs)) {k : Nat} (hk : xs.length = k) : w.rangeAt b (o + k) ys := fun j v hv => by
  subst hk
  have hj : j < ys.length := (List.getElem?_eq_some_iff.1 hv).1
  have := h (xs.length + j) v (by rw [List.append_assoc, List.getElem?_append_right (by omega), Nat.add_sub_cancel_left, List.getElem?_append_left hj]; exact hv)
  rwa [← Nat.add_assoc] at this
theorem rangeAt_head {w : World} {b o : Nat} {cs : List Value} (h : w.rangeAt b o cs) {j : Nat} {v : Value} (hv : cs[j]? = some v) : w.cell? ⟨b, o + j, none⟩ = some v := h j v hv
theorem range_new (w : World) (cs : List Value) (e : TypeId) : (w.alloc (.cells cs.toArray e)).rangeAt w.heap.size 0 cs := fun j v hv => by
  rw [cell_of_row _ w.heap.size (0 + j) cs.toArray e (0, 0) (heap_alloc_new w _)]
  simpa using hv
theorem frozen_new (w : World) (cs : Array Value) (e : TypeId) (o : Nat) : (w.alloc (.cells cs e)).frozen? ⟨w.heap.size, o, none⟩ = false := by simp
theorem heap_modify_size (a : Array Obj) (i : Nat) (f : Obj → Obj) : (a.modify i f).size = a.size := Array.size_modify ..
/-- A store of a whole value into a block that has just been laid. -/
theorem setCell_alloc (w : World) (cur : Array Value) (e : TypeId) (i : Nat) (v : Value) : (w.alloc (.cells cur e)).setCell ⟨w.heap.size, i, none⟩ v = w.alloc (.cells (cur.setIfInBounds i v) e) := by
  simp [go_sem]
def putAll : List Value → Nat → Array Value → Array Value
  | [], _, cur => cur
  | v :: r, o, cur => putAll r (o + 1) (cur.setIfInBounds o v)
theorem setCells_alloc' : ∀ (cs : List Value) (w : World) (cur : Array Value) (e : TypeId) (o : Nat), (w.alloc (.cells cur e)).setCells w.heap.size o cs = w.alloc (.cells (putAll cs o cur) e) := by
  intro cs
  induction cs with
  | nil => intro w cur e o; rfl
  | cons v cs ih =>
    intro w cur e o
    show ((w.alloc (.cells cur e)).setCell ⟨w.heap.size, o, none⟩ v).setCells w.heap.size (o + 1) cs = _
    rw [setCell_alloc, ih]
    rfl
theorem putAll_list : ∀ (cs : List Value) (o : Nat) (cur : Array Value), o + cs.length ≤ cur.size → (putAll cs o cur).toList = cur.toList.take o ++ cs ++ cur.toList.drop (o + cs.length) := by
  intro cs
  induction cs with
  | nil => intro o cur h; simp [putAll]
  | cons v cs ih =>
    intro o cur h
    simp only [List.length_cons] at h
    show (putAll cs (o + 1) (cur.setIfInBounds o v)).toList = _
    rw [ih _ _ (by simp; omega)]
    simp only [Array.toList_setIfInBounds, List.length_cons]
    have h1 : (cur.toList.set o v).take (o + 1) = cur.toList.take o ++ [v] := by
      rw [List.take_succ_eq_append_getElem (by simp; omega), List.take_set_of_le (by omega)]
      simp
    have h2 : (cur.toList.set o v).drop (o + 1 + cs.length) = cur.toList.drop (o + (cs.length + 1)) := by
      rw [List.drop_set_of_lt (by omega)]
      congr 1
      omega
    rw [h1, h2]
    simp
theorem setCells_alloc {w : World} {cur : Array Value} {e : TypeId} {cs : List Value} (h : cs.length = cur.size) : (w.alloc (.cells cur e)).setCells w.heap.size 0 cs = w.alloc (.cells cs.toArray e) := by
  rw [setCells_alloc']
  congr 2
  apply Array.toList_inj.1
  rw [putAll_list _ _ _ (by omega)]
  simp [h]

theorem fold_put : ∀ (cs : List Value) (o k : Nat) (cur : Array Value), (cs.zipIdx k).foldl (fun (c : Array Value) (x : Value × Nat) => c.setIfInBounds (o + x.2) x.1) cur = putAll cs (o + k) cur := by
  intro cs
  induction cs with
  | nil => intro o k cur; rfl
  | cons v cs ih =>
    intro o k cur
    rw [List.zipIdx_cons, List.foldl_cons, ih]
    rfl
theorem size_fold (cs : List Value) (cur : Array Value) : (List.foldl (fun (c : Array Value) (x : Value × Nat) => c.setIfInBounds (1 + x.snd) x.fst) cur cs.zipIdx).size = cur.size := by
  rw [fold_put]
  generalize 1 + 0 = o
  induction cs generalizing o cur with
  | nil => rfl
  | cons v vs ih => show (putAll vs (o + 1) _).size = _; rw [ih]; simp
theorem build_size {cs : List Value} {cur : Array Value} {n : Nat} (h : cur.size = n) : ¬ (List.foldl (fun (c : Array Value) (x : Value × Nat) => c.setIfInBounds (1 + x.snd) x.fst) cur cs.zipIdx).size < n := by
  rw [size_fold]; omega
/-- What a part that is filled in makes of a literal's cells. -/
theorem fill_step {place : Nat → Option (Nat × Nat)} {L : List Value} {i : Nat} {v : Value} {rest : List (Nat × Value)} {off size : Nat} (hp : place i = some (off, size)) (hs : v.cells.size = size) (hb : off + size ≤ L.length) :
    Instr.fill place L.toArray ((i, v) :: rest) = Instr.fill place (L.take off ++ v.cells.toList ++ L.drop (off + size)).toArray rest := by
  have e : (v.cells.zipIdx.foldl (fun (cs : Array Value) (x : Value × Nat) => cs.setIfInBounds (off + x.2) x.1) L.toArray) = (L.take off ++ v.cells.toList ++ L.drop (off + size)).toArray := by
    rw [← Array.foldl_toList, Array.toList_zipIdx, fold_put]
    apply Array.toList_inj.1
    rw [putAll_list _ _ _ (by simp [hs]; omega)]
    simp [hs]
  rw [Instr.fill.eq_2]
  rw [hp]
  simp only
  rw [if_neg (by simp [hs]; omega)]
  exact congrArg (fun z => Instr.fill place z rest) e
theorem built_struct {P : Program} {t : TypeId} {it : TypeInfo} {z : Value} {fs : Array Field} {places : List (Nat × Nat)} {parts : List (Nat × Value)} (hi : P.info? t = some it) (hz : it.zero = some z) (hu : P.underlying t = some (.struct fs))
    (hp : fs.toList.mapM (fun f => (P.info? f.type).map fun i => (f.offset, i.size)) = some places) : P.built t parts = Instr.fill (places.toArray[·]?) z.cells parts := by
  unfold Program.built
  simp only [hi, hz, hu, hp]
/-- A literal that is built in a region that only reads. -/
theorem quiet_build_as {P : Program} {o : Oper} {a : Act} {C : World → Prop} {next : Act → Prop} (t : TypeId) (parts : Array (Nat × Operand)) (ho : o.op = .build t parts) (cells : Array Value) (hc : P.built t (parts.map fun (i, x) => (i, a.eval x)).toList = some cells)
    (h : next (a.put o.dst (.agg cells))) : o.quiet P a C next :=
  ⟨_, fun w hw => by
    unfold Oper.quietAt execOp
    simp only [ho, Sem.run_bind, run_build w t _ cells hc, Result.andThen_ok]
    exact ⟨rfl, rfl⟩, h⟩
theorem wp_build_as {P : Program} {o : Oper} {a : Act} {w : World} {K : Act → World → Prop} {Q : Exit → Act → World → Prop} (t : TypeId) (parts : Array (Nat × Operand)) (ho : o.op = .build t parts) (cells : Array Value) (hc : P.built t (parts.map fun (i, x) => (i, a.eval x)).toList = some cells)
    (h : K (a.put o.dst (.agg cells)) w) : o.wp P a w K Q :=
  wp_build t parts ho (by rw [hc]; rfl) (by rw [hc]; exact h)
theorem wpList_build_as {P : Program} {ops : Array Oper} {rest : List Oper} {o : Oper} {a : Act} {w : World} {Q : Exit → Act → World → Prop} (hg : o.guard = none) (t : TypeId) (parts : Array (Nat × Operand)) (ho : o.op = .build t parts) (cells : Array Value) (hc : P.built t (parts.map fun (i, x) => (i, a.eval x)).toList = some cells)
    (h : wpList P ops Q rest (a.put o.dst (.agg cells)) w) : wpList P ops Q (o :: rest) a w :=
  wpList_build hg t parts ho (by rw [hc]; rfl) (by rw [hc]; exact h)

/-- A wide load in a region that only reads. -/
theorem quiet_load_mid {P : Program} {o : Oper} {a : Act} {C : World → Prop} {next : Act → Prop} (ty : TypeId) (x : Operand) (ho : o.op = .load ty x) (b off : Nat) (hx : a.eval x = .pointer (some ⟨b, off, none⟩)) (cs : List Value) (d : TypeDesc) (hc : ∀ w, C w → w.rangeAt b off cs)
    (hu : P.underlying ty = some d) (hd : d.isRow = true) (hi : (P.info? ty).map (·.size) = some cs.length) (h : next (a.put o.dst (.agg cs.toArray))) : o.quiet P a C next :=
  ⟨_, fun w hw => by
    unfold Oper.quietAt execOp
    simp only [ho, hx, Instr.loadAt, Instr.sureAddr, Sem.run_bind, Sem.run_pure, Result.andThen_ok, run_loadVar_mid w b off ty cs d (hc w hw) hu hd hi]
    exact ⟨rfl, rfl⟩, h⟩

/-! ### slices of wide elements -/
structure WRow (w : World) (size : Nat) (A : Option Addr) (n c : Nat) (L : List (List Value)) : Prop where
  len : L.length = n
  cap : n ≤ c
  room : n ≤ 17592186043904
  wide : ∀ x ∈ L, x.length = size ∧ ∀ u ∈ x, u.oneCell' = true
  nil : A = none → c = 0
  cells : 0 < n → ∃ b off, A = some ⟨b, off, none⟩ ∧ ∀ i, i < n → w.rangeAt b (off + i * size) (L.getD i [])
namespace WRow
variable {w w' : World} {size : Nat} {A : Option Addr} {n c : Nat} {L : List (List Value)}
theorem ext (h : WRow w size A n c L) (hx : Ext w w') : WRow w' size A n c L :=
  ⟨h.len, h.cap, h.room, h.wide, h.nil, fun hn => let ⟨b, off, e, hc⟩ := h.cells hn; ⟨b, off, e, fun i hi => rangeAt_ext (hc i hi) hx⟩⟩
theorem view (h : WRow w size A n c L) : n = 0 ∨ ∃ b off, A = some ⟨b, off, none⟩ ∧ ∀ i, i < n → w.rangeAt b (off + i * size) (L.getD i []) := by
  rcases Nat.eq_zero_or_pos n with h0 | h0
  · exact .inl h0
  · exact .inr (h.cells h0)
theorem nil_mk (w : World) (size : Nat) : WRow w size none 0 0 [] := ⟨rfl, Nat.le_refl _, by omega, by simp, fun _ => rfl, fun h => absurd h (Nat.lt_irrefl _)⟩
end WRow
theorem flat_len {size : Nat} : ∀ {L : List (List Value)}, (∀ x ∈ L, x.length = size) → L.flatten.length = L.length * size := by
  intro L
  induction L with
  | nil => intro _; simp
  | cons x L ih =>
    intro h
    rw [List.flatten_cons, List.length_append, ih (fun y hy => h y (by simp [hy])), h x (by simp), List.length_cons, Nat.succ_mul]
    omega
theorem flat_get {size : Nat} (hs : 0 < size) : ∀ {L : List (List Value)}, (∀ x ∈ L, x.length = size) → ∀ j, L.flatten[j]? = (L.getD (j / size) [])[j % size]? := by
  intro L
  induction L with
  | nil => intro _ j; simp
  | cons x L ih =>
    intro h j
    have hx := h x (by simp)
    rw [List.flatten_cons]
    by_cases hj : j < size
    · rw [List.getElem?_append_left (by omega), Nat.div_eq_of_lt hj, Nat.mod_eq_of_lt hj]
      rfl
    · rw [List.getElem?_append_right (by omega), hx, ih (fun y hy => h y (by simp [hy]))]
      obtain ⟨k, rfl⟩ : ∃ k, j = k + size := ⟨j - size, by omega⟩
      rw [Nat.add_sub_cancel, Nat.add_div_right _ hs, Nat.add_mod_right]
      rfl
theorem wide_src {w : World} {size : Nat} (hs : 0 < size) {A : Option Addr} {n c : Nat} {L : List (List Value)} (h : WRow w size A n c L) : Src w size A n c L.flatten := by
  have hw : ∀ x ∈ L, x.length = size := fun x hx => (h.wide x hx).1
  refine ⟨by rw [flat_len hw, h.len], fun u hu => ?_, ?_⟩
  · obtain ⟨x, hx, hux⟩ := List.mem_flatten.1 hu
    exact (h.wide x hx).2 u hux
  · cases A with
    | none => have := h.nil rfl; have := h.cap; exact .inl ⟨rfl, by omega, h.nil rfl⟩
    | some a =>
      refine .inr ⟨a, rfl, fun j u hu => ?_⟩
      have hj : j < n * size := by
        have := (List.getElem?_eq_some_iff.1 hu).1
        rwa [flat_len hw, h.len] at this
      have hq : j / size < n := Nat.div_lt_of_lt_mul (by rwa [Nat.mul_comm] at hj)
      obtain ⟨b, off, e, hc⟩ := h.cells (Nat.lt_of_le_of_lt (Nat.zero_le _) hq)
      obtain rfl := Option.some.inj e
      rw [flat_get hs hw] at hu
      have := hc (j / size) hq (j % size) u hu
      rw [Addr.add_lit]
      have e : off + j / size * size + j % size = off + j := by
        have := Nat.div_add_mod j size
        rw [Nat.mul_comm] at this
        omega
      rwa [e] at this
theorem wide_own {w : World} {base n size : Nat} (hs : 0 < size) {e : TypeId} {v : Value} {L : List (List Value)} (h : w.ownsRow base e size v n L.flatten) (hn : n ≤ 17592186043904) (hL : L.length = n) (hw : ∀ x ∈ L, x.length = size ∧ ∀ u ∈ x, u.oneCell' = true) :
    ∃ A c, v = .slice A n c ∧ WRow w size A n c L ∧ ∀ ad, A = some ad → base ≤ ad.block := by
  have hw' : ∀ x ∈ L, x.length = size := fun x hx => (hw x hx).1
  rcases h.2 with ⟨rfl, h0⟩ | ⟨g, cap, cur, rfl, hb, hh, hc, hm, _⟩
  · subst h0
    have : L = [] := List.eq_nil_of_length_eq_zero hL
    subst this
    exact ⟨none, 0, rfl, WRow.nil_mk w size, fun _ e => by cases e⟩
  · refine ⟨_, cap, rfl, ⟨hL, hc, hn, hw, (fun e => by cases e), fun hn0 => ⟨g, 0, rfl, fun i hi j u hu => ?_⟩⟩, fun ad e => by cases e; exact hb⟩
    have hj : j < size := by
      have h1 := (List.getElem?_eq_some_iff.1 hu).1
      have hx : L.getD i [] ∈ L := by
        have : i < L.length := by omega
        simp [List.getD, this]
      rwa [hw' _ hx] at h1
    have hf : L.flatten[i * size + j]? = some u := by
      rw [flat_get hs hw', Nat.mul_comm, Nat.mul_add_div hs, Nat.div_eq_of_lt hj, Nat.mul_add_mod, Nat.mod_eq_of_lt hj]
      exact hu
    have := h.cells (g := g) rfl (i * size + j) _ hf
    rw [Addr.add_lit] at this
    rwa [← Nat.add_assoc] at this
/-- What the call owns may be written. -/
theorem own_there {w : World} {base n size : Nat} {e : TypeId} {g cap : Nat} {xs : List Value} (h : w.ownsRow base e size (.slice (some ⟨g, 0, none⟩) n cap) n xs) {o k : Nat} (hk : o + k ≤ n * size) : w.there g o k := by
  rcases h.2 with ⟨e0, _⟩ | ⟨g', cap', cur, e', _, hh, hc, hm, hs, _⟩
  · cases e0
  · obtain ⟨rfl, rfl⟩ : g = g' ∧ cap = cap' := by simpa using e'
    have hle : n * size ≤ cap * size := Nat.mul_le_mul_right _ hc
    intro j hj
    have hlt : o + j < cur.size := by omega
    constructor
    · rw [cell_of_row _ g (o + j) cur e (0, 0) hh]
      simp [hlt]
    · simp [World.frozen?, hh]
/-- One element is stored over. -/
theorem WRow.set {w : World} {size : Nat} {b c n off : Nat} {L : List (List Value)} (h : WRow w size (some ⟨b, off, none⟩) n c L) {i : Nat} (hi : i < n) {vs : List Value} (hv : vs.length = size) (h1 : ∀ u ∈ vs, u.oneCell' = true) (ht : w.there b (off + i * size) size) :
    WRow (w.setCells b (off + i * size) vs) size (some ⟨b, off, none⟩) n c (L.set i vs) := by
  have hlen := h.len
  refine ⟨by simpa using h.len, h.cap, h.room, fun x hx => ?_, (fun e => by cases e), fun hn => ⟨b, off, rfl, fun j hj => ?_⟩⟩
  · rcases List.mem_or_eq_of_mem_set hx with hx | rfl
    · exact h.wide x hx
    · exact ⟨hv, h1⟩
  · by_cases e : j = i
    · subst e
      have : (L.set j vs).getD j [] = vs := by simp [List.getD, List.getElem?_set_self (show j < L.length by omega)]
      rw [this]
      exact World.rangeAt_setCells_same w b _ vs (by rw [hv]; exact ht)
    · have : (L.set i vs).getD j [] = L.getD j [] := by simp [List.getD, List.getElem?_set_ne (fun e' => e e'.symm)]
      rw [this]
      obtain ⟨b', off', e', hc⟩ := h.cells hn
      obtain ⟨rfl, rfl⟩ : b = b' ∧ off = off' := by simpa using e'
      refine World.rangeAt_setCells_apart (hc j hj) b _ vs (.inr ?_)
      have hx : L.getD j [] ∈ L := by
        have : j < L.length := by omega
        simp [List.getD, this]
      rw [(h.wide _ hx).1, hv]
      rcases Nat.lt_or_gt_of_ne e with hlt | hlt
      · left
        have := Nat.mul_le_mul_right size (show j + 1 ≤ i by omega)
        rw [Nat.succ_mul] at this
        omega
      · right
        have := Nat.mul_le_mul_right size (show i + 1 ≤ j by omega)
        rw [Nat.succ_mul] at this
        omega

/-! ### keys -/
section
variable {P : Program}
theorem mapM_some {α β : Type} (f : α → Option β) (g : α → β) : ∀ L : List α, (∀ i ∈ L, f i = some (g i)) → L.mapM f = some (L.map g) := by
  intro L
  induction L with
  | nil => intro _; rfl
  | cons a L ih =>
    intro h
    rw [List.mapM_cons, h a (by simp), ih (fun i hi => h i (by simp [hi]))]
    rfl
theorem flat_one (k : IntKind) (r : List Int) : ((List.range r.length).map (fun i => [Lit.int k (r.getD i 0)])).flatten = r.map (Lit.int k) := by
  rw [← List.flatMap_def, ← List.map_eq_flatMap]
  apply List.ext_getElem (by simp)
  intro j h1 h2
  simp at h1
  simp [h1]
theorem lits_int {e : TypeId} {k : IntKind} (he : P.underlying e = some (.int k)) (d : Nat) {x : Int} (hx : (Lit.int k x).wf = true) : P.keyLits (d + 1) e [.int k x] = some [.int k x] := by
  unfold Program.keyLits
  rw [he]
  simp [hx]
theorem lits_row {t e : TypeId} {k : IntKind} {n : Nat} (ht : P.underlying t = some (.array n e)) (he : P.underlying e = some (.int k)) (hce : P.cellsOf e = 1) (hct : P.cellsOf t = n) (d : Nat) {r : List Int} (hn : r.length = n) (hw : ∀ x ∈ r, (Lit.int k x).wf = true) :
    P.keyLits (d + 2) t (r.map (Value.int k)) = some (r.map (Lit.int k)) := by
  unfold Program.keyLits
  rw [ht]
  simp only [hct, hce, List.length_map, hn, if_true]
  rw [mapM_some _ (fun i => [Lit.int k (r.getD i 0)])]
  · rw [← hn]
    simp only [Option.map_some, flat_one]
  · intro i hi
    have hi' : i < r.length := by have := List.mem_range.1 hi; omega
    have e1 : ((r.map (Value.int k)).drop (i * 1)).take 1 = [.int k (r.getD i 0)] := by
      rw [Nat.mul_one, List.drop_eq_getElem_cons (by simpa using hi')]
      simp [hi']
    rw [e1]
    exact lits_int he d (hw _ (by simp [List.getD, hi']))
end
/-! ### a block that has just been laid -/
theorem there_new {w : World} {cur : Array Value} {e : TypeId} (k : Nat) (h : k ≤ cur.size) : (w.alloc (.cells cur e)).there w.heap.size 0 k := fun j hj => by
  constructor
  · rw [cell_of_row _ w.heap.size (0 + j) cur e (0, 0) (heap_alloc_new w _)]
    simp; omega
  · simp
theorem there_at {w : World} {cur : Array Value} {e : TypeId} {B : Nat} (hB : B = w.heap.size) (k : Nat) (h : k ≤ cur.size) : (w.alloc (.cells cur e)).there B 0 k := by subst hB; exact there_new k h
theorem setCells_at {w : World} {cur : Array Value} {e : TypeId} {cs : List Value} {B : Nat} (hB : B = w.heap.size) (h : cs.length = cur.size) : (w.alloc (.cells cur e)).setCells B 0 cs = w.alloc (.cells cs.toArray e) := by subst hB; exact setCells_alloc h
theorem range_at {w : World} {B : Nat} (cs : List Value) (e : TypeId) (hB : B = w.heap.size) : (w.alloc (.cells cs.toArray e)).rangeAt B 0 cs := by subst hB; exact range_new w cs e
theorem Ext.setCells {a : World} {g : Nat} (hg : a.heap.size ≤ g) : ∀ (vs : List Value) (o : Nat) {b : World}, Ext a b → Ext a (b.setCells g o vs) := by
  intro vs
  induction vs with
  | nil => intro o b h; exact h
  | cons v vs ih => intro o b h; exact ih (o + 1) (h.setCell (p := ⟨g, o, none⟩) hg v)
theorem cell_apart {w : World} {g o B j : Nat} {vs : List Value} {v : Value} (h : w.cell? ⟨B, j, none⟩ = some v) (hne : B ≠ g) : (w.setCells g o vs).cell? ⟨B, j, none⟩ = some v := by
  rw [World.cell?_setCells_out g vs o w ⟨B, j, none⟩ (fun hb _ => absurd hb hne)]; exact h
theorem own_form' {w : World} {base : Nat} {e : TypeId} {size : Nat} {v : Value} {n : Nat} {xs : List Value} (h : w.ownsRow base e size v n xs) : ∃ A c, v = .slice A n c := by
  rcases h.2 with ⟨rfl, rfl⟩ | ⟨g, cap, cur, rfl, _⟩
  · exact ⟨none, 0, rfl⟩
  · exact ⟨_, cap, rfl⟩
theorem own_base {w : World} {base b : Nat} {e : TypeId} {size : Nat} {v : Value} {n : Nat} {xs : List Value} (h : w.ownsRow base e size v n xs) (hb : b ≤ base) : w.ownsRow b e size v n xs := by
  refine ⟨h.1, h.2.imp id ?_⟩
  rintro ⟨g, cap, cur, rfl, h1, h2⟩
  exact ⟨g, cap, cur, rfl, Nat.le_trans hb h1, h2⟩
/-- Cells that are laid over as many others. -/
theorem fold_put0 {cs : List Value} {cur : Array Value} (h : cs.length = cur.size) : List.foldl (fun (c : Array Value) (x : Value × Nat) => c.setIfInBounds x.snd x.fst) cur cs.zipIdx = cs.toArray := by
  have := fold_put cs 0 0 cur
  simp only [Nat.zero_add] at this
  rw [this]
  apply Array.toList_inj.1
  rw [putAll_list _ _ _ (by omega)]
  simp [h]
end Go.Proofs.Ytamibbcdklpncaa
