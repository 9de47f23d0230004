/- Appends, in one form: onto what the call owns, from any slice that is read (nil, empty, or at an address). -/
import Derived.Test.YtamibbcdklpncaaInts
import Derived.Deep.AppendLies
import Derived.Laws.AppendOwnNone
import Derived.Lib.SmallJoins
namespace Go.Proofs.Ytamibbcdklpncaa
open Go.RowKit Go.WideShapes Go.ChangeShapes
set_option linter.unusedVariables false
set_option linter.unusedSimpArgs false

theorem Ext.free {W w1 : World} (h : Ext W w1) {B o : Nat} {v : Value} (c : W.cell? ⟨B, o, none⟩ = some v) (hf : ∀ o, W.frozen? ⟨B, o, none⟩ = false) : ∀ o, w1.frozen? ⟨B, o, none⟩ = false :=
  fun o' => (h.out.frozen (p := ⟨B, o', none⟩) (World.block_lt_of_cell? W ⟨B, o, none⟩ c)).trans (hf o')
theorem lt_of_cell {w : World} {B o : Nat} {v : Value} (c : w.cell? ⟨B, o, none⟩ = some v) : B < w.heap.size := World.block_lt_of_cell? w ⟨B, o, none⟩ c
theorem wf_i64 {x : Int} (h1 : -9223372036854775808 ≤ x) (h2 : x ≤ 9223372036854775807) : (Lit.int .i64 x).wf = true := by
  simp [Lit.wf, IntKind.min, IntKind.max, IntKind.signed, IntKind.bits]; omega
theorem Ints.drop {w : World} {k : IntKind} {b off n c : Nat} {l : List Int} (h : Ints w k (some ⟨b, off, none⟩) n c l) {d : Nat} (hd : d ≤ n) : Ints w k (some ⟨b, off + d, none⟩) (n - d) (c - d) (l.drop d) := by
  have := h.len
  have := h.cap
  have := h.room
  refine ⟨by simp; omega, by omega, by omega, fun x hx => h.wf x (List.mem_of_mem_drop hx), (fun e => by cases e), fun hn => ⟨b, off + d, rfl, fun i hi => ?_⟩⟩
  obtain ⟨b', off', e, hc⟩ := h.cells (by omega)
  obtain ⟨rfl, rfl⟩ : b = b' ∧ off = off' := by simpa using e
  rw [Nat.add_assoc, hc (d + i) (by omega)]
  simp [nth, List.getElem?_drop]
/-- Slices of type t: elements of type e, of so many cells and bytes. -/
structure RowT (P : Program) (t e : TypeId) (size bytes : Nat) : Prop where
  ht : P.underlying t = some (.slice e)
  info : ∃ i z, P.info? e = some i ∧ i.zero = some z ∧ i.size = size ∧ i.bytes = bytes ∧ z.cells.size = size
  pos : 0 < size
  posB : 0 < bytes
theorem RowT.mk' {P : Program} {t e : TypeId} {size bytes : Nat} {z : Value} (ht : P.underlying t = some (.slice e)) (h : (P.info? e).map (fun i => (i.zero, i.size, i.bytes)) = some (some z, size, bytes)) (hz : z.cells.size = size) (hs : 0 < size) (hb : 0 < bytes) : RowT P t e size bytes := by
  obtain ⟨i, hi, h0, h1, h2⟩ := info_parts h
  exact ⟨ht, ⟨i, z, hi, h0, h1, h2, hz⟩, hs, hb⟩

/-- What is read at an address, nothing at nil. -/
structure Src (w : World) (size : Nat) (A : Option Addr) (m c : Nat) (news : List Value) : Prop where
  len : news.length = m * size
  one : ∀ u ∈ news, u.oneCell' = true
  at' : (A = none ∧ m = 0 ∧ c = 0) ∨ ∃ ad, A = some ad ∧ ∀ j u, news[j]? = some u → w.cell? (ad.add j) = some u
theorem Src.ext {w w' : World} {size : Nat} {A : Option Addr} {m c : Nat} {news : List Value} (h : Src w size A m c news) (hx : Ext w w') : Src w' size A m c news :=
  ⟨h.len, h.one, h.at'.imp id (fun ⟨ad, e, hc⟩ => ⟨ad, e, fun j u hj => hx.cell (hc j u hj)⟩)⟩
theorem ints_src {w : World} {k : IntKind} {A : Option Addr} {n c : Nat} {l : List Int} (h : Ints w k A n c l) : Src w 1 A n c (l.map (Value.int k)) := by
  have hl := h.len
  refine ⟨by simpa using hl, by simp [Value.oneCell'], ?_⟩
  cases A with
  | none => have := h.nil rfl; have := h.cap; exact .inl ⟨rfl, by omega, h.nil rfl⟩
  | some a =>
    refine .inr ⟨a, rfl, fun j u hu => ?_⟩
    have hj : j < n := by
      have := (List.getElem?_eq_some_iff.1 hu).1
      simpa [hl] using this
    obtain ⟨b, off, e, hc⟩ := h.cells (by omega)
    obtain rfl := Option.some.inj e
    rw [Addr.add_lit, hc j hj, ← hu, nth_map (by omega)]
/-- A block that has just been laid. -/
theorem src_new {w : World} {size m c : Nat} {e : TypeId} {xs : List Value} (hl : xs.length = m * size) (h1 : ∀ u ∈ xs, u.oneCell' = true) : Src (w.alloc (.cells xs.toArray e)) size (some ⟨w.heap.size, 0, none⟩) m c xs := by
  refine ⟨hl, h1, .inr ⟨_, rfl, fun j u hu => ?_⟩⟩
  rw [Addr.add_lit, cell_of_row _ w.heap.size (0 + j) xs.toArray e (0, 0) (heap_alloc_new w _)]
  simpa using hu
theorem src_one {w : World} {c : Nat} {e : TypeId} {x : Value} (h1 : x.oneCell' = true) : Src (w.alloc (.cells #[x] e)) 1 (some ⟨w.heap.size, 0, none⟩) 1 c [x] := src_new (xs := [x]) rfl (by simpa using h1)

/-- .. its block's number as the walk writes it. -/
theorem src_at {w : World} {B c : Nat} {e : TypeId} {x : Value} (h1 : x.oneCell' = true) (hB : B = w.heap.size) : Src (w.alloc (.cells #[x] e)) 1 (some ⟨B, 0, none⟩) 1 c [x] := by
  subst hB; exact src_one h1
theorem ints_new {w : World} {k : IntKind} {e : TypeId} (xs : List Int) (hwf : ∀ x ∈ xs, (Lit.int k x).wf = true) (hn : xs.length ≤ 17592186043904) : Ints (w.alloc (.cells (xs.map (Value.int k)).toArray e)) k (some ⟨w.heap.size, 0, none⟩) xs.length xs.length xs := by
  refine ⟨rfl, Nat.le_refl _, hn, hwf, (fun e => by cases e), fun _ => ⟨_, _, rfl, fun i hi => ?_⟩⟩
  rw [cell_of_row _ w.heap.size (0 + i) _ e (0, 0) (heap_alloc_new w _)]
  simpa using nth_map (k := k) hi
theorem ints_at' {w : World} {B : Nat} {k : IntKind} {e : TypeId} (xs : List Int) (hwf : ∀ x ∈ xs, (Lit.int k x).wf = true) (hn : xs.length ≤ 17592186043904) (hB : B = w.heap.size) : Ints (w.alloc (.cells (xs.map (Value.int k)).toArray e)) k (some ⟨B, 0, none⟩) xs.length xs.length xs := by
  subst hB; exact ints_new xs hwf hn
section
variable {P : Program}
theorem run_app {t e : TypeId} {size bytes : Nat} (T : RowT P t e size bytes) (w : World) (base : Nat) (ty : TypeId) (v : Value) (n : Nat) (xs : List Value) (hown : w.ownsRow base e size v n xs)
    (A : Option Addr) (m c : Nat) (news : List Value) (hs : Src w size A m c news) (hbytes : (n + m) * bytes ≤ 140737488355328) (hbase : base ≤ w.heap.size) :
    ∃ v' w', (Builtin.append_ #[t, t] ty #[v, .slice A m c]).run P w = .ok v' w' ∧ w'.ownsRow base e size v' (n + m) (xs ++ news) ∧ w.grownBy w' v.ownBlock ∧ (v'.ownBlock = v.ownBlock ∨ v'.ownBlock = some w.heap.size) := by
  obtain ⟨i, z, hi, hz, hsz, hby, hzs⟩ := T.info
  rcases hs.at' with ⟨rfl, rfl, rfl⟩ | ⟨ad, rfl, hc⟩
  · have hn : news = [] := List.eq_nil_of_length_eq_zero (by simpa using hs.len)
    subst hn
    refine ⟨v, w, run_append_owned_none (P := P) (w := w) base t ty e i size T.ht hi v n xs hown, by simpa using hown, ⟨rfl, rfl, rfl, Nat.le_refl _, fun _ _ _ => rfl⟩, .inl rfl⟩
  · have h63 : n + m ≤ maxLen := by
      have := T.posB
      have : (n + m) * 1 ≤ (n + m) * bytes := Nat.mul_le_mul_left _ this
      unfold maxLen; omega
    obtain ⟨v', w', hr, h2, h3, _, h5⟩ := run_append_own_at (P := P) w base t ty e i z size bytes T.ht hi hz hsz hby hzs T.pos v n xs hown ad m c news hs.len hc hs.one h63 hbytes hbase
    exact ⟨v', w', hr, h2, h3, h5⟩
theorem wp_app {t e : TypeId} {size bytes : Nat} (T : RowT P t e size bytes) {o : Oper} {a : Act} {w : World} {K : Act → World → Prop} {Q : Exit → Act → World → Prop} (s x : Operand)
    (ho : o.op = .call { callee := .builtin .append, args := #[s, x], argTypes := #[t, t] }) (base : Nat) (v : Value) (n : Nat) (xs : List Value) (hs : a.eval s = v) (hown : w.ownsRow base e size v n xs)
    (A : Option Addr) (m c : Nat) (news : List Value) (hx : a.eval x = .slice A m c) (hsrc : Src w size A m c news) (hbytes : (n + m) * bytes ≤ 140737488355328) (hbase : base ≤ w.heap.size)
    (h : ∀ v' w', w'.ownsRow base e size v' (n + m) (xs ++ news) → w.grownBy w' v.ownBlock → (v'.ownBlock = v.ownBlock ∨ v'.ownBlock = some w.heap.size) → K (a.put o.dst v') w') : o.wp P a w K Q := by
  obtain ⟨v', w', hr, h2, h3, h4⟩ := run_app T w base o.type v n xs hown A m c news hsrc hbytes hbase
  unfold Oper.wp execOp
  simp only [ho, resolve, invoke, builtin, Sem.run_bind, Sem.run_pure, Result.andThen_ok, List.map_toArray, List.map_cons, List.map_nil, hs, hx, hr]
  exact h v' w' h2 h3 h4
/-- .. in a plain region. -/
theorem wpList_app {t e : TypeId} {size bytes : Nat} (T : RowT P t e size bytes) {ops : Array Oper} {rest : List Oper} {o : Oper} {a : Act} {w : World} {Q : Exit → Act → World → Prop} (hgd : o.guard = none) (s x : Operand)
    (ho : o.op = .call { callee := .builtin .append, args := #[s, x], argTypes := #[t, t] }) (base : Nat) (v : Value) (n : Nat) (xs : List Value) (hs : a.eval s = v) (hown : w.ownsRow base e size v n xs)
    (A : Option Addr) (m c : Nat) (news : List Value) (hx : a.eval x = .slice A m c) (hsrc : Src w size A m c news) (hbytes : (n + m) * bytes ≤ 140737488355328) (hbase : base ≤ w.heap.size)
    (h : ∀ v' w', w'.ownsRow base e size v' (n + m) (xs ++ news) → w.grownBy w' v.ownBlock → (v'.ownBlock = v.ownBlock ∨ v'.ownBlock = some w.heap.size) → wpList P ops Q rest (a.put o.dst v') w') : wpList P ops Q (o :: rest) a w :=
  wpList_plain hgd fun _ hK => wp_app T s x ho base v n xs hs hown A m c news hx hsrc hbytes hbase fun v' w' h2 h3 h4 => hK _ _ (h v' w' h2 h3 h4)
/-- .. at a step of a region that draws. -/
theorem step_app {t e : TypeId} {size bytes : Nat} (T : RowT P t e size bytes) {ops : Array Oper} {o : Oper} {a : Act} {w : World} {K : Act → World → Prop} {Q : Exit → Act → World → Prop} {E : Prop} (hgd : o.guard = none) (s x : Operand)
    (ho : o.op = .call { callee := .builtin .append, args := #[s, x], argTypes := #[t, t] }) (base : Nat) (v : Value) (n : Nat) (xs : List Value) (hs : a.eval s = v) (hown : w.ownsRow base e size v n xs)
    (A : Option Addr) (m c : Nat) (news : List Value) (hx : a.eval x = .slice A m c) (hsrc : Src w size A m c news) (hbytes : (n + m) * bytes ≤ 140737488355328) (hbase : base ≤ w.heap.size)
    (h : ∀ v' w', w'.ownsRow base e size v' (n + m) (xs ++ news) → w.grownBy w' v.ownBlock → (v'.ownBlock = v.ownBlock ∨ v'.ownBlock = some w.heap.size) → K (a.put o.dst v') w') :
    if Region.wanted o (yielded ops a.tmps) = true then Oper.wp P o a w K Q else E := by
  have hw : Region.wanted o (yielded ops a.tmps) = true := by simp [Region.wanted, hgd]
  rw [if_pos hw]
  exact wp_app T s x ho base v n xs hs hown A m c news hx hsrc hbytes hbase h
end
section
variable {H : Type} {enc : TypeId × Value → H} {P : Program} {w : World}
/-- A slice of numbers of eight bytes inside an argument. -/
theorem inner_Ints {t e : TypeId} {k : IntKind} {v : Value} {fuel : Nat} {x : DataW H × List MemPlace} (ht : P.underlying t = some (.slice e)) (he : P.underlying e = some (.int k)) (hce : P.cellsOf e = 1) (hby : P.bytesOf e = 8)
    (hf : DataW.trod enc P w 0 (fun _ => true) true fuel t [v] = some x) (hw : ∀ n ∈ x.1.weights P t, n ≤ reachBytes) : ∃ l, IsInts w k v l := by
  rcases open_ints ht he hce hf with ⟨hcs, hx⟩ | ⟨a, len', cap', zs, hcs, hb, hl, hm, hz, hx, hcell, hwz⟩
  · simp at hcs
    subst hcs
    exact ⟨[], none, 0, 0, rfl, Ints.nil_mk w k⟩
  · simp at hcs
    subst hcs
    subst hx
    have hreach : cap' * 8 ≤ reachBytes := by
      have := hw (((lits (H := H) k (zs.take len')).length + (lits (H := H) k (zs.drop len')).length) * P.bytesOf e) (by simp [DataW.weights, ht])
      rw [hby] at this
      simp [lits] at this
      simp at hz
      omega
    have hr : cap' ≤ 17592186043904 := by simp [reachBytes] at hreach; omega
    simp at hz
    refine ⟨zs.take len', some a, len', cap', rfl, by simp; omega, hl, by omega, fun x hx => hwz x (List.mem_of_mem_take hx), (fun e => by cases e), fun hn => ?_⟩
    obtain ⟨b, off, rfl, hc⟩ := ints_at hcell (by omega)
    refine ⟨b, off, rfl, fun i hi => ?_⟩
    rw [hc i (by omega)]
    simp [nth, List.getElem?_take, hi]
theorem weights_le {ts : List TypeId} {ds : List (DataW H)} (h : (DataW.weightsEach P ts ds).all (· ≤ reachBytes) = true) {j : Nat} {t : TypeId} {d : DataW H} (ht : ts[j]? = some t) (hd : ds[j]? = some d) : ∀ n ∈ d.weights P t, n ≤ reachBytes :=
  fun n hn => by simpa using List.all_eq_true.1 h _ (DataW.weights_mem_each ht hd n hn)
end

theorem own_new (w : World) (base : Nat) (e : TypeId) (size : Nat) : w.ownsRow base e size (.slice none 0 0) 0 [] := World.ownsRow_nil _ _ _ _
end Go.Proofs.Ytamibbcdklpncaa
