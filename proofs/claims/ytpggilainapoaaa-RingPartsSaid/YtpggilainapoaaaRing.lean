/- The contracts of layer 4 (ring): the machine that goes round, and what is made of it. -/
import Derived.Test.YtpggilainapoaaaInts
import Derived.Deep.QuietTactic
import Derived.Deep.RegionHeld3
import Derived.Deep.AppendLies
namespace Go.Proofs.Ytpggilainapoaaa
open Go.RowKit
set_option linter.unusedVariables false
set_option linter.unusedSimpArgs false

/-- The eleven cells of a round. -/
def ringCells (at' : List Int) (fr n cap : Int) : Array Value := (at'.map (Value.int .i64) ++ [Value.int .i64 fr, Value.int .i64 n, Value.int .i64 cap]).toArray
/-- Block g is a round with so much room that holds l. -/
structure RingAt (w : World) (g : Nat) (cap : Int) (l : List Int) (at' : List Int) (fr : Nat) : Prop where
  from8 : fr < 8
  eight : at'.length = 8
  few : l.length ≤ 8
  items : ∀ i, i < l.length → nth at' ((fr + i) % 8) = nth l i
  wf : ∀ x ∈ l, (Lit.int .i64 x).wf = true
  room : (l.length : Int) ≤ cap ∧ cap ≤ 8
  heap : w.heap[g]? = some (.cells (ringCells at' fr l.length cap) 52 (0, 0))
def IsRing (w : World) (g : Nat) (cap : Int) (l : List Int) : Prop := ∃ at' fr, RingAt w g cap l at' fr

theorem ringCells_at {at' : List Int} {fr n cap : Int} (h : at'.length = 8) {j : Nat} (hj : j < 8) : (ringCells at' fr n cap)[j]? = some (.int .i64 (nth at' j)) := by
  unfold ringCells
  simp [List.getElem?_append_left (show j < (at'.map (Value.int .i64)).length by simpa [h] using hj), nth, show j < at'.length by omega]
theorem ringCells_8 {at' : List Int} {fr n cap : Int} (h : at'.length = 8) : (ringCells at' fr n cap)[8]? = some (.int .i64 fr) ∧ (ringCells at' fr n cap)[9]? = some (.int .i64 n) ∧ (ringCells at' fr n cap)[10]? = some (.int .i64 cap) := by
  unfold ringCells
  refine ⟨?_, ?_, ?_⟩ <;> simp [List.getElem?_append_right, h]
theorem ringCells_set {at' : List Int} {fr n cap : Int} {j : Nat} (h : at'.length = 8) (hj : j < 8) (x : Int) : (ringCells at' fr n cap).setIfInBounds j (.int .i64 x) = ringCells (at'.set j x) fr n cap := by
  unfold ringCells
  simp [List.set_append, h, hj, List.map_set]
theorem ringCells_set8 {at' : List Int} {fr n cap : Int} (h : at'.length = 8) (x : Int) : (ringCells at' fr n cap).setIfInBounds 8 (.int .i64 x) = ringCells at' x n cap ∧ (ringCells at' fr n cap).setIfInBounds 9 (.int .i64 x) = ringCells at' fr x cap := by
  unfold ringCells
  constructor <;> simp [List.set_append, h]
namespace RingAt
variable {w : World} {g : Nat} {cap : Int} {l at' : List Int} {fr : Nat}
theorem cells (h : RingAt w g cap l at' fr) : w.cell? ⟨g, 8, none⟩ = some (.int .i64 fr) ∧ w.cell? ⟨g, 9, none⟩ = some (.int .i64 l.length) ∧ w.cell? ⟨g, 10, none⟩ = some (.int .i64 cap) ∧
    (∀ j, j < 8 → w.cell? ⟨g, j, none⟩ = some (.int .i64 (nth at' j))) ∧ (∀ j, w.frozen? ⟨g, j, none⟩ = false) := by
  have h8 := ringCells_8 (fr := fr) (n := l.length) (cap := cap) h.eight
  refine ⟨?_, ?_, ?_, fun j hj => ?_, fun j => frozen_of_row w g j _ _ h.heap⟩
  · rw [cell_of_row w g 8 _ _ _ h.heap]; exact h8.1
  · rw [cell_of_row w g 9 _ _ _ h.heap]; exact h8.2.1
  · rw [cell_of_row w g 10 _ _ _ h.heap]; exact h8.2.2
  · rw [cell_of_row w g j _ _ _ h.heap]; exact ringCells_at h.eight hj
theorem lt (h : RingAt w g cap l at' fr) : g < w.heap.size := (Array.getElem?_eq_some_iff.1 h.heap).1
theorem kept {w' : World} (h : RingAt w g cap l at' fr) (he : w'.heap[g]? = w.heap[g]?) : RingAt w' g cap l at' fr := ⟨h.from8, h.eight, h.few, h.items, h.wf, h.room, by rw [he]; exact h.heap⟩
end RingAt
theorem IsRing.kept {w w' : World} {g : Nat} {cap : Int} {l : List Int} (h : IsRing w g cap l) (he : w'.heap[g]? = w.heap[g]?) : IsRing w' g cap l :=
  let ⟨a, f, r⟩ := h; ⟨a, f, r.kept he⟩
theorem IsRing.ext {w w' : World} {g : Nat} {cap : Int} {l : List Int} (h : IsRing w g cap l) (hx : Ext w w') : IsRing w' g cap l :=
  h.kept (hx.out.block g (by obtain ⟨_, _, r⟩ := h; exact r.lt))
theorem IsRing.drewN {w : World} {g : Nat} {cap : Int} {l : List Int} (h : IsRing w g cap l) (n : Nat) : IsRing (w.drewN n) g cap l := h.kept rfl

/-- Only block g has turned. -/
structure Only (g : Nat) (w w' : World) : Prop where mk :: (out : w.grownBy w' (some g))
theorem Only.refl (g : Nat) (w : World) : Only g w w := ⟨World.grownBy.refl w _⟩
theorem Only.drewN {g : Nat} {a b : World} (h : Only g a b) (n : Nat) : Only g a (b.drewN n) := ⟨⟨h.out.os, h.out.tape, h.out.output, h.out.size, h.out.block⟩⟩
theorem Only.setCell {g : Nat} {a b : World} (h : Only g a b) (o : Nat) (u : Value) : Only g a (b.setCell ⟨g, o, none⟩ u) :=
  ⟨⟨h.out.os, h.out.tape, h.out.output, by simpa [World.setCell] using h.out.size, fun i hi hne => (Below.heap_setCell b ⟨g, o, none⟩ u i (fun e => hne (by rw [e]))).trans (h.out.block i hi hne)⟩⟩
theorem Only.trans {g : Nat} {a b c : World} (h : Only g a b) (k : Only g b c) : Only g a c :=
  ⟨⟨k.out.os.trans h.out.os, k.out.tape.trans h.out.tape, k.out.output.trans h.out.output, Nat.le_trans h.out.size k.out.size, fun i hi hne => (k.out.block i (Nat.lt_of_lt_of_le hi h.out.size) hne).trans (h.out.block i hi hne)⟩⟩
theorem Only.unfrozen {g : Nat} {a b : World} (h : Only g a b) {B : Nat} (hne : B ≠ g) (hlt : B < a.heap.size) (hf : ∀ o, a.frozen? ⟨B, o, none⟩ = false) : ∀ o, b.frozen? ⟨B, o, none⟩ = false := fun o => by
  rw [World.frozen?_of_block (w := a) (a := ⟨B, o, none⟩) (h.out.block B hlt (fun e => hne (Option.some.inj e)))]
  exact hf o
theorem Only.ext {g : Nat} {w0 a b : World} (h : Ext w0 a) (k : Only g a b) (hg : w0.heap.size ≤ g) : Ext w0 b := h.grown k.out (fun j e => by cases e; exact hg)
theorem Only.ints {g : Nat} {a b : World} {k : IntKind} {A : Option Addr} {n c : Nat} {l : List Int} (h : Ints a k A n c l) (o : Only g a b) (hg : ∀ ad, A = some ad → ad.block ≠ g) : Ints b k A n c l :=
  ⟨h.len, h.cap, h.room, h.wf, h.nil, fun hn => let ⟨bb, off, e, hc⟩ := h.cells hn; ⟨bb, off, e, fun i hi => o.out.cell (hc i hi) (fun x => hg _ e (Option.some.inj x))⟩⟩

theorem Only.own {g : Nat} {a b : World} (h : Only g a b) {base : Nat} {e : TypeId} {size : Nat} {v : Value} {n : Nat} {xs : List Value} (o : a.ownsRow base e size v n xs) (hg : g < base) : b.ownsRow base e size v n xs :=
  o.kept h.out (.inr (fun e => own_ne o hg e.symm))
/-- What a push tells, and leaves. -/
def pushB (cap : Int) (l : List Int) : Bool := !decide ((l.length : Int) = cap)
def pushL (cap : Int) (l : List Int) (x : Int) : List Int := if (l.length : Int) = cap then l else l ++ [x]
theorem mod_ne {fr i n : Nat} (hi : i < n) (hn : n < 8) : (fr + i) % 8 ≠ (fr + n) % 8 := by omega
theorem RingAt.push {w w' : World} {g : Nat} {cap : Int} {l at' : List Int} {fr : Nat} (h : RingAt w g cap l at' fr) (hn : (l.length : Int) < cap) {x : Int} (hx : (Lit.int .i64 x).wf = true)
    (he : w'.heap[g]? = some (.cells (ringCells (at'.set ((fr + l.length) % 8) x) fr (l.length + 1) cap) 52 (0, 0))) : IsRing w' g cap (l ++ [x]) := by
  refine ⟨at'.set ((fr + l.length) % 8) x, fr, h.from8, by simpa using h.eight, by have := h.room; simp; omega, fun i hi => ?_, ?_, ⟨by simp; omega, h.room.2⟩, ?_⟩
  · have h8 := h.eight
    have hm := Nat.mod_lt (fr + l.length) (show 0 < 8 by omega)
    by_cases e : i = l.length
    · subst e
      simp [nth, h8, hm]
    · have hil : i < l.length := by simp at hi; omega
      rw [nth_append_left hil, ← h.items i hil]
      have hne := mod_ne (fr := fr) hil (by have := h.room; omega)
      simp [nth, List.getElem?_set, Ne.symm hne]
  · intro y hy
    rcases List.mem_append.1 hy with hy | hy
    · exact h.wf y hy
    · simp at hy; subst hy; exact hx
  · rw [he]; simp
set_option maxHeartbeats 1000000 in
theorem push_any (g : Nat) (cap : Int) (l : List Int) (x : Int) (hx : (Lit.int .i64 x).wf = true) (w : World) (h : IsRing w g cap l) :
    Calls Try.prog 24 #[.pointer (some ⟨g, 0, none⟩), .int .i64 x] w fun e w' => e = .returned (.bool (pushB cap l)) ∧ IsRing w' g cap (pushL cap l x) ∧ Only g w w' := by
  obtain ⟨at', fr, h⟩ := h
  obtain ⟨c8, c9, c10, cs, fz⟩ := h.cells
  have hfr := h.from8
  have hroom := h.room
  by_cases hc : (l.length : Int) = cap
  · have hB : Hid (true = !pushB cap l ∧ pushL cap l x = l) := by
      show true = !pushB cap l ∧ pushL cap l x = l
      unfold pushB pushL; simp [hc]
    have h1 : ((l.length : Int) == cap) = true := by rw [beq_iff_eq]; exact hc
    have H := Lib.hid h
    clear h hc cs
    go_enter Try.func24, Try.ntmps24
    go_wp2
    go_quiet (fail)
    go_wp2
    go_ret
    refine ⟨?_, ?_, (Only.refl g w).drewN _⟩
    · have := hB.out.1
      rw [show pushB cap l = false by simpa using this.symm]; rfl
    · rw [hB.out.2]; exact IsRing.drewN ⟨at', fr, H.out⟩ _
  · have hB : Hid (true = pushB cap l ∧ pushL cap l x = l ++ [x]) := by
      show true = pushB cap l ∧ pushL cap l x = l ++ [x]
      unfold pushB pushL; simp [hc]
    have h1 : ((l.length : Int) == cap) = false := by rw [beq_eq_false_iff_ne]; exact hc
    have hlt : (l.length : Int) < cap := by omega
    have h8 : ((fr : Int) + l.length) % 8 = (((fr + l.length) % 8 : Nat) : Int) := by omega
    have cy := cs ((fr + l.length) % 8) (by omega)
    have fin : Hid (∀ m, IsRing (((w.setCell ⟨g, (fr + l.length) % 8, none⟩ (.int .i64 x)).setCell ⟨g, 9, none⟩ (.int .i64 (l.length + 1))).drewN m) g cap (l ++ [x])) := by
      intro m
      refine h.push hlt hx ?_
      rw [World.heap_drewN]
      have e1 := heap_setCell_same w g ((fr + l.length) % 8) _ _ (.int .i64 x) h.heap
      rw [ringCells_set h.eight (by omega)] at e1
      have e2 := heap_setCell_same _ g 9 _ _ (.int .i64 (l.length + 1)) e1
      rwa [(ringCells_set8 (by simpa using h.eight) _).2] at e2
    clear h cs hc h8
    go_enter Try.func24, Try.ntmps24
    go_wp2
    go_quiet (fail)
    go_wp2
    go_region
    go_wp2
    go_ret
    refine ⟨?_, ?_, ?_⟩
    · rw [← hB.out.1]; rfl
    · rw [hB.out.2]; exact fin.out _
    · exact (((Only.refl g w).drewN _).setCell _ _).setCell _ _

/-- What a pop tells, and leaves. -/
def popB (l : List Int) : Bool := !l.isEmpty
def popV (l : List Int) : Int := l.headD 0
theorem RingAt.pop {w w' : World} {g : Nat} {cap : Int} {l at' : List Int} {fr : Nat} (h : RingAt w g cap l at' fr) (hn : 0 < l.length)
    (he : w'.heap[g]? = some (.cells (ringCells at' (((fr + 1) % 8 : Nat) : Int) (l.length - 1) cap) 52 (0, 0))) : IsRing w' g cap l.tail := by
  refine ⟨at', (fr + 1) % 8, Nat.mod_lt _ (by omega), h.eight, by have := h.few; simp; omega, fun i hi => ?_, fun x hx => h.wf x (List.mem_of_mem_tail hx), ⟨by have := h.room; simp; omega, h.room.2⟩, ?_⟩
  · have hi' : i + 1 < l.length := by simp at hi; omega
    have := h.items (i + 1) hi'
    rw [show ((fr + 1) % 8 + i) % 8 = (fr + (i + 1)) % 8 by omega, this]
    simp [nth]
  · rw [he]
    congr 3
    simp
    omega
set_option maxHeartbeats 1000000 in
theorem pop_any (g : Nat) (cap : Int) (l : List Int) (w : World) (h : IsRing w g cap l) :
    Calls Try.prog 25 #[.pointer (some ⟨g, 0, none⟩)] w fun e w' => e = .returned (.tuple #[.int .i64 (popV l), .bool (popB l)]) ∧ IsRing w' g cap l.tail ∧ Only g w w' := by
  obtain ⟨at', fr, h⟩ := h
  obtain ⟨c8, c9, c10, cs, fz⟩ := h.cells
  have hfr := h.from8
  have hroom := h.room
  by_cases hc : l.length = 0
  · have hl : l = [] := List.eq_nil_of_length_eq_zero hc
    subst hl
    have H := Lib.hid h
    clear h hc cs
    go_enter Try.func25, Try.ntmps25
    go_wp2
    go_ret2
    exact ⟨rfl, ⟨at', fr, H.out⟩, Only.refl g w⟩
  · have hlen : 0 < l.length := by omega
    have h1 : ((l.length : Int) == 0) = false := by rw [beq_eq_false_iff_ne]; omega
    have hB : Hid (popB l = true ∧ popV l = nth at' fr) := by
      refine ⟨?_, ?_⟩
      · unfold popB; cases l with
        | nil => simp at hlen
        | cons a l => rfl
      · have := h.items 0 hlen
        rw [Nat.add_zero, Nat.mod_eq_of_lt hfr] at this
        rw [this]
        cases l with
        | nil => simp at hlen
        | cons a l => rfl
    have cy := cs fr hfr
    have fin : Hid (∀ m, IsRing (((w.setCell ⟨g, 8, none⟩ (.int .i64 (((fr : Int) + 1) % 8))).setCell ⟨g, 9, none⟩ (.int .i64 (l.length - 1))).drewN m) g cap l.tail) := by
      intro m
      refine h.pop hlen ?_
      rw [World.heap_drewN]
      have e1 := heap_setCell_same w g 8 _ _ (.int .i64 (((fr : Int) + 1) % 8)) h.heap
      rw [(ringCells_set8 h.eight _).1] at e1
      have e2 := heap_setCell_same _ g 9 _ _ (.int .i64 (l.length - 1)) e1
      rw [(ringCells_set8 h.eight _).2] at e2
      rw [e2, show (((fr + 1) % 8 : Nat) : Int) = ((fr : Int) + 1) % 8 by omega]
    clear h cs hc
    go_enter Try.func25, Try.ntmps25
    go_wp2
    go_quiet (fail)
    go_wp2
    go_ret2
    refine ⟨?_, fin.out _, ?_⟩
    · rw [hB.out.1, hB.out.2]; rfl
    · exact (((Only.refl g w).setCell _ _).setCell _ _).drewN _

set_option maxHeartbeats 2000000 in
theorem list_any (g : Nat) (cap : Int) (l : List Int) (w : World) (h : IsRing w g cap l) :
    Calls Try.prog 26 #[.pointer (some ⟨g, 0, none⟩)] w fun e w' => ∃ v, e = .returned v ∧ FreshInts w.heap.size w' .i64 v l ∧ Ext w w' := by
  obtain ⟨at', fr, h⟩ := h
  obtain ⟨c8, c9, c10, cs, fz⟩ := h.cells
  have hfr := h.from8
  have hfew := h.few
  have hg := h.lt
  have hit := Lib.hid h.items
  have hwf := Lib.hid h.wf
  have H := Lib.hid h
  clear h
  have CS := Lib.hid cs
  clear cs fz
  obtain ⟨i0, hi, hz0, hz1, hz2⟩ := info_parts (show (Try.prog.info? 3).map (fun i => (i.zero, i.size, i.bytes)) = some (some (.int .i64 0), 1, 8) by kernel_rfl)
  go_enter Try.func26, Try.ntmps26
  go_wp2
  go_loopw [3, 9] (fun v i wr => ∃ k : Nat, k ≤ l.length ∧ i = .int .i64 k ∧ wr.ownsRow w.heap.size 3 1 v k ((l.take k).map (Value.int .i64)) ∧ Ext w wr) (fun _ i _ => l.length - (intOf i).toNat)
  case atStart => exact ⟨0, Nat.zero_le _, rfl, World.ownsRow_nil _ _ _ _, Ext.refl _⟩
  case round =>
    obtain ⟨k, hk, rfl, hown, hx⟩ := hrel
    have d8 := hx.cell c8
    have d9 := hx.cell c9
    by_cases hlt : k < l.length
    · have dy := hx.cell (CS.out ((fr + k) % 8) (by omega))
      have hv := hit.out k hlt
      rw [hv] at dy
      clear hv
      have hne := own_ne hown hg
      have s1 : IntKind.i64.wrap ((fr : Int) + k) = (fr : Int) + k := by rw [IntWalk.i64_in _ (by omega)]
      have s2 : ((fr : Int) + k).tmod 8 = ((fr : Int) + k) % 8 := Int.tmod_eq_emod_of_nonneg (by omega)
      have s3 : 0 ≤ ((fr : Int) + k) % 8 := by omega
      have s4 : ((fr : Int) + k) % 8 < 8 := by omega
      have s5 : (((fr : Int) + k) % 8).toNat = (fr + k) % 8 := by omega
      go_wp2
      go_region_held3 (fun w' => w'.cell? ⟨g, 8, none⟩ = some (.int .i64 fr) ∧ w'.cell? ⟨g, (fr + k) % 8, none⟩ = some (.int .i64 (nth l k))) (first | go_keep | exact ⟨hgrow.cell (((Ext.refl _).drew.alloc _).cell d8) hne, hgrow.cell (((Ext.refl _).drew.alloc _).cell dy) hne⟩) ((refine step_append_lies _ (by rfl) _ _ _ (by rfl) w.heap.size 3 i0 (.int .i64 0) 1 8 Try.underlying22 hi hz0 hz1 hz2 (by rfl) (by decide) _ k _ (by rfl) (hown.drew.alloc _) ⟨wr.heap.size, 0, none⟩ 1 1 [.int .i64 (nth l k)] (by rfl) (by rfl) (cell_one_new _ _ _) (by simp [Value.oneCell']) (by omega) (by unfold maxLen; omega) (by omega) (by have := hx.size; simp; omega) _ (by rfl) ?_; intro g2 cap2 w1 hown1 hgrow hat hlt2))
      have R1 : w1.ownsRow w.heap.size 3 1 (.slice (some ⟨g2, 0, none⟩) (k + 1) cap2) (k + 1) ((l.take (k + 1)).map (Value.int .i64)) := by
        rw [take_nth hlt, List.map_append]; exact hown1
      have R2 : Ext w w1 := ((hx.alloc _).drew).grown hgrow (own_from hown)
      clear s1 s2 s3 s4 s5 hown1 hgrow hat hlt2 hown hne d8 d9 dy
      go_wp2
      go_roundw
      case rel => exact ⟨k + 1, by omega, by go_num, R1, R2⟩
      case measure => simp [intOf]; omega
    · have e : k = l.length := by omega
      subst e
      go_wp2
      go_ret
      exact ⟨_, rfl, fresh_own (by simpa using hown) (by omega) hwf.out, hx⟩

theorem ring_start (w : World) (cap : Int) (hc : 0 ≤ cap) (hc8 : cap ≤ 8) (o : Array Value) (ho : o = #[.int .i64 0, .int .i64 0, .int .i64 0, .int .i64 0, .int .i64 0, .int .i64 0, .int .i64 0, .int .i64 0, .int .i64 0, .int .i64 0, .int .i64 cap]) :
    IsRing (w.alloc (.cells o 52)) w.heap.size cap [] := by
  refine ⟨List.replicate 8 0, 0, by omega, rfl, by simp, by simp, by simp, ⟨by simpa using hc, hc8⟩, ?_⟩
  rw [heap_alloc_new, ho]
  rfl
set_option maxHeartbeats 2000000 in
theorem of_any (A : Option Addr) (n c : Nat) (cap : Int) (l : List Int) (w : World) (h : Ints w .i64 A n c l) (hcap : (n : Int) ≤ cap ∧ cap ≤ 8) :
    Calls Try.prog 23 #[.slice A n c, .int .i64 cap] w fun e w' => e = .returned (.pointer (some ⟨w.heap.size, 0, none⟩)) ∧ IsRing w' w.heap.size cap l ∧ Ext w w' := by
  have hv := h.view
  have Hwf := Lib.hid h.wf
  obtain rfl := h.len
  clear h
  rcases hv with h0 | ⟨b, off, rfl, hc⟩
  · go_enter Try.func23, Try.ntmps23
    go_wp2
    go_loopw [13] (fun i wr => i = .int .i64 0 ∧ IsRing wr w.heap.size cap [] ∧ Ext w wr) (fun i _ => 0)
    case atStart => exact ⟨rfl, ring_start w cap (by omega) hcap.2 _ rfl, (Ext.refl _).alloc _⟩
    case round =>
      obtain ⟨rfl, hr, hx⟩ := hrel
      go_wp2
      go_ret
      exact ⟨rfl, by rw [List.eq_nil_of_length_eq_zero h0]; exact hr, hx⟩
  · go_enter Try.func23, Try.ntmps23
    go_wp2
    go_loopw [13] (fun i wr => ∃ k : Nat, k ≤ l.length ∧ i = .int .i64 k ∧ IsRing wr w.heap.size cap (l.take k) ∧ Ext w wr) (fun i _ => l.length - (intOf i).toNat)
    case atStart => exact ⟨0, Nat.zero_le _, rfl, ring_start w cap (by omega) hcap.2 _ rfl, (Ext.refl _).alloc _⟩
    case round =>
      obtain ⟨k, hk, rfl, hr, hx⟩ := hrel
      by_cases hlt : k < l.length
      · have d := (hx.cell (hc k hlt))
        have hw := Hwf.out (nth l k) (by rw [nth_eq hlt]; exact List.getElem_mem hlt)
        have hB : Hid (pushL cap (l.take k) (nth l k) = l.take (k + 1)) := by
          show pushL cap (l.take k) (nth l k) = l.take (k + 1)
          unfold pushL
          rw [if_neg (by simp; omega), take_nth hlt]
        have hP := push_any w.heap.size cap (l.take k) (nth l k) hw wr hr
        have HP := Lib.hid hP
        clear hP hw hr
        go_wp2_with (go_at_call 24; (with_reducible refine HP.out.mono ?_); rintro e w' ⟨rfl, hr', ho⟩)
        go_roundw
        case rel => exact ⟨k + 1, by omega, by go_num, by rw [← hB.out]; assumption, Only.ext hx ‹Only _ _ _› (Nat.le_refl _)⟩
        case measure => simp [intOf]; omega
      · have e : k = l.length := by omega
        subst e
        rw [List.take_length] at hr
        go_wp2
        go_ret
        exact ⟨rfl, hr, hx⟩
end Go.Proofs.Ytpggilainapoaaa
