/- The contracts of layer 4's exported functions. -/
import Derived.Test.YtpggilainapoaaaRing
namespace Go.Proofs.Ytpggilainapoaaa
open Go.RowKit
set_option linter.unusedVariables false
set_option linter.unusedSimpArgs false

def mayB (cap : Int) (n : Nat) : Bool := decide (0 ≤ cap ∧ cap ≤ 8 ∧ (n : Int) ≤ cap)
set_option maxHeartbeats 1000000 in
theorem may_any (A : Option Addr) (n c : Nat) (cap : Int) (w : World) :
    Calls Try.prog 10 #[.agg #[.int .i64 cap, .slice A n c]] w fun e w' => e = .returned (.bool (mayB cap n)) ∧ Ext w w' := by
  by_cases h1 : 0 ≤ cap
  · by_cases h2 : cap ≤ 8
    · by_cases h3 : (n : Int) ≤ cap
      · have H : Hid (true = mayB cap n) := by
          show true = mayB cap n
          unfold mayB; simp [h1, h2, h3]
        go_enter Try.func10, Try.ntmps10
        go_wp2
        go_ret
        exact ⟨by rw [← H.out]; rfl, (Ext.refl _).alloc _⟩
      · have H : Hid (false = mayB cap n) := by
          show false = mayB cap n
          unfold mayB; simp; omega
        go_enter Try.func10, Try.ntmps10
        go_wp2
        go_ret
        exact ⟨by rw [← H.out]; rfl, (Ext.refl _).alloc _⟩
    · have H : Hid (false = mayB cap n) := by
        show false = mayB cap n
        unfold mayB; simp; omega
      go_enter Try.func10, Try.ntmps10
      go_wp2
      go_ret
      exact ⟨by rw [← H.out]; rfl, (Ext.refl _).alloc _⟩
  · have H : Hid (false = mayB cap n) := by
      show false = mayB cap n
      unfold mayB; simp; omega
    go_enter Try.func10, Try.ntmps10
    go_wp2
    go_ret
    exact ⟨by rw [← H.out]; rfl, (Ext.refl _).alloc _⟩

set_option maxHeartbeats 1000000 in
theorem clone_any (A : Option Addr) (n c : Nat) (l : List Int) (w : World) (h : Ints w .i64 A n c l) :
    Calls Try.prog 27 #[.slice A n c] w fun e w' => ∃ v, e = .returned v ∧ FreshInts w.heap.size w' .i64 v l ∧ Ext w w' := by
  obtain ⟨i0, hi, hz0, hz1, hz2⟩ := info_parts (show (Try.prog.info? 3).map (fun i => (i.zero, i.size, i.bytes)) = some (some (.int .i64 0), 1, 8) by kernel_rfl)
  cases A with
  | none =>
    have hc := h.nil rfl
    have hn : n = 0 := by have := h.cap; omega
    subst hc; subst hn
    have hl : l = [] := List.eq_nil_of_length_eq_zero h.len
    subst hl
    have hnil := fun w => Lib.run_eql_slice_nil (P := Try.prog) w 22 3 none 0 0 0 0 Try.underlying22
    go_enter Try.func27, Try.ntmps27
    go_wp2
    go_ret
    exact ⟨_, rfl, ⟨none, 0, 0, rfl, Ints.nil_mk _ _, fun _ e => by cases e⟩, Ext.refl _⟩
  | some a =>
    have hnil := fun w => Lib.run_eql_slice_nil (P := Try.prog) w 22 3 (some a) n c 0 0 Try.underlying22
    have hl := h.len
    have hroom := h.room
    have hwf := Lib.hid h.wf
    have hnews : ∀ (j : Nat) (u : Value), (l.map (Value.int .i64))[j]? = some u → w.cell? (a.add j) = some u := by
      intro j u hu
      have hj : j < n := by
        have := (List.getElem?_eq_some_iff.1 hu).1
        simpa [hl] using this
      obtain ⟨b, off, e, hc⟩ := h.cells (by omega)
      obtain rfl := Option.some.inj e
      rw [Addr.add_lit, hc j hj, ← hu, nth_map (by omega)]
    have HN := Lib.hid hnews
    clear hnews h
    go_enter Try.func27, Try.ntmps27
    go_wp2_with (at_builtin; refine wpList_append_own _ rfl _ _ _ rfl w.heap.size 3 i0 (.int .i64 0) 1 8 Try.underlying22 hi hz0 hz1 hz2 rfl (by decide) _ 0 _ rfl (World.ownsRow_made w #[] 0 (Nat.le_refl _) (by unfold maxLen; omega) rfl) a n c (l.map (Value.int .i64)) rfl (by simp; omega) (fun j u hu => ((Ext.refl _).alloc _).cell (HN.out j u hu)) (ints_oneCell _ _) (by unfold maxLen; omega) (by omega) (by simp) ?_)
    intro v' w1 hown hgrow _
    go_wp2
    go_ret
    try simp only [List.nil_append, Nat.zero_add] at hown
    exact ⟨_, rfl, fresh_own hown hroom hwf.out, ((Ext.refl w).alloc _).grown hgrow (fun k hk => by cases hk; exact Nat.le_refl _)⟩


/-- A ring as a value: how much room, and a slice that holds l. -/
def IsRingV (w : World) (v : Value) (cap : Int) (l : List Int) : Prop := ∃ A n c, v = .agg #[.int .i64 cap, .slice A n c] ∧ Ints w .i64 A n c l
theorem IsRingV.ext {w w' : World} {v : Value} {cap : Int} {l : List Int} (h : IsRingV w v cap l) (hx : Ext w w') : IsRingV w' v cap l := let ⟨A, n, c, e, hi⟩ := h; ⟨A, n, c, e, hi.ext hx⟩

/-- .. in blocks from 'base' on. -/
def FreshRing (base : Nat) (w : World) (v : Value) (cap : Int) (l : List Int) : Prop := ∃ A n c, v = .agg #[.int .i64 cap, .slice A n c] ∧ Ints w .i64 A n c l ∧ ∀ ad, A = some ad → base ≤ ad.block
theorem FreshRing.is {base : Nat} {w : World} {v : Value} {cap : Int} {l : List Int} (h : FreshRing base w v cap l) : IsRingV w v cap l := let ⟨A, n, c, e, hi, _⟩ := h; ⟨A, n, c, e, hi⟩

theorem own_any (A : Option Addr) (n c : Nat) (cap : Int) (l : List Int) (w : World) (h : Ints w .i64 A n c l) :
    Calls Try.prog 22 #[.agg #[.int .i64 cap, .slice A n c]] w fun e w' => ∃ v, e = .returned v ∧ FreshRing w.heap.size w' v cap l ∧ Ext w w' := by
  have hc := fun W (hx : Ext w W) => clone_any A n c l W (h.ext hx)
  have HC := Lib.hid hc
  clear hc h
  go_enter Try.func22, Try.ntmps22
  go_wp2_with fail
  refine (HC.out _ (((Ext.refl _).alloc _).alloc _)).mono ?_
  rintro e w1 ⟨v, rfl, ⟨A2, n2, c2, rfl, hI, hfr⟩, hx⟩
  have e1 := (Ext.trans (((Ext.refl w).alloc _).alloc _) hx)
  obtain ⟨hc1, hf1, hu1, hs1⟩ := hx.facts
  simp at hs1 hfr
  go_wp2
  refine bodyPost_ret (v := .agg #[.int .i64 cap, .slice A2 n2 c2]) (by simp (maxDischargeDepth := 7) [results, Try.results22, go_sem, hc1, hu1]) rfl ⟨_, rfl, ⟨A2, n2, c2, rfl, ?_, ?_⟩, ?_⟩
  · exact Ints.setCell (Ints.setCell (Ints.setCell hI (fun _ ad e => by have := hfr ad e; simp; omega) _) (fun _ ad e => by have := hfr ad e; simp; omega) _) (fun _ ad e => by have := hfr ad e; simp; omega) _
  · exact fun ad e => by have := hfr ad e; omega
  · exact ((e1.setCell (by simp) _).setCell (by simp) _).setCell (by simp) _

def newB (room : Int) : Bool := mayB room 0
def newR (room : Int) : Int := if mayB room 0 then room else 0
set_option maxHeartbeats 1000000 in
theorem new_any (room : Int) (w : World) :
    Calls Try.prog 14 #[.int .i64 room] w fun e w' => ∃ v, e = .returned (.tuple #[v, .bool (newB room)]) ∧ IsRingV w' v (newR room) [] ∧ Ext w w' := by
  have hm := fun W => may_any none 0 0 room W
  have HM := Lib.hid hm
  clear hm
  cases hB : mayB room 0 with
  | true =>
    have hN : newB room = true ∧ newR room = room := ⟨hB, by unfold newR; rw [hB]; rfl⟩
    have HN := Lib.hid hN
    clear hN
    go_enter Try.func14, Try.ntmps14
    go_wp2_with fail
    refine (HM.out _).mono ?_
    rintro e w1 ⟨rfl, hx⟩
    have e1 := (Ext.trans (((Ext.refl w).alloc _).alloc _) hx)
    obtain ⟨hc1, hf1, hu1, hs1⟩ := hx.facts
    simp at hs1
    go_wp2
    refine bodyPost_ret (v := .tuple #[.agg #[.int .i64 room, .slice none 0 0], .bool true]) (by simp (maxDischargeDepth := 7) [results, Try.results14, go_sem, hc1, hu1]) rfl ⟨_, by rw [HN.out.1], ⟨none, 0, 0, by rw [HN.out.2], Ints.nil_mk _ _⟩, ?_⟩
    · exact (e1.setCell (by simp) _).setCell (by simp) _
  | false =>
    have hN : newB room = false ∧ newR room = 0 := ⟨hB, by unfold newR; rw [hB]; rfl⟩
    have HN := Lib.hid hN
    clear hN
    go_enter Try.func14, Try.ntmps14
    go_wp2_with fail
    refine (HM.out _).mono ?_
    rintro e w1 ⟨rfl, hx⟩
    have e1 := (Ext.trans (((Ext.refl w).alloc _).alloc _) hx)
    obtain ⟨hc1, hf1, hu1, hs1⟩ := hx.facts
    simp at hs1
    go_wp2
    refine bodyPost_ret (v := .tuple #[.agg #[.int .i64 0, .slice none 0 0], .bool false]) (by simp (maxDischargeDepth := 7) [results, Try.results14, go_sem, hc1, hu1]) rfl ⟨_, by rw [HN.out.1], ⟨none, 0, 0, by rw [HN.out.2], Ints.nil_mk _ _⟩, ?_⟩
    · exact (e1.setCell (by simp) _).setCell (by simp) _

def pushRB (cap : Int) (l : List Int) : Bool := mayB cap l.length && pushB cap l
def pushRL (cap : Int) (l : List Int) (x : Int) : List Int := if mayB cap l.length then pushL cap l x else l
set_option maxHeartbeats 4000000 in
theorem ringPush_no (A : Option Addr) (n c : Nat) (cap : Int) (l : List Int) (x : Int) (w : World) (h : Ints w .i64 A n c l) (hB : mayB cap n = false) :
    Calls Try.prog 15 #[.agg #[.int .i64 cap, .slice A n c], .int .i64 x] w fun e w' => ∃ v, e = .returned (.tuple #[v, .bool false]) ∧ IsRingV w' v cap l ∧ Ext w w' := by
  have hm := fun W => may_any A n c cap W
  have HM := Lib.hid hm
  have ho := fun W (k : Ext w W) => own_any A n c cap l W (h.ext k)
  have HO := Lib.hid ho
  clear hm ho h
  go_enter Try.func15, Try.ntmps15
  go_wp2_with fail
  refine (HM.out _).mono ?_
  rintro e w1 ⟨rfl, hx1⟩
  have e1 := (Ext.trans (((Ext.refl w).alloc _).alloc _) hx1)
  obtain ⟨p0, p1, pf⟩ := hx1.box2 (B := w.heap.size) (a := .int .i64 cap) (b := .slice A n c) (by simp) (by simp) (by simp)
  obtain ⟨q0, q1, qf⟩ := hx1.box2 (B := w.heap.size + 1) (a := .int .i64 0) (b := .slice none 0 0) (by simp) (by simp) (by simp)
  have s1 := hx1.size
  simp at s1
  go_wp2_with fail
  refine (HO.out _ e1).mono ?_
  rintro e w2 ⟨v, rfl, ⟨A2, n2, c2, rfl, hI, hfr⟩, hx2⟩
  have e2 := e1.trans hx2
  have r0 := hx2.box2 q0 q1 qf
  obtain ⟨r0, r1, rf⟩ := r0
  clear p0 p1 pf q0 q1 qf
  go_wp2
  refine bodyPost_ret (v := .tuple #[.agg #[.int .i64 cap, .slice A2 n2 c2], .bool false]) (by simp (maxDischargeDepth := 7) [results, Try.results15, go_sem, r0, r1]) rfl ⟨_, rfl, ⟨A2, n2, c2, rfl, ?_⟩, ?_⟩
  · exact Ints.setCell (Ints.setCell hI (fun _ ad e => by have := hfr ad e; simp; omega) _) (fun _ ad e => by have := hfr ad e; simp; omega) _
  · exact (e2.setCell (by simp) _).setCell (by simp) _
set_option maxHeartbeats 4000000 in
theorem ringPush_yes (A : Option Addr) (n c : Nat) (cap : Int) (l : List Int) (x : Int) (hx : (Lit.int .i64 x).wf = true) (w : World) (h : Ints w .i64 A n c l) (hB : mayB cap n = true) :
    Calls Try.prog 15 #[.agg #[.int .i64 cap, .slice A n c], .int .i64 x] w fun e w' => ∃ v, e = .returned (.tuple #[v, .bool (pushB cap l)]) ∧ IsRingV w' v cap (pushL cap l x) ∧ Ext w w' := by
  have hm := fun W => may_any A n c cap W
  have HM := Lib.hid hm
  have hcap : (n : Int) ≤ cap ∧ cap ≤ 8 := by
    unfold mayB at hB
    have := of_decide_eq_true hB
    exact ⟨this.2.2, this.2.1⟩
  have ho := fun W (k : Ext w W) => of_any A n c cap l W (h.ext k) hcap
  have HO := Lib.hid ho
  have HP := Lib.hid (fun g W (k : IsRing W g cap l) => push_any g cap l x hx W k)
  have HL := Lib.hid (fun g W (k : IsRing W g cap (pushL cap l x)) => list_any g cap _ W k)
  clear hm ho h hcap
  go_enter Try.func15, Try.ntmps15
  go_wp2_with fail
  refine (HM.out _).mono ?_
  rintro e w1 ⟨rfl, hx1⟩
  have e1 := (Ext.trans (((Ext.refl w).alloc _).alloc _) hx1)
  obtain ⟨p0, p1, pf⟩ := hx1.box2 (B := w.heap.size) (a := .int .i64 cap) (b := .slice A n c) (by simp) (by simp) (by simp)
  obtain ⟨q0, q1, qf⟩ := hx1.box2 (B := w.heap.size + 1) (a := .int .i64 0) (b := .slice none 0 0) (by simp) (by simp) (by simp)
  have s1 := hx1.size
  simp at s1
  go_wp2_with fail
  refine (HO.out _ e1).mono ?_
  rintro e w2 ⟨rfl, hr2, hx2⟩
  have e2 := e1.trans hx2
  have r2 := hx2.box2 p0 p1 pf
  obtain ⟨p0', p1', pf'⟩ := r2
  have r3 := hx2.box2 q0 q1 qf
  obtain ⟨q0', q1', qf'⟩ := r3
  clear p0 p1 pf q0 q1 qf
  go_wp2_with fail
  refine (HP.out _ _ hr2).mono ?_
  rintro e w3 ⟨rfl, hr3, ho3⟩
  have e3 := Only.ext e2 ho3 (by omega)
  have a0 := ho3.out.cell p0' (fun e => by have := Option.some.inj e; simp at this; omega)
  have b0 := ho3.out.cell q0' (fun e => by have := Option.some.inj e; simp at this; omega)
  have b1 := ho3.out.cell q1' (fun e => by have := Option.some.inj e; simp at this; omega)
  have bf := Only.unfrozen ho3 (show w.heap.size + 1 ≠ w1.heap.size by omega) (by have := e2.size; have := hx2.size; omega) qf'
  clear p0' p1' pf' q0' q1' qf'
  have z3 := e3.size
  go_wp2_with fail
  go_region_held3 (fun w' => w'.cell? ⟨w.heap.size, 0, none⟩ = some (.int .i64 cap)) (first | go_keep | exact hx4.cell a0) ((go_at_call 26; refine (HL.out _ _ (by exact hr3.kept rfl)).mono ?_; rintro e w4 ⟨v, rfl, ⟨A2, n2, c2, rfl, hI, hfr⟩, hx4⟩; obtain ⟨d0, d1, df⟩ := hx4.box2d b0 b1 bf))
  have y1 := hx2.size
  have y2 := ho3.out.size
  go_wp2
  refine bodyPost_ret (v := .tuple #[.agg #[.int .i64 cap, .slice A2 n2 c2], .bool (pushB cap l)]) (by simp (maxDischargeDepth := 7) [results, Try.results15, go_sem, d0, d1]) rfl ⟨_, rfl, ⟨A2, n2, c2, rfl, ?_⟩, ?_⟩
  · exact Ints.setCell (Ints.setCell hI (fun _ ad e => by have := hfr ad e; simp at this ⊢; omega) _) (fun _ ad e => by have := hfr ad e; simp at this ⊢; omega) _
  · exact ((e3.trans hx4.undrew).setCell (by simp) _).setCell (by simp) _
theorem ringPush_any (A : Option Addr) (n c : Nat) (cap : Int) (l : List Int) (x : Int) (hx : (Lit.int .i64 x).wf = true) (w : World) (h : Ints w .i64 A n c l) :
    Calls Try.prog 15 #[.agg #[.int .i64 cap, .slice A n c], .int .i64 x] w fun e w' => ∃ v, e = .returned (.tuple #[v, .bool (pushRB cap l)]) ∧ IsRingV w' v cap (pushRL cap l x) ∧ Ext w w' := by
  have hl := h.len
  cases hB : mayB cap n with
  | false =>
    rw [show pushRB cap l = false by unfold pushRB; rw [hl, hB]; rfl, show pushRL cap l x = l by unfold pushRL; rw [hl, hB]; rfl]
    exact ringPush_no A n c cap l x w h hB
  | true =>
    rw [show pushRB cap l = pushB cap l by unfold pushRB; rw [hl, hB]; rfl, show pushRL cap l x = pushL cap l x by unfold pushRL; rw [hl, hB]; rfl]
    exact ringPush_yes A n c cap l x hx w h hB

def popRB (cap : Int) (l : List Int) : Bool := mayB cap l.length && popB l
def popRV (cap : Int) (l : List Int) : Int := if mayB cap l.length then popV l else 0
def popRL (cap : Int) (l : List Int) : List Int := if mayB cap l.length then l.tail else l
set_option maxHeartbeats 4000000 in
theorem ringPop_no (A : Option Addr) (n c : Nat) (cap : Int) (l : List Int) (w : World) (h : Ints w .i64 A n c l) (hB : mayB cap n = false) :
    Calls Try.prog 17 #[.agg #[.int .i64 cap, .slice A n c]] w fun e w' => ∃ v, e = .returned (.tuple #[v, .int .i64 0, .bool false]) ∧ IsRingV w' v cap l ∧ Ext w w' := by
  have hm := fun W => may_any A n c cap W
  have HM := Lib.hid hm
  have ho := fun W (k : Ext w W) => own_any A n c cap l W (h.ext k)
  have HO := Lib.hid ho
  clear hm ho h
  go_enter Try.func17, Try.ntmps17
  go_wp2_with fail
  refine (HM.out _).mono ?_
  rintro e w1 ⟨rfl, hx1⟩
  have e1 := (Ext.trans (((Ext.refl w).alloc _).alloc _) hx1)
  obtain ⟨p0, p1, pf⟩ := hx1.box2 (B := w.heap.size) (a := .int .i64 cap) (b := .slice A n c) (by simp) (by simp) (by simp)
  obtain ⟨q0, q1, qf⟩ := hx1.box2 (B := w.heap.size + 1) (a := .int .i64 0) (b := .slice none 0 0) (by simp) (by simp) (by simp)
  have s1 := hx1.size
  simp at s1
  go_wp2_with fail
  refine (HO.out _ e1).mono ?_
  rintro e w2 ⟨v, rfl, ⟨A2, n2, c2, rfl, hI, hfr⟩, hx2⟩
  have e2 := e1.trans hx2
  have r0 := hx2.box2 q0 q1 qf
  obtain ⟨r0, r1, rf⟩ := r0
  clear p0 p1 pf q0 q1 qf
  go_wp2
  refine bodyPost_ret (v := .tuple #[.agg #[.int .i64 cap, .slice A2 n2 c2], .int .i64 0, .bool false]) (by simp (maxDischargeDepth := 7) [results, Try.results17, go_sem, r0, r1]) rfl ⟨_, rfl, ⟨A2, n2, c2, rfl, ?_⟩, ?_⟩
  · exact Ints.setCell (Ints.setCell hI (fun _ ad e => by have := hfr ad e; simp; omega) _) (fun _ ad e => by have := hfr ad e; simp; omega) _
  · exact (e2.setCell (by simp) _).setCell (by simp) _
set_option maxHeartbeats 4000000 in
theorem ringPop_yes (A : Option Addr) (n c : Nat) (cap : Int) (l : List Int) (w : World) (h : Ints w .i64 A n c l) (hB : mayB cap n = true) :
    Calls Try.prog 17 #[.agg #[.int .i64 cap, .slice A n c]] w fun e w' => ∃ v, e = .returned (.tuple #[v, .int .i64 (popV l), .bool (popB l)]) ∧ IsRingV w' v cap l.tail ∧ Ext w w' := by
  have hm := fun W => may_any A n c cap W
  have HM := Lib.hid hm
  have hcap : (n : Int) ≤ cap ∧ cap ≤ 8 := by
    unfold mayB at hB
    have := of_decide_eq_true hB
    exact ⟨this.2.2, this.2.1⟩
  have ho := fun W (k : Ext w W) => of_any A n c cap l W (h.ext k) hcap
  have HO := Lib.hid ho
  have HP := Lib.hid (fun g W (k : IsRing W g cap l) => pop_any g cap l W k)
  have HL := Lib.hid (fun g W (k : IsRing W g cap l.tail) => list_any g cap _ W k)
  clear hm ho h hcap
  go_enter Try.func17, Try.ntmps17
  go_wp2_with fail
  refine (HM.out _).mono ?_
  rintro e w1 ⟨rfl, hx1⟩
  have e1 := (Ext.trans (((Ext.refl w).alloc _).alloc _) hx1)
  obtain ⟨p0, p1, pf⟩ := hx1.box2 (B := w.heap.size) (a := .int .i64 cap) (b := .slice A n c) (by simp) (by simp) (by simp)
  obtain ⟨q0, q1, qf⟩ := hx1.box2 (B := w.heap.size + 1) (a := .int .i64 0) (b := .slice none 0 0) (by simp) (by simp) (by simp)
  have s1 := hx1.size
  simp at s1
  go_wp2_with fail
  refine (HO.out _ e1).mono ?_
  rintro e w2 ⟨rfl, hr2, hx2⟩
  have e2 := e1.trans hx2
  have r2 := hx2.box2 p0 p1 pf
  obtain ⟨p0', p1', pf'⟩ := r2
  have r3 := hx2.box2 q0 q1 qf
  obtain ⟨q0', q1', qf'⟩ := r3
  clear p0 p1 pf q0 q1 qf
  go_wp2_with fail
  refine (HP.out _ _ hr2).mono ?_
  rintro e w3 ⟨rfl, hr3, ho3⟩
  have e3 := Only.ext e2 ho3 (by omega)
  have a0 := ho3.out.cell p0' (fun e => by have := Option.some.inj e; simp at this; omega)
  have b0 := ho3.out.cell q0' (fun e => by have := Option.some.inj e; simp at this; omega)
  have b1 := ho3.out.cell q1' (fun e => by have := Option.some.inj e; simp at this; omega)
  have bf := Only.unfrozen ho3 (show w.heap.size + 1 ≠ w1.heap.size by omega) (by have := e2.size; have := hx2.size; omega) qf'
  clear p0' p1' pf' q0' q1' qf'
  have z3 := e3.size
  go_wp2_with fail
  go_region_held3 (fun w' => w'.cell? ⟨w.heap.size, 0, none⟩ = some (.int .i64 cap)) (first | go_keep | exact hx4.cell a0) ((go_at_call 26; refine (HL.out _ _ (by exact hr3.kept rfl)).mono ?_; rintro e w4 ⟨v, rfl, ⟨A2, n2, c2, rfl, hI, hfr⟩, hx4⟩; obtain ⟨d0, d1, df⟩ := hx4.box2d b0 b1 bf))
  have y1 := hx2.size
  have y2 := ho3.out.size
  go_wp2
  refine bodyPost_ret (v := .tuple #[.agg #[.int .i64 cap, .slice A2 n2 c2], .int .i64 (popV l), .bool (popB l)]) (by simp (maxDischargeDepth := 7) [results, Try.results17, go_sem, d0, d1]) rfl ⟨_, rfl, ⟨A2, n2, c2, rfl, ?_⟩, ?_⟩
  · exact Ints.setCell (Ints.setCell hI (fun _ ad e => by have := hfr ad e; simp at this ⊢; omega) _) (fun _ ad e => by have := hfr ad e; simp at this ⊢; omega) _
  · exact ((e3.trans hx4.undrew).setCell (by simp) _).setCell (by simp) _
theorem ringPop_any (A : Option Addr) (n c : Nat) (cap : Int) (l : List Int) (w : World) (h : Ints w .i64 A n c l) :
    Calls Try.prog 17 #[.agg #[.int .i64 cap, .slice A n c]] w fun e w' => ∃ v, e = .returned (.tuple #[v, .int .i64 (popRV cap l), .bool (popRB cap l)]) ∧ IsRingV w' v cap (popRL cap l) ∧ Ext w w' := by
  have hl := h.len
  cases hB : mayB cap n with
  | false =>
    rw [show popRB cap l = false by unfold popRB; rw [hl, hB]; rfl, show popRL cap l = l by unfold popRL; rw [hl, hB]; rfl, show popRV cap l = 0 by unfold popRV; rw [hl, hB]; rfl]
    exact ringPop_no A n c cap l w h hB
  | true =>
    rw [show popRB cap l = popB l by unfold popRB; rw [hl, hB]; rfl, show popRL cap l = l.tail by unfold popRL; rw [hl, hB]; rfl, show popRV cap l = popV l by unfold popRV; rw [hl, hB]; rfl]
    exact ringPop_yes A n c cap l w h hB
end Go.Proofs.Ytpggilainapoaaa
