/- The contracts of layer 4's document: it answers as the machine does; and of the laws' example. -/
import Derived.Test.YtpggilainapoaaaRingRun
import Derived.Test.YtpggilainapoaaaRow
namespace Go.Proofs.Ytpggilainapoaaa
open Go.RowKit Go.WideShapes Go.ChangeShapes Go.Joins Go.Deep
set_option linter.unusedVariables false
set_option linter.unusedSimpArgs false


set_option maxHeartbeats 1000000 in
theorem refMay_any (A : Option Addr) (n c : Nat) (cap : Int) (w : World) :
    Calls Try.prog 21 #[.agg #[.int .i64 cap, .slice A n c]] w fun e w' => e = .returned (.bool (mayB cap n)) ∧ Ext w w' := by
  by_cases h1 : 0 ≤ cap
  · by_cases h2 : cap ≤ 8
    · by_cases h3 : (n : Int) ≤ cap
      · have H : Hid (true = mayB cap n) := by
          show true = mayB cap n
          unfold mayB; first | (simp [h1, h2, h3]; done) | (simp; omega)
        go_enter Try.func21, Try.ntmps21
        go_wp2
        go_ret
        exact ⟨by rw [← H.out]; rfl, (Ext.refl _).alloc _⟩
      · have H : Hid (false = mayB cap n) := by
          show false = mayB cap n
          unfold mayB; first | (simp [h1, h2, h3]; done) | (simp; omega)
        go_enter Try.func21, Try.ntmps21
        go_wp2
        go_ret
        exact ⟨by rw [← H.out]; rfl, (Ext.refl _).alloc _⟩
    · have H : Hid (false = mayB cap n) := by
        show false = mayB cap n
        unfold mayB; first | (simp [h1, h2, h3]; done) | (simp; omega)
      go_enter Try.func21, Try.ntmps21
      go_wp2
      go_ret
      exact ⟨by rw [← H.out]; rfl, (Ext.refl _).alloc _⟩
  · have H : Hid (false = mayB cap n) := by
      show false = mayB cap n
      unfold mayB; first | (simp [h1, h2, h3]; done) | (simp; omega)
    go_enter Try.func21, Try.ntmps21
    go_wp2
    go_ret
    exact ⟨by rw [← H.out]; rfl, (Ext.refl _).alloc _⟩

set_option maxHeartbeats 1000000 in
theorem refNew_any (room : Int) (w : World) :
    Calls Try.prog 20 #[.int .i64 room] w fun e w' => ∃ v, e = .returned (.tuple #[v, .bool (newB room)]) ∧ IsRingV w' v (newR room) [] ∧ Ext w w' := by
  by_cases h1 : room < 0
  · have HN : Hid (newB room = false ∧ newR room = 0) := by
      show newB room = false ∧ newR room = 0
      unfold newB newR mayB; simp <;> omega
    go_enter Try.func20, Try.ntmps20
    go_wp2
    refine bodyPost_ret (v := .tuple #[.agg #[.int .i64 0, .slice none 0 0], .bool false]) (by simp (maxDischargeDepth := 7) [results, Try.results20, go_sem]) rfl ⟨_, by rw [HN.out.1], ⟨none, 0, 0, by rw [HN.out.2], Ints.nil_mk _ _⟩, ?_⟩
    exact (by repeat (first | assumption | exact Ext.refl _ | refine Ext.alloc ?_ _ | refine Ext.drew ?_ | refine Ext.drewN ?_ _ | refine Ext.setCell ?_ (by first | (simp; done) | omega | (simp; omega)) _ | refine Ext.trans (by assumption) ?_))
  · by_cases h2 : 8 < room
    · have HN : Hid (newB room = false ∧ newR room = 0) := by
        show newB room = false ∧ newR room = 0
        unfold newB newR mayB; simp <;> omega
      go_enter Try.func20, Try.ntmps20
      go_wp2
      refine bodyPost_ret (v := .tuple #[.agg #[.int .i64 0, .slice none 0 0], .bool false]) (by simp (maxDischargeDepth := 7) [results, Try.results20, go_sem]) rfl ⟨_, by rw [HN.out.1], ⟨none, 0, 0, by rw [HN.out.2], Ints.nil_mk _ _⟩, ?_⟩
      exact (by repeat (first | assumption | exact Ext.refl _ | refine Ext.alloc ?_ _ | refine Ext.drew ?_ | refine Ext.drewN ?_ _ | refine Ext.setCell ?_ (by first | (simp; done) | omega | (simp; omega)) _ | refine Ext.trans (by assumption) ?_))
    · have HN : Hid (newB room = true ∧ newR room = room) := by
        show newB room = true ∧ newR room = room
        unfold newB newR mayB; simp <;> omega
      go_enter Try.func20, Try.ntmps20
      go_wp2
      refine bodyPost_ret (v := .tuple #[.agg #[.int .i64 room, .slice none 0 0], .bool true]) (by simp (maxDischargeDepth := 7) [results, Try.results20, go_sem]) rfl ⟨_, by rw [HN.out.1], ⟨none, 0, 0, by rw [HN.out.2], Ints.nil_mk _ _⟩, ?_⟩
      exact (by repeat (first | assumption | exact Ext.refl _ | refine Ext.alloc ?_ _ | refine Ext.drew ?_ | refine Ext.drewN ?_ _ | refine Ext.setCell ?_ (by first | (simp; done) | omega | (simp; omega)) _ | refine Ext.trans (by assumption) ?_))

/-- A ring's value: the old one, or its slice lies in blocks from 'base' on. -/
def NearRing (A : Option Addr) (n c base : Nat) (w : World) (v : Value) (cap : Int) (l : List Int) : Prop := ∃ A' n' c', v = .agg #[.int .i64 cap, .slice A' n' c'] ∧ Ints w .i64 A' n' c' l ∧ ((A' = A ∧ n' = n ∧ c' = c) ∨ ∀ ad, A' = some ad → base ≤ ad.block)
theorem NearRing.is {A : Option Addr} {n c base : Nat} {w : World} {v : Value} {cap : Int} {l : List Int} (h : NearRing A n c base w v cap l) : IsRingV w v cap l := let ⟨A, n, c, e, hi, _⟩ := h; ⟨A, n, c, e, hi⟩

theorem Ints.set2 {w W : World} {k : IntKind} {A : Option Addr} {n c : Nat} {l : List Int} (h : Ints w k A n c l) (hx : Ext w W) {B : Nat} (hB : w.heap.size ≤ B) (i j : Nat) (u v : Value) : Ints ((W.setCell ⟨B, i, none⟩ u).setCell ⟨B, j, none⟩ v) k A n c l :=
  h.ext ((hx.setCell hB u).setCell hB v)
set_option maxHeartbeats 4000000 in
theorem refPush_no (A : Option Addr) (n c : Nat) (cap : Int) (l : List Int) (x : Int) (w : World) (h : Ints w .i64 A n c l) (hB : (mayB cap n = false) ∨ (n : Int) = cap) :
    Calls Try.prog 16 #[.agg #[.int .i64 cap, .slice A n c], .int .i64 x] w fun e w' => ∃ v, e = .returned (.tuple #[v, .bool false]) ∧ NearRing A n c w.heap.size w' v cap l ∧ Ext w w' := by
  by_cases hb : mayB cap n = false
  · have hm := fun W => refMay_any A n c cap W
    have HM := Lib.hid hm
    have hs := fun W (k : Ext w W) => h.ext k
    have HS := Lib.hid hs
    have hl := h.len
    have hroom := h.room
    clear hm hs
    go_enter Try.func16, Try.ntmps16
    go_wp2_with fail
    refine (HM.out _).mono ?_
    rintro e w1 ⟨rfl, hx1⟩
    have e1 := (Ext.trans (((Ext.refl w).alloc _).alloc _) hx1)
    obtain ⟨p0, p1, pf⟩ := hx1.box2 (B := w.heap.size) (a := .int .i64 cap) (b := .slice A n c) (by simp) (by simp) (by simp)
    have pl := lt_of_cell p0
    obtain ⟨q0, q1, qf⟩ := hx1.box2 (B := w.heap.size + 1) (a := .int .i64 0) (b := .slice none 0 0) (by simp) (by simp) (by simp)
    have ql := lt_of_cell q0
    have s1 := hx1.size
    simp at s1
    go_wp2
    refine bodyPost_ret (v := .tuple #[.agg #[.int .i64 cap, .slice A n c], .bool false]) (by simp (maxDischargeDepth := 7) [results, Try.results16, go_sem, p0, p1, q0, q1]) rfl ⟨_, rfl, ⟨A, n, c, rfl, ?_, .inl ⟨rfl, rfl, rfl⟩⟩, ?_⟩
    · exact h.ext ((e1.setCell (by simp) _).setCell (by simp) _)
    · exact (e1.setCell (by simp) _).setCell (by simp) _
  · have hn : (n : Int) = cap := by rcases hB with hB | hB; exact absurd hB hb; exact hB
    have hb' : mayB cap n = true := by simpa using hb
    clear hB hb
    have hm := fun W => refMay_any A n c cap W
    have HM := Lib.hid hm
    have hs := fun W (k : Ext w W) => h.ext k
    have HS := Lib.hid hs
    have hl := h.len
    have hroom := h.room
    clear hm hs
    go_enter Try.func16, Try.ntmps16
    go_wp2_with fail
    refine (HM.out _).mono ?_
    rintro e w1 ⟨rfl, hx1⟩
    have e1 := (Ext.trans (((Ext.refl w).alloc _).alloc _) hx1)
    obtain ⟨p0, p1, pf⟩ := hx1.box2 (B := w.heap.size) (a := .int .i64 cap) (b := .slice A n c) (by simp) (by simp) (by simp)
    have pl := lt_of_cell p0
    obtain ⟨q0, q1, qf⟩ := hx1.box2 (B := w.heap.size + 1) (a := .int .i64 0) (b := .slice none 0 0) (by simp) (by simp) (by simp)
    have ql := lt_of_cell q0
    have s1 := hx1.size
    simp at s1
    go_wp2
    refine bodyPost_ret (v := .tuple #[.agg #[.int .i64 cap, .slice A n c], .bool false]) (by simp (maxDischargeDepth := 7) [results, Try.results16, go_sem, p0, p1, q0, q1]) rfl ⟨_, rfl, ⟨A, n, c, rfl, ?_, .inl ⟨rfl, rfl, rfl⟩⟩, ?_⟩
    · exact h.ext ((e1.setCell (by simp) _).setCell (by simp) _)
    · exact (e1.setCell (by simp) _).setCell (by simp) _
set_option maxHeartbeats 4000000 in
theorem refPush_yes (A : Option Addr) (n c : Nat) (cap : Int) (l : List Int) (x : Int) (hx : (Lit.int .i64 x).wf = true) (w : World) (h : Ints w .i64 A n c l) (hb : mayB cap n = true) (hn : ¬ (n : Int) = cap) :
    Calls Try.prog 16 #[.agg #[.int .i64 cap, .slice A n c], .int .i64 x] w fun e w' => ∃ v, e = .returned (.tuple #[v, .bool true]) ∧ NearRing A n c w.heap.size w' v cap (l ++ [x]) ∧ Ext w w' := by
  have hwf : ∀ y ∈ l ++ [x], (Lit.int .i64 y).wf = true := by
    intro y hy
    rcases List.mem_append.1 hy with hy | hy
    · exact h.wf y hy
    · simp at hy; subst hy; exact hx
  have HW := Lib.hid hwf
  have hn8 : n < 8 := by
    unfold mayB at hb
    have := of_decide_eq_true hb
    omega
  clear hwf hx
  have hm := fun W => refMay_any A n c cap W
  have HM := Lib.hid hm
  have hs := fun W (k : Ext w W) => h.ext k
  have HS := Lib.hid hs
  have hl := h.len
  have hroom := h.room
  clear hm hs
  go_enter Try.func16, Try.ntmps16
  go_wp2_with fail
  refine (HM.out _).mono ?_
  rintro e w1 ⟨rfl, hx1⟩
  have e1 := (Ext.trans (((Ext.refl w).alloc _).alloc _) hx1)
  obtain ⟨p0, p1, pf⟩ := hx1.box2 (B := w.heap.size) (a := .int .i64 cap) (b := .slice A n c) (by simp) (by simp) (by simp)
  have pl := lt_of_cell p0
  obtain ⟨q0, q1, qf⟩ := hx1.box2 (B := w.heap.size + 1) (a := .int .i64 0) (b := .slice none 0 0) (by simp) (by simp) (by simp)
  have ql := lt_of_cell q0
  have s1 := hx1.size
  simp at s1
  have hsrc := ints_src (HS.out w1 e1)
  have HSrc := Lib.hid hsrc
  clear hsrc
  go_wp2_with (at_builtin; refine wpList_app rowInts rfl _ _ rfl w1.heap.size _ 0 [] rfl (own_new _ _ _ _) A n c _ rfl HSrc.out (by omega) (Nat.le_refl _) ?_)
  intro v2 w2 hown2 hg2 _
  have k2 : Ext w1 w2 := (Ext.refl w1).grown hg2 (fun k hk => by cases hk)
  have z2 := k2.size
  go_wp2_with (at_builtin; refine wpList_app rowInts rfl _ _ rfl w1.heap.size _ _ _ rfl (hown2.alloc _) (some ⟨w2.heap.size, 0, none⟩) 1 1 [.int .i64 x] rfl (src_one rfl) (by omega) (by simp; omega) ?_)
  intro v3 w3 hown3 hg3 _
  have k3 : Ext w1 w3 := (k2.alloc _).grown hg3 (own_from hown2)
  have z3 := k3.size
  replace pf := k3.free p0 pf
  replace p0 := k3.cell p0
  replace p1 := k3.cell p1
  replace pl := lt_of_cell p0
  replace qf := k3.free q0 qf
  replace q0 := k3.cell q0
  replace q1 := k3.cell q1
  replace ql := lt_of_cell q0
  obtain ⟨A3, n3, c3, rfl, hI3, hfr3⟩ := fresh_own (show w3.ownsRow w1.heap.size 3 1 v3 (0 + n + 1) ((l ++ [x]).map (Value.int .i64)) by simpa using hown3) (by omega) HW.out
  clear hown2 hown3 hg2 hg3
  go_wp2
  refine bodyPost_ret (v := .tuple #[.agg #[.int .i64 cap, .slice A3 n3 c3], .bool true]) (by simp (maxDischargeDepth := 7) [results, Try.results16, go_sem, p0, p1, q0, q1, pf, qf]) rfl ⟨_, rfl, ⟨A3, n3, c3, rfl, ?_, .inr (fun ad e => by have := hfr3 ad e; omega)⟩, ?_⟩
  · exact Ints.setCell (Ints.setCell (Ints.setCell hI3 (fun _ ad e => by have := hfr3 ad e; simp; omega) _) (fun _ ad e => by have := hfr3 ad e; simp; omega) _) (fun _ ad e => by have := hfr3 ad e; simp; omega) _
  · exact (((e1.trans k3).setCell (by simp) _).setCell (by simp) _).setCell (by simp) _
theorem refPush_any (A : Option Addr) (n c : Nat) (cap : Int) (l : List Int) (x : Int) (hx : (Lit.int .i64 x).wf = true) (w : World) (h : Ints w .i64 A n c l) :
    Calls Try.prog 16 #[.agg #[.int .i64 cap, .slice A n c], .int .i64 x] w fun e w' => ∃ v, e = .returned (.tuple #[v, .bool (pushRB cap l)]) ∧ NearRing A n c w.heap.size w' v cap (pushRL cap l x) ∧ Ext w w' := by
  have hl := h.len
  cases hB : mayB cap n with
  | false =>
    rw [show pushRB cap l = false by unfold pushRB; rw [hl, hB]; rfl, show pushRL cap l x = l by unfold pushRL; rw [hl, hB]; rfl]
    exact refPush_no A n c cap l x w h (.inl hB)
  | true =>
    by_cases hn : (n : Int) = cap
    · rw [show pushRB cap l = false by unfold pushRB pushB; rw [hl, hB]; simp [hn], show pushRL cap l x = l by unfold pushRL pushL; rw [hl, hB]; simp [hn]]
      exact refPush_no A n c cap l x w h (.inr hn)
    · rw [show pushRB cap l = true by unfold pushRB pushB; rw [hl, hB]; simp [hn], show pushRL cap l x = l ++ [x] by unfold pushRL pushL; rw [hl, hB]; simp [hn]]
      exact refPush_yes A n c cap l x hx w h hB hn

set_option maxHeartbeats 4000000 in
theorem refPop_no (A : Option Addr) (n c : Nat) (cap : Int) (l : List Int) (w : World) (h : Ints w .i64 A n c l) (hB : (mayB cap n = false) ∨ n = 0) :
    Calls Try.prog 18 #[.agg #[.int .i64 cap, .slice A n c]] w fun e w' => ∃ v, e = .returned (.tuple #[v, .int .i64 0, .bool false]) ∧ NearRing A n c w.heap.size w' v cap l ∧ Ext w w' := by
  by_cases hb : mayB cap n = false
  · have hm := fun W => refMay_any A n c cap W
    have HM := Lib.hid hm
    have hs := fun W (k : Ext w W) => h.ext k
    have HS := Lib.hid hs
    have hl := h.len
    have hroom := h.room
    clear hm hs
    go_enter Try.func18, Try.ntmps18
    go_wp2_with fail
    refine (HM.out _).mono ?_
    rintro e w1 ⟨rfl, hx1⟩
    have e1 := (Ext.trans (((Ext.refl w).alloc _).alloc _) hx1)
    obtain ⟨p0, p1, pf⟩ := hx1.box2 (B := w.heap.size) (a := .int .i64 cap) (b := .slice A n c) (by simp) (by simp) (by simp)
    have pl := lt_of_cell p0
    obtain ⟨q0, q1, qf⟩ := hx1.box2 (B := w.heap.size + 1) (a := .int .i64 0) (b := .slice none 0 0) (by simp) (by simp) (by simp)
    have ql := lt_of_cell q0
    have s1 := hx1.size
    simp at s1
    go_wp2
    refine bodyPost_ret (v := .tuple #[.agg #[.int .i64 cap, .slice A n c], .int .i64 0, .bool false]) (by simp (maxDischargeDepth := 7) [results, Try.results18, go_sem, p0, p1, q0, q1]) rfl ⟨_, rfl, ⟨A, n, c, rfl, ?_, .inl ⟨rfl, rfl, rfl⟩⟩, ?_⟩
    · exact h.ext ((e1.setCell (by simp) _).setCell (by simp) _)
    · exact (e1.setCell (by simp) _).setCell (by simp) _
  · have hn : n = 0 := by rcases hB with hB | hB; exact absurd hB hb; exact hB
    have hb' : mayB cap n = true := by simpa using hb
    clear hB hb
    subst hn
    obtain rfl := List.eq_nil_of_length_eq_zero h.len
    have hm := fun W => refMay_any A 0 c cap W
    have HM := Lib.hid hm
    have hs := fun W (k : Ext w W) => h.ext k
    have HS := Lib.hid hs
    have hl := h.len
    have hroom := h.room
    clear hm hs
    go_enter Try.func18, Try.ntmps18
    go_wp2_with fail
    refine (HM.out _).mono ?_
    rintro e w1 ⟨rfl, hx1⟩
    have e1 := (Ext.trans (((Ext.refl w).alloc _).alloc _) hx1)
    obtain ⟨p0, p1, pf⟩ := hx1.box2 (B := w.heap.size) (a := .int .i64 cap) (b := .slice A 0 c) (by simp) (by simp) (by simp)
    have pl := lt_of_cell p0
    obtain ⟨q0, q1, qf⟩ := hx1.box2 (B := w.heap.size + 1) (a := .int .i64 0) (b := .slice none 0 0) (by simp) (by simp) (by simp)
    have ql := lt_of_cell q0
    have s1 := hx1.size
    simp at s1
    clear hl
    go_wp2
    refine bodyPost_ret (v := .tuple #[.agg #[.int .i64 cap, .slice A 0 c], .int .i64 0, .bool false]) (by simp (maxDischargeDepth := 7) [results, Try.results18, go_sem, p0, p1, q0, q1]) rfl ⟨_, rfl, ⟨A, 0, c, rfl, ?_, .inl ⟨rfl, rfl, rfl⟩⟩, ?_⟩
    · exact h.ext ((e1.setCell (by simp) _).setCell (by simp) _)
    · exact (e1.setCell (by simp) _).setCell (by simp) _
theorem nth_head {l : List Int} (h : 0 < l.length) : nth l 0 = popV l := by cases l with
  | nil => simp at h
  | cons a l => rfl
set_option maxHeartbeats 4000000 in
theorem refPop_yes (b off : Nat) (n c : Nat) (cap : Int) (l : List Int) (w : World) (h : Ints w .i64 (some ⟨b, off, none⟩) n c l) (hb : mayB cap n = true) (hn : 0 < n) :
    Calls Try.prog 18 #[.agg #[.int .i64 cap, .slice (some ⟨b, off, none⟩) n c]] w fun e w' => ∃ v, e = .returned (.tuple #[v, .int .i64 (popV l), .bool true]) ∧ NearRing (some ⟨b, off, none⟩) n c w.heap.size w' v cap l.tail ∧ Ext w w' := by
  have hwf : ∀ y ∈ l.tail, (Lit.int .i64 y).wf = true := fun y hy => h.wf y (List.mem_of_mem_tail hy)
  have HW := Lib.hid hwf
  have hc0 := h.cap
  have hl0 := h.len
  have hn0 : ¬ (n : Int) = 0 := by omega
  have hv : w.cell? ⟨b, off, none⟩ = some (.int .i64 (popV l)) := by
    obtain ⟨b', off', e, hc⟩ := h.cells hn
    obtain ⟨rfl, rfl⟩ : b = b' ∧ off = off' := by simpa using e
    have := hc 0 hn
    rw [nth_head (by omega)] at this
    exact this
  clear hwf
  have hm := fun W => refMay_any (some ⟨b, off, none⟩) n c cap W
  have HM := Lib.hid hm
  have hroom := h.room
  clear hm
  by_cases hc1 : c = 1
  · have hn1 : n = 1 := by omega
    subst hc1; subst hn1
    have ht : l.tail = [] := List.eq_nil_of_length_eq_zero (by simp; omega)
    rw [ht] at HW ⊢
    have HD := Lib.hid (fun W (k : Ext w W) => Src.mk (w := W) (size := 1) (A := some (⟨b, off, none⟩ : Addr)) (m := 0) (c := 0) (news := []) rfl (by simp) (.inr ⟨_, rfl, by simp⟩))
    clear h ht
    go_enter Try.func18, Try.ntmps18
    go_wp2_with fail
    refine (HM.out _).mono ?_
    rintro e w1 ⟨rfl, hx1⟩
    have e1 := (Ext.trans (((Ext.refl w).alloc _).alloc _) hx1)
    obtain ⟨p0, p1, pf⟩ := hx1.box2 (B := w.heap.size) (a := .int .i64 cap) (b := .slice (some ⟨b, off, none⟩) 1 1) (by simp) (by simp) (by simp)
    have pl := lt_of_cell p0
    obtain ⟨q0, q1, qf⟩ := hx1.box2 (B := w.heap.size + 1) (a := .int .i64 0) (b := .slice none 0 0) (by simp) (by simp) (by simp)
    have ql := lt_of_cell q0
    have s1 := hx1.size
    simp at s1
    have v1 := e1.cell hv
    have hsrc := HD.out w1 e1
    have HSrc := Lib.hid hsrc
    clear hsrc
    go_wp2_with (at_builtin; refine wpList_app rowInts rfl _ _ rfl w1.heap.size _ 0 [] rfl (own_new _ _ _ _) _ (0) (0) _ rfl HSrc.out (by omega) (Nat.le_refl _) ?_)
    intro v2 w2 hown2 hg2 _
    have k2 : Ext w1 w2 := (Ext.refl w1).grown hg2 (fun k hk => by cases hk)
    have z2 := k2.size
    replace pf := k2.free p0 pf
    replace p0 := k2.cell p0
    replace p1 := k2.cell p1
    replace pl := lt_of_cell p0
    replace qf := k2.free q0 qf
    replace q0 := k2.cell q0
    replace q1 := k2.cell q1
    replace ql := lt_of_cell q0
    obtain ⟨A3, n3, c3, rfl, hI3, hfr3⟩ := fresh_own (show w2.ownsRow w1.heap.size 3 1 v2 (0 + (0)) ([].map (Value.int .i64)) by simpa using hown2) (by omega) HW.out
    clear hown2 hg2
    go_wp2
    refine bodyPost_ret (v := .tuple #[.agg #[.int .i64 cap, .slice A3 n3 c3], .int .i64 (popV l), .bool true]) (by simp (maxDischargeDepth := 7) [results, Try.results18, go_sem, p0, p1, q0, q1, pf, qf]) rfl ⟨_, rfl, ⟨A3, n3, c3, rfl, ?_, .inr (fun ad e => by have := hfr3 ad e; omega)⟩, ?_⟩
    · exact Ints.setCell (Ints.setCell (Ints.setCell hI3 (fun _ ad e => by have := hfr3 ad e; simp; omega) _) (fun _ ad e => by have := hfr3 ad e; simp; omega) _) (fun _ ad e => by have := hfr3 ad e; simp; omega) _
    · exact (((e1.trans k2).setCell (by simp) _).setCell (by simp) _).setCell (by simp) _
  · have HD := Lib.hid (fun W (k : Ext w W) => ints_src ((h.drop (d := 1) (by omega)).ext k))
    rw [List.drop_one] at HD
    clear h
    go_enter Try.func18, Try.ntmps18
    go_wp2_with fail
    refine (HM.out _).mono ?_
    rintro e w1 ⟨rfl, hx1⟩
    have e1 := (Ext.trans (((Ext.refl w).alloc _).alloc _) hx1)
    obtain ⟨p0, p1, pf⟩ := hx1.box2 (B := w.heap.size) (a := .int .i64 cap) (b := .slice (some ⟨b, off, none⟩) n c) (by simp) (by simp) (by simp)
    have pl := lt_of_cell p0
    obtain ⟨q0, q1, qf⟩ := hx1.box2 (B := w.heap.size + 1) (a := .int .i64 0) (b := .slice none 0 0) (by simp) (by simp) (by simp)
    have ql := lt_of_cell q0
    have s1 := hx1.size
    simp at s1
    have v1 := e1.cell hv
    have hsrc := HD.out w1 e1
    have HSrc := Lib.hid hsrc
    clear hsrc
    go_wp2_with (at_builtin; refine wpList_app rowInts rfl _ _ rfl w1.heap.size _ 0 [] rfl (own_new _ _ _ _) _ (n - 1) (c - 1) _ rfl HSrc.out (by omega) (Nat.le_refl _) ?_)
    intro v2 w2 hown2 hg2 _
    have k2 : Ext w1 w2 := (Ext.refl w1).grown hg2 (fun k hk => by cases hk)
    have z2 := k2.size
    replace pf := k2.free p0 pf
    replace p0 := k2.cell p0
    replace p1 := k2.cell p1
    replace pl := lt_of_cell p0
    replace qf := k2.free q0 qf
    replace q0 := k2.cell q0
    replace q1 := k2.cell q1
    replace ql := lt_of_cell q0
    obtain ⟨A3, n3, c3, rfl, hI3, hfr3⟩ := fresh_own (show w2.ownsRow w1.heap.size 3 1 v2 (0 + (n - 1)) (l.tail.map (Value.int .i64)) by simpa using hown2) (by omega) HW.out
    clear hown2 hg2
    go_wp2
    refine bodyPost_ret (v := .tuple #[.agg #[.int .i64 cap, .slice A3 n3 c3], .int .i64 (popV l), .bool true]) (by simp (maxDischargeDepth := 7) [results, Try.results18, go_sem, p0, p1, q0, q1, pf, qf]) rfl ⟨_, rfl, ⟨A3, n3, c3, rfl, ?_, .inr (fun ad e => by have := hfr3 ad e; omega)⟩, ?_⟩
    · exact Ints.setCell (Ints.setCell (Ints.setCell hI3 (fun _ ad e => by have := hfr3 ad e; simp; omega) _) (fun _ ad e => by have := hfr3 ad e; simp; omega) _) (fun _ ad e => by have := hfr3 ad e; simp; omega) _
    · exact (((e1.trans k2).setCell (by simp) _).setCell (by simp) _).setCell (by simp) _
theorem refPop_any (A : Option Addr) (n c : Nat) (cap : Int) (l : List Int) (w : World) (h : Ints w .i64 A n c l) :
    Calls Try.prog 18 #[.agg #[.int .i64 cap, .slice A n c]] w fun e w' => ∃ v, e = .returned (.tuple #[v, .int .i64 (popRV cap l), .bool (popRB cap l)]) ∧ NearRing A n c w.heap.size w' v cap (popRL cap l) ∧ Ext w w' := by
  have hl := h.len
  cases hB : mayB cap n with
  | false =>
    rw [show popRB cap l = false by unfold popRB; rw [hl, hB]; rfl, show popRL cap l = l by unfold popRL; rw [hl, hB]; rfl, show popRV cap l = 0 by unfold popRV; rw [hl, hB]; rfl]
    exact refPop_no A n c cap l w h (.inl hB)
  | true =>
    rcases h.view with hn | ⟨b, off, rfl, hc⟩
    · have : l = [] := List.eq_nil_of_length_eq_zero (by omega)
      subst this
      rw [show popRB cap [] = false by unfold popRB popB; simp, show popRL cap [] = [] by unfold popRL; split <;> rfl, show popRV cap [] = 0 by unfold popRV popV; split <;> rfl]
      exact refPop_no A n c cap [] w h (.inr hn)
    · by_cases hn : n = 0
      · have : l = [] := List.eq_nil_of_length_eq_zero (by omega)
        subst this
        rw [show popRB cap [] = false by unfold popRB popB; simp, show popRL cap [] = [] by unfold popRL; split <;> rfl, show popRV cap [] = 0 by unfold popRV popV; split <;> rfl]
        exact refPop_no _ n c cap [] w h (.inr hn)
      · have hp : popB l = true := by unfold popB; cases l with
          | nil => simp at hl; omega
          | cons => rfl
        rw [show popRB cap l = true by unfold popRB; rw [hl, hB, hp]; rfl, show popRL cap l = l.tail by unfold popRL; rw [hl, hB]; rfl, show popRV cap l = popV l by unfold popRV; rw [hl, hB]; rfl]
        exact refPop_yes b off n c cap l w h hB (by omega)

/-- Are two lists the same? -/
def eqI (l m : List Int) : Bool := decide (l = m)
set_option maxHeartbeats 2000000 in
theorem intsEq_any (A : Option Addr) (n c : Nat) (B : Option Addr) (n' d : Nat) (l m : List Int) (w : World) (h : Ints w .i64 A n c l) (g : Ints w .i64 B n' d m) :
    Calls Try.prog 12 #[.slice A n c, .slice B n' d] w fun e w' => e = .returned (.bool (eqI l m)) ∧ Ext w w' := by
  have hroom := h.room
  have hroom2 := g.room
  have hv := h.view
  have gv := g.view
  obtain rfl := h.len
  obtain rfl := g.len
  by_cases hlen : l.length = m.length
  · rcases hv with h0 | ⟨b, off, rfl, hc⟩
    · have hl : l = [] := List.eq_nil_of_length_eq_zero h0
      have hm : m = [] := List.eq_nil_of_length_eq_zero (by omega)
      subst hl; subst hm
      have H := Lib.hid (show eqI [] [] = true from rfl)
      clear h g gv
      go_enter Try.func12, Try.ntmps12
      go_wp2
      go_loopw [5] (fun i wr => i = .int .i64 0 ∧ Ext w wr) (fun i _ => 0)
      case atStart => exact ⟨rfl, Ext.refl _⟩
      case round =>
        obtain ⟨rfl, hx⟩ := hrel
        go_wp2
        go_ret
        exact ⟨rfl, hx⟩
    · rcases gv with h0 | ⟨b2, off2, rfl, hc2⟩
      · have hm : m = [] := List.eq_nil_of_length_eq_zero (by omega)
        have hl : l = [] := List.eq_nil_of_length_eq_zero (by omega)
        subst hl; subst hm
        have H := Lib.hid (show eqI [] [] = true from rfl)
        clear h g hc
        go_enter Try.func12, Try.ntmps12
        go_wp2
        go_loopw [5] (fun i wr => i = .int .i64 0 ∧ Ext w wr) (fun i _ => 0)
        case atStart => exact ⟨rfl, Ext.refl _⟩
        case round =>
          obtain ⟨rfl, hx⟩ := hrel
          go_wp2
          go_ret
          exact ⟨rfl, hx⟩
      · have HC := Lib.hid hc
        have HC2 := Lib.hid (fun k (hk : k < l.length) => hc2 k (by omega))
        clear h g hc hc2
        go_enter Try.func12, Try.ntmps12
        go_wp2
        go_loopw [5] (fun i wr => ∃ k : Nat, k ≤ l.length ∧ i = .int .i64 k ∧ (∀ j, j < k → nth l j = nth m j) ∧ Ext w wr) (fun i _ => l.length - (intOf i).toNat)
        case atStart => exact ⟨0, Nat.zero_le _, rfl, (fun j hj => absurd hj (Nat.not_lt_zero j)), Ext.refl _⟩
        case round =>
          obtain ⟨k, hk, rfl, hs, hx⟩ := hrel
          have HS := Lib.hid hs
          clear hs
          by_cases hlt : k < l.length
          · have d1 := hx.cell (HC.out k hlt)
            have d2 := hx.cell (HC2.out k hlt)
            by_cases he : nth l k = nth m k
            · rw [← he] at d2
              go_wp2
              go_quiet (fail)
              go_wp2
              go_roundw
              case rel =>
                refine ⟨k + 1, by omega, by go_num, fun j hj => ?_, (by repeat (first | assumption | exact Ext.refl _ | refine Ext.alloc ?_ _ | refine Ext.drew ?_ | refine Ext.drewN ?_ _ | refine Ext.setCell ?_ (by first | (simp; done) | omega | (simp; omega)) _ | refine Ext.trans (by assumption) ?_))⟩
                rcases Nat.lt_or_eq_of_le (Nat.lt_succ_iff.1 hj) with h | rfl
                · exact HS.out j h
                · exact he
              case measure => simp [intOf]; omega
            · have H : Hid (eqI l m = false) := by
                show eqI l m = false
                unfold eqI
                refine decide_eq_false (fun e => he (by rw [e]))
              go_wp2
              go_quiet (fail)
              go_wp2
              go_ret
              exact ⟨by rw [H.out]; rfl, (by repeat (first | assumption | exact Ext.refl _ | refine Ext.alloc ?_ _ | refine Ext.drew ?_ | refine Ext.drewN ?_ _ | refine Ext.setCell ?_ (by first | (simp; done) | omega | (simp; omega)) _ | refine Ext.trans (by assumption) ?_))⟩
          · have e : k = l.length := by omega
            subst e
            have H : Hid (eqI l m = true) := by
              show eqI l m = true
              unfold eqI
              exact decide_eq_true (nth_ext hlen HS.out)
            go_wp2
            go_ret
            exact ⟨by rw [H.out]; rfl, (by repeat (first | assumption | exact Ext.refl _ | refine Ext.alloc ?_ _ | refine Ext.drew ?_ | refine Ext.drewN ?_ _ | refine Ext.setCell ?_ (by first | (simp; done) | omega | (simp; omega)) _ | refine Ext.trans (by assumption) ?_))⟩
  · have H : Hid (eqI l m = false) := by
      show eqI l m = false
      unfold eqI
      exact decide_eq_false (fun e => hlen (by rw [e]))
    clear h g hv gv
    go_enter Try.func12, Try.ntmps12
    go_wp2
    go_ret
    exact ⟨by rw [H.out]; rfl, Ext.refl _⟩

def eqR (cap cap' : Int) (l m : List Int) : Bool := eqI l m && decide (cap = cap')
set_option maxHeartbeats 2000000 in
theorem ringSame_any (A : Option Addr) (n c : Nat) (B : Option Addr) (n' d : Nat) (cap cap' : Int) (l m : List Int) (w : World) (h : Ints w .i64 A n c l) (g : Ints w .i64 B n' d m) :
    Calls Try.prog 13 #[.agg #[.int .i64 cap, .slice A n c], .agg #[.int .i64 cap', .slice B n' d]] w fun e w' => e = .returned (.bool (eqR cap cap' l m)) ∧ Ext w w' := by
  have hi := fun W (k : Ext w W) => intsEq_any A n c B n' d l m W (h.ext k) (g.ext k)
  have HI := Lib.hid hi
  clear hi h g
  cases he : eqI l m with
  | true =>
    by_cases hc : cap = cap'
    · subst hc
      have H : Hid (eqR cap cap l m = true) := by
        show eqR cap cap l m = true
        unfold eqR; rw [he]; simp
      rw [he] at HI
      go_enter Try.func13, Try.ntmps13
      go_wp2_with fail
      refine (HI.out _ (((Ext.refl w).alloc _).alloc _)).mono ?_
      rintro e w1 ⟨rfl, hx1⟩
      obtain ⟨p0, p1, pf⟩ := hx1.box2 (B := w.heap.size) (a := .int .i64 cap) (b := .slice A n c) (by simp) (by simp) (by simp)
      have pl := lt_of_cell p0
      obtain ⟨q0, q1, qf⟩ := hx1.box2 (B := w.heap.size + 1) (a := .int .i64 cap) (b := .slice B n' d) (by simp) (by simp) (by simp)
      have ql := lt_of_cell q0
      go_wp2
      go_ret
      exact ⟨by rw [H.out]; rfl, (((Ext.refl w).alloc _).alloc _).trans hx1⟩
    · have H : Hid (eqR cap cap' l m = false) := by
        show eqR cap cap' l m = false
        unfold eqR; rw [he]; simp [hc]
      have hcb : (cap == cap') = false := by rw [beq_eq_false_iff_ne]; exact hc
      rw [he] at HI
      go_enter Try.func13, Try.ntmps13
      go_wp2_with fail
      refine (HI.out _ (((Ext.refl w).alloc _).alloc _)).mono ?_
      rintro e w1 ⟨rfl, hx1⟩
      obtain ⟨p0, p1, pf⟩ := hx1.box2 (B := w.heap.size) (a := .int .i64 cap) (b := .slice A n c) (by simp) (by simp) (by simp)
      have pl := lt_of_cell p0
      obtain ⟨q0, q1, qf⟩ := hx1.box2 (B := w.heap.size + 1) (a := .int .i64 cap') (b := .slice B n' d) (by simp) (by simp) (by simp)
      have ql := lt_of_cell q0
      go_wp2
      go_ret
      exact ⟨by rw [H.out]; rfl, (((Ext.refl w).alloc _).alloc _).trans hx1⟩
  | false =>
    have H : Hid (eqR cap cap' l m = false) := by
      show eqR cap cap' l m = false
      unfold eqR; rw [he]; rfl
    rw [he] at HI
    go_enter Try.func13, Try.ntmps13
    go_wp2_with fail
    refine (HI.out _ (((Ext.refl w).alloc _).alloc _)).mono ?_
    rintro e w1 ⟨rfl, hx1⟩
    obtain ⟨p0, p1, pf⟩ := hx1.box2 (B := w.heap.size) (a := .int .i64 cap) (b := .slice A n c) (by simp) (by simp) (by simp)
    have pl := lt_of_cell p0
    obtain ⟨q0, q1, qf⟩ := hx1.box2 (B := w.heap.size + 1) (a := .int .i64 cap') (b := .slice B n' d) (by simp) (by simp) (by simp)
    have ql := lt_of_cell q0
    go_wp2
    go_ret
    exact ⟨by rw [H.out]; rfl, (((Ext.refl w).alloc _).alloc _).trans hx1⟩
section
variable {H : Type} {enc : TypeId × Value → H} {P : Program} {w : World}
/-- An argument that is a ring. -/
theorem open_Ring {b0 : Nat} {t e : TypeId} {f0 f1 : Field} {v : Value} {d : DataW H} {ps : List MemPlace} {ts : List TypeId} {ds : List (DataW H)} {j : Nat} (hs : P.underlying t = some (.struct #[f0, f1])) (hone : oneCellFields P #[f0, f1] = true) (hC : P.cellsOf t = 2)
    (h0 : P.underlying f0.type = some (.int .i64)) (h1 : P.underlying f1.type = some (.slice e)) (he : P.underlying e = some (.int .i64)) (hce : P.cellsOf e = 1) (hby : P.bytesOf e = 8)
    (hval : Value.okWide P w .any b0 t v) (hd : DataW.Trod enc P w 0 (fun _ => true) true t v d ps)
    (hsz : (DataW.weightsEach P ts ds).all (· ≤ reachBytes) = true) (htj : ts[j]? = some t) (hdj : ds[j]? = some d) : ∃ cap l A n c, (Lit.int .i64 cap).wf = true ∧ v = .agg #[.int .i64 cap, .slice A n c] ∧ Ints w .i64 A n c l := by
  obtain ⟨v0, v1, y0, y1, n, rfl, rfl, _, t0, t1⟩ := open_agg2 hs hone hC hval hd
  obtain ⟨z, e0, x0, w0⟩ := DataW.trod_int h0 t0
  simp at e0
  subst e0
  have hw := weights_le hsz htj hdj
  obtain ⟨l, A, m, c, rfl, hI⟩ := inner_Ints h1 he hce hby t1 (fun q hq => hw q (by simp only [DataW.weights, hs, List.map_cons, List.map_nil, DataW.weightsEach, List.mem_append, Array.toList]; exact .inr (.inl hq)))
  exact ⟨z, l, A, m, c, w0, rfl, hI⟩
end
end Go.Proofs.Ytpggilainapoaaa
