/- The contract of the document's Run of layer 4. -/
import Derived.Test.YtpggilainapoaaaRingRef
namespace Go.Proofs.Ytpggilainapoaaa
open Go.RowKit
set_option linter.unusedVariables false
set_option linter.unusedSimpArgs false


theorem stepL_len {cap : Int} {l : List Int} (h : (l.length : Int) ≤ cap) (x : Int) : ((stepL cap l x).length : Int) ≤ cap := by
  unfold stepL
  split
  · unfold pushL
    split
    · exact h
    · simp; omega
  · simp; omega
theorem runS_len {cap : Int} (xs : List Int) : ∀ l : List Int, (l.length : Int) ≤ cap → ((runS cap l xs).length : Int) ≤ cap := by
  induction xs with
  | nil => intro l h; exact h
  | cons x xs ih => intro l h; exact ih _ (stepL_len h x)
theorem mayB_len {cap : Int} {n : Nat} (h : mayB cap n = true) {L : List Int} (hL : (L.length : Int) ≤ cap) : mayB cap L.length = true := by
  unfold mayB at *
  have := of_decide_eq_true h
  exact decide_eq_true ⟨this.1, this.2.1, hL⟩
theorem pushR_eq {cap : Int} {L : List Int} (h : mayB cap L.length = true) (x : Int) : pushRB cap L = pushB cap L ∧ pushRL cap L x = pushL cap L x := by
  unfold pushRB pushRL; rw [h]; exact ⟨rfl, rfl⟩
theorem popR_eq {cap : Int} {L : List Int} (h : mayB cap L.length = true) : popRB cap L = popB L ∧ popRL cap L = L.tail ∧ popRV cap L = popV L := by
  unfold popRB popRL popRV; rw [h]; exact ⟨rfl, rfl, rfl⟩

/-- What holds at each round's head. -/
structure RefRel (w : World) (base : Nat) (cap : Int) (l xs : List Int) (v : Value) (wr : World) (k : Nat) : Prop where
  own : wr.ownsRow base 3 1 v k ((runT cap l (xs.take k)).map (Value.int .i64))
  ring : ∃ A n c, wr.cell? ⟨w.heap.size, 0, none⟩ = some (.int .i64 cap) ∧ wr.cell? ⟨w.heap.size, 1, none⟩ = some (.slice A n c) ∧ Ints wr .i64 A n c (runS cap l (xs.take k)) ∧ (∀ ad, A = some ad → 0 < n → (ad.block < w.heap.size ∨ w.heap.size + 2 ≤ ad.block) ∧ v.ownBlock ≠ some ad.block)
  af : ∀ o, wr.frozen? ⟨w.heap.size, o, none⟩ = false
  ext : Ext w wr
  apart : w.heap.size + 2 ≤ base ∧ base ≤ wr.heap.size
  b0 : wr.cell? ⟨w.heap.size + 1, 0, none⟩ = some (.int .i64 0)
  b1 : wr.cell? ⟨w.heap.size + 1, 1, none⟩ = some (.slice none 0 0)
  bf : ∀ o, wr.frozen? ⟨w.heap.size + 1, o, none⟩ = false
theorem Only.alloc {g : Nat} {a b : World} (h : Only g a b) (o : Obj) : Only g a (b.alloc o) :=
  ⟨⟨h.out.os, h.out.tape, h.out.output, by simpa using Nat.le_succ_of_le h.out.size, fun i hi hne => (Below.heap_alloc b o i (Nat.lt_of_lt_of_le hi h.out.size)).trans (h.out.block i hi hne)⟩⟩
theorem Only.drew {g : Nat} {a b : World} (h : Only g a b) : Only g a b.drew := ⟨⟨h.out.os, h.out.tape, h.out.output, h.out.size, h.out.block⟩⟩
theorem Ext.only {a b : World} (h : Ext a b) (g : Nat) : Only g a b := ⟨⟨h.out.os, h.out.tape, h.out.output, h.out.size, fun i hi _ => h.out.block i hi⟩⟩
theorem RefRel.next {w : World} {base : Nat} {cap : Int} {l xs : List Int} {v : Value} {wr w2 : World} {k : Nat} (R : RefRel w base cap l xs v wr k) (hlt : k < xs.length) {A A2 : Option Addr} {n c n2 c2 : Nat}
    (hA : ∀ ad, A = some ad → 0 < n → (ad.block < w.heap.size ∨ w.heap.size + 2 ≤ ad.block) ∧ v.ownBlock ≠ some ad.block) (hx2 : Ext wr w2)
    (hI2 : Ints w2 .i64 A2 n2 c2 (stepL cap (runS cap l (xs.take k)) (nth xs k))) (hn2 : (A2 = A ∧ n2 = n ∧ c2 = c) ∨ ∀ ad, A2 = some ad → wr.heap.size ≤ ad.block) {v' : Value} {w4 W5 : World} {o : Obj}
    (hown : w4.ownsRow base 3 1 v' (k + 1) ((runT cap l (xs.take k)).map (Value.int .i64) ++ [.int .i64 (stepT cap (runS cap l (xs.take k)) (nth xs k))]))
    (hg : (W5.alloc o).grownBy w4 v.ownBlock) (hat : v'.ownBlock = v.ownBlock ∨ ∃ H, v'.ownBlock = some H ∧ W5.heap.size ≤ H) (hO : Only w.heap.size w2 W5)
    (c0 : W5.cell? ⟨w.heap.size, 0, none⟩ = some (.int .i64 cap)) (c1 : W5.cell? ⟨w.heap.size, 1, none⟩ = some (.slice A2 n2 c2)) (cf : ∀ o, W5.frozen? ⟨w.heap.size, o, none⟩ = false) : RefRel w base cap l xs v' w4 (k + 1) := by
  obtain ⟨e1, e2⟩ := run_succ (cap := cap) (l := l) hlt
  have hap := R.apart
  have z2 := hx2.size
  have za := hO.out.size
  have hlt4 := hg.size
  simp at hlt4
  have hvb : ∀ g, v.ownBlock = some g → base ≤ g ∧ g < wr.heap.size := R.own.lt
  have far : ∀ B, B < W5.heap.size → v.ownBlock ≠ some B → w4.heap[B]? = W5.heap[B]? := by
    intro B h1 h3
    rw [hg.block B (by simp; omega) (fun e => h3 e.symm), Below.heap_alloc _ _ _ h1]
  have hx5 : Ext w W5 := Only.ext (R.ext.trans hx2) hO (Nat.le_refl _)
  have hO' : Only w.heap.size wr W5 := (hx2.only _).trans hO
  have hI5 : Ints W5 .i64 A2 n2 c2 (stepL cap (runS cap l (xs.take k)) (nth xs k)) := by
    refine ⟨hI2.len, hI2.cap, hI2.room, hI2.wf, hI2.nil, fun hn => ?_⟩
    obtain ⟨b, off, e, hc⟩ := hI2.cells hn
    refine ⟨b, off, e, fun i hi => hO.out.cell (hc i hi) (fun e' => ?_)⟩
    have e' := Option.some.inj e'
    simp at e'
    rcases hn2 with ⟨rfl, rfl, rfl⟩ | hn2
    · have := (hA _ e hn).1; simp at this; omega
    · have := hn2 _ e; simp at this; omega
  have hne : ∀ ad, A2 = some ad → 0 < n2 → (ad.block < w.heap.size ∨ w.heap.size + 2 ≤ ad.block) ∧ v.ownBlock ≠ some ad.block := by
    intro ad e hn
    rcases hn2 with ⟨rfl, rfl, rfl⟩ | hn2
    · exact hA _ e hn
    · have := hn2 _ e
      exact ⟨by omega, fun e' => by have := hvb _ e'; omega⟩
  have nvb : ∀ B, B < base → v.ownBlock ≠ some B := fun B hB e => by have := hvb _ e; omega
  have hb : ∀ j u, wr.cell? ⟨w.heap.size + 1, j, none⟩ = some u → w4.cell? ⟨w.heap.size + 1, j, none⟩ = some u := by
    intro j u h
    rw [World.cell?_of_block (w := W5) (far (w.heap.size + 1) (by omega) (nvb _ (by omega)))]
    exact hO'.out.cell h (fun e => by have := Option.some.inj e; simp at this)
  refine ⟨?_, ⟨A2, n2, c2, ?_, ?_, ?_, ?_⟩, ?_, ?_, ⟨hap.1, by omega⟩, hb _ _ R.b0, hb _ _ R.b1, ?_⟩
  · rw [e2, List.map_append]; exact hown
  · rw [World.cell?_of_block (w := W5) (far w.heap.size (by omega) (nvb _ (by omega)))]; exact c0
  · rw [World.cell?_of_block (w := W5) (far w.heap.size (by omega) (nvb _ (by omega)))]; exact c1
  · rw [e1]
    refine ⟨hI5.len, hI5.cap, hI5.room, hI5.wf, hI5.nil, fun hn => ?_⟩
    obtain ⟨b, off, e, hc⟩ := hI5.cells hn
    have hlt2 := World.block_lt_of_cell? W5 _ (hc 0 hn)
    simp at hlt2
    refine ⟨b, off, e, fun i hi => ?_⟩
    rw [World.cell?_of_block (w := W5) (far b hlt2 (hne _ e hn).2)]
    exact hc i hi
  · intro ad e hn
    have hlt2 := Ints.block hI5 hn e
    refine ⟨(hne ad e hn).1, ?_⟩
    rcases hat with h | ⟨H, h, hH⟩
    · rw [h]; exact (hne ad e hn).2
    · rw [h]; intro e'; have := Option.some.inj e'; omega
  · intro j
    rw [World.frozen?_of_block (w := W5) (a := ⟨w.heap.size, j, none⟩) (far w.heap.size (by omega) (nvb _ (by omega)))]
    exact cf j
  · exact (hx5.alloc o).grown hg (fun j hj => by have := hvb _ hj; omega)
  · intro j
    rw [World.frozen?_of_block (w := W5) (a := ⟨w.heap.size + 1, j, none⟩) (far (w.heap.size + 1) (by omega) (nvb _ (by omega)))]
    exact Only.unfrozen hO' (by omega) (by have := World.block_lt_of_cell? wr _ R.b0; simpa using this) R.bf j

theorem NearRing.weak {A : Option Addr} {n c base base' : Nat} {w : World} {v : Value} {cap : Int} {l : List Int} (h : NearRing A n c base w v cap l) (hb : base' ≤ base) : NearRing A n c base' w v cap l :=
  let ⟨A, n, c, e, hi, hn⟩ := h; ⟨A, n, c, e, hi, hn.imp id (fun h ad e => Nat.le_trans hb (h ad e))⟩
/-- A slice that is the old one, or lies behind block B, is not in block B, if the old one lies ahead of it. -/
theorem near_set {W : World} {A A2 : Option Addr} {n c n2 c2 B : Nat} {l l2 : List Int} {wr : World} (h : Ints wr .i64 A n c l) (h2 : Ints W .i64 A2 n2 c2 l2) (hn : (A2 = A ∧ n2 = n ∧ c2 = c) ∨ ∀ ad, A2 = some ad → B < ad.block) (hB : B = wr.heap.size) (u v : Value) :
    Ints ((W.setCell ⟨B, 0, none⟩ u).setCell ⟨B, 1, none⟩ v) .i64 A2 n2 c2 l2 := by
  have : 0 < n2 → ∀ ad, A2 = some ad → ad.block ≠ B := by
    intro h0 ad e
    rcases hn with ⟨rfl, rfl, rfl⟩ | hn
    · have := Ints.block h h0 e; omega
    · have := hn ad e; omega
  exact Ints.setCell (Ints.setCell h2 this _) this _
set_option maxHeartbeats 8000000 in
theorem refRun_yes (A : Option Addr) (n c : Nat) (b off : Nat) (d : Nat) (cap : Int) (l xs : List Int) (w : World) (h : Ints w .i64 A n c l) (g : Ints w .i64 (some ⟨b, off, none⟩) xs.length d xs) (hB : mayB cap n = true) :
    Calls Try.prog 19 #[.agg #[.int .i64 cap, .slice A n c], .slice (some ⟨b, off, none⟩) xs.length d] w fun e w' => ∃ v u, e = .returned (.tuple #[v, u]) ∧ IsRingV w' v cap (runS cap l xs) ∧ IsInts w' .i64 u (runT cap l xs) ∧ Ext w w' := by
  have hcells : ∀ i, i < xs.length → w.cell? ⟨b, off + i, none⟩ = some (.int .i64 (nth xs i)) := fun i hi => by
    obtain ⟨b', off', e, hc⟩ := g.cells (by omega)
    obtain ⟨rfl, rfl⟩ : b = b' ∧ off = off' := by simpa using e
    exact hc i hi
  have HC := Lib.hid hcells
  have hm := fun W => refMay_any A n c cap W
  have HM := Lib.hid hm
  have Hxs := Lib.hid g.wf
  have Hrun := Lib.hid (run_wf (cap := cap) xs l h.wf g.wf)
  have hroom := g.room
  have hcap : (l.length : Int) ≤ cap := by
    rw [h.len]
    unfold mayB at hB
    have := of_decide_eq_true hB
    exact this.2.2
  have hA0 : ∀ ad, A = some ad → 0 < n → ad.block < w.heap.size := fun ad e hn => Ints.block h hn e
  have hext := fun W (k : Ext w W) => h.ext k
  have HX := Lib.hid hext
  clear hm g hcells hext h
  go_enter Try.func19, Try.ntmps19
  go_wp2_with fail
  refine (HM.out _).mono ?_
  rintro e w1 ⟨rfl, hx1⟩
  have e1 := (Ext.trans (((Ext.refl w).alloc _).alloc _) hx1)
  obtain ⟨p0, p1, pf⟩ := hx1.box2 (B := w.heap.size) (a := .int .i64 cap) (b := .slice A n c) (by simp) (by simp) (by simp)
  have pl := lt_of_cell p0
  obtain ⟨q0, q1, qf⟩ := hx1.box2 (B := w.heap.size + 1) (a := .int .i64 0) (b := .slice none 0 0) (by simp) (by simp) (by simp)
  have ql := lt_of_cell q0
  have s1 := hx1.size
  simp at s1
  go_wp2_with fail
  go_loopw [6, 8] (fun v i wr => ∃ k : Nat, k ≤ xs.length ∧ i = .int .i64 k ∧ RefRel w w1.heap.size cap l xs v wr k) (fun _ i _ => xs.length - (intOf i).toNat)
  case atStart => exact ⟨0, Nat.zero_le _, rfl, World.ownsRow_nil _ _ _ _, ⟨A, n, c, p0, p1, HX.out _ e1, fun ad e hn => ⟨.inl (hA0 ad e hn), by simp [Value.ownBlock]⟩⟩, pf, e1, ⟨by omega, Nat.le_refl _⟩, q0, q1, qf⟩
  case round =>
    have hbase : w1.heap.size = w1.heap.size := rfl
    clear p0 p1 pf q0 q1 qf hx1 e1 hA0 HX
    generalize w1.heap.size = base at *
    obtain ⟨k, hk, rfl, R⟩ := hrel
    obtain ⟨A', n', c', a0, a1, hI, hA⟩ := R.ring
    have af := R.af
    have hmay := mayB_len hB (runS_len (xs.take k) l hcap)
    have HAH := Lib.hid hA
    have HR := Lib.hid R
    have HI := Lib.hid hI
    clear hA
    by_cases hlt : k < xs.length
    · have dx := R.ext.cell (HC.out k hlt)
      have hw := Hxs.out (nth xs k) (by rw [nth_eq hlt]; exact List.getElem_mem hlt)
      obtain ⟨pe1, pe2⟩ := pushR_eq hmay (nth xs k)
      obtain ⟨qe1, qe2, qe3⟩ := popR_eq hmay
      by_cases hpos : 0 ≤ nth xs k
      · have HP := fun W h => refPush_any A' n' c' cap (runS cap l (xs.take k)) (nth xs k) hw W h
        rw [pe1, pe2] at HP
        have HPH := Lib.hid (fun W (k : Ext wr W) => (HP W (HI.out.ext k)).mono (fun e w' h => h))
        clear R hI
        clear HP pe1 pe2 qe1 qe2 qe3 hmay hw
        cases hpb : pushB cap (runS cap l (xs.take k)) with
        | true =>
          rw [hpb] at HPH
          have ST : Hid (stepT cap (runS cap l (xs.take k)) (nth xs k) = 1) := by
            show stepT cap (runS cap l (xs.take k)) (nth xs k) = 1
            unfold stepT; simp [hpos, hpb]
          have SL : Hid (stepL cap (runS cap l (xs.take k)) (nth xs k) = pushL cap (runS cap l (xs.take k)) (nth xs k)) := by
            show stepL cap (runS cap l (xs.take k)) (nth xs k) = pushL cap (runS cap l (xs.take k)) (nth xs k)
            unfold stepL; simp [hpos]
          go_wp2_with fail
          have n0 := World.new_ne wr _ a0
          have n1 := World.new_ne wr _ dx
          simp only at n0 n1
          go_region_held3 (fun w' => w'.cell? ⟨w.heap.size, 0, none⟩ = some (.int .i64 cap) ∧ w'.cell? ⟨w.heap.size, 1, none⟩ = some (.slice A' n' c') ∧ w'.cell? ⟨b, off + k, none⟩ = some (.int .i64 (nth xs k))) (go_keep) (first | (go_at_call 16; (with_reducible refine (HPH.out _ ((Ext.refl wr).drew)).mono ?_); rintro e w2 ⟨v2, rfl, ⟨A2, n2, c2, rfl, hI2', hn2'⟩, hx2'⟩; have HI2 := Lib.hid hI2'; have HN2 := Lib.hid hn2'; clear hI2' hn2'; have hx2 := hx2'.undrew; have b0' := hx2.cell a0; have b1' := hx2.cell a1; have bx' := hx2.cell dx; have m0 := World.new_ne w2 _ b0'; have m1 := World.new_ne w2 _ bx'; simp only at m0 m1) | (go_at_call 16; (with_reducible refine (HPH.out _ (((Ext.refl wr).alloc _).drew)).mono ?_); rintro e w2 ⟨v2, rfl, ⟨A2, n2, c2, rfl, hI2', hn2'⟩, hx2'⟩; have HI2 := Lib.hid hI2'; have HN2 := Lib.hid hn2'; clear hI2' hn2'; obtain ⟨d0, d1, df⟩ := hx2'.box2 (B := wr.heap.size) (a := .int .i64 0) (b := .slice none 0 0) (by simp) (by simp) (by simp); have hx2 := (((Ext.refl wr).alloc _).drew).trans hx2'; have b0' := hx2.cell a0; have b1' := hx2.cell a1; have bx' := hx2.cell dx))
          · clear b0' b1' bx' m0 m1 n0 n1 hx2'
            have R0 := HR.out.own
            have z2 := hx2.size
            have zb := HR.out.apart
            have hzz : w.heap.size < w2.heap.size := by first | (have := hx2.size; omega) | (have := hx2.size; simp; omega)
            have N := fun v' w4 W5 o hown hg hat hO => HR.out.next (v' := v') (w4 := w4) (W5 := W5) (w2 := w2) (A := A') (n := n') (c := c') (A2 := A2) (n2 := n2) (c2 := c2) (o := o) hlt HAH.out hx2 (by rw [SL.out]; exact HI2.out) HN2.out hown hg hat hO
            rw [ST.out] at N
            have NH := Lib.hid N
            have ha := hx2.cell a0
            have ha1 := hx2.cell a1
            have haf := hx2.free a0 HR.out.af
            have hO2 := hx2.only w.heap.size
            have n0 := World.new_ne wr _ a0
            simp only at n0
            have hsb : w.heap.size < base := by omega
            clear N HI2 HN2 HAH HI a0 a1 af HR
            go_wp2_with (at_builtin; refine wpList_app rowInts rfl _ _ rfl base _ k ((runT cap l (xs.take k)).map (Value.int .i64)) rfl ?own (some ⟨_, 0, none⟩) 1 1 [.int .i64 (1)] rfl (src_at rfl (by simp)) ?b1 ?b2 ?_)
            case own => exact World.ownsRow.alloc (Only.own ((by repeat (first | assumption | exact Only.refl _ _ | refine Only.alloc ?_ _ | refine Only.drew ?_ | refine Only.drewN ?_ _ | refine Only.setCell ?_ _ _ | refine Only.trans (by assumption) ?_))) R0 hsb) _
            case b1 => omega
            case b2 => simp; omega
            intro v' w4 hown4 hg4 hat4
            have R' := NH.out v' w4 _ _ hown4 hg4 (hat4.imp id (fun h => ⟨_, h, by first | (simp; done) | (simp; omega)⟩)) ((by repeat (first | assumption | exact Only.refl _ _ | refine Only.alloc ?_ _ | refine Only.drew ?_ | refine Only.drewN ?_ _ | refine Only.setCell ?_ _ _ | refine Only.trans (by assumption) ?_))) (by simp (maxDischargeDepth := 7) [go_sem, ha, ha1, hzz, n0]) (by simp (maxDischargeDepth := 7) [go_sem, ha, ha1, hzz, n0]) (by simp (maxDischargeDepth := 7) [go_sem, haf, hzz, n0])
            clear NH R0 hown4 hg4 hat4 ha ha1 haf hx2 hO2
            go_wp2
            go_roundw
            case rel => exact ⟨k + 1, by omega, by go_num, R'⟩
            case measure => simp [intOf]; omega
          · have HI3 := Lib.hid (near_set (B := wr.heap.size) HI.out HI2.out (HN2.out.imp id (fun h ad e => by have := h ad e; simp at this; omega)) rfl (.int .i64 cap) (.slice A2 n2 c2))
            have HN3 := Lib.hid (show (A2 = A' ∧ n2 = n' ∧ c2 = c') ∨ ∀ ad, A2 = some ad → wr.heap.size ≤ ad.block from HN2.out.imp id (fun h ad e => by have := h ad e; simp at this; omega))
            have hx3 := ((hx2.setCell (p := ⟨wr.heap.size, 0, none⟩) (Nat.le_refl _) (.int .i64 cap)).setCell (p := ⟨wr.heap.size, 1, none⟩) (Nat.le_refl _) (.slice A2 n2 c2))
            have z3 := hx2.size
            clear HI2 HN2 n0 n1 hx2' hx2
            have HI2 := HI3
            have HN2 := HN3
            have hx2 := hx3
            clear HI3 HN3 hx3
            have R0 := HR.out.own
            have z2 := hx2.size
            have zb := HR.out.apart
            have hzz : w.heap.size < ((w2.setCell ⟨wr.heap.size, 0, none⟩ (.int .i64 cap)).setCell ⟨wr.heap.size, 1, none⟩ (.slice A2 n2 c2)).heap.size := by first | (have := hx2.size; omega) | (have := hx2.size; simp; omega)
            have N := fun v' w4 W5 o hown hg hat hO => HR.out.next (v' := v') (w4 := w4) (W5 := W5) (w2 := ((w2.setCell ⟨wr.heap.size, 0, none⟩ (.int .i64 cap)).setCell ⟨wr.heap.size, 1, none⟩ (.slice A2 n2 c2))) (A := A') (n := n') (c := c') (A2 := A2) (n2 := n2) (c2 := c2) (o := o) hlt HAH.out hx2 (by rw [SL.out]; exact HI2.out) HN2.out hown hg hat hO
            rw [ST.out] at N
            have NH := Lib.hid N
            have ha := hx2.cell a0
            have ha1 := hx2.cell a1
            have haf := hx2.free a0 HR.out.af
            have hO2 := hx2.only w.heap.size
            have n0 := World.new_ne wr _ a0
            simp only at n0
            have hsb : w.heap.size < base := by omega
            clear N HI2 HN2 HAH HI a0 a1 af HR
            go_wp2_with (at_builtin; refine wpList_app rowInts rfl _ _ rfl base _ k ((runT cap l (xs.take k)).map (Value.int .i64)) rfl ?own (some ⟨_, 0, none⟩) 1 1 [.int .i64 (1)] rfl (src_at rfl (by simp)) ?b1 ?b2 ?_)
            case own => exact World.ownsRow.alloc (Only.own ((by repeat (first | assumption | exact Only.refl _ _ | refine Only.alloc ?_ _ | refine Only.drew ?_ | refine Only.drewN ?_ _ | refine Only.setCell ?_ _ _ | refine Only.trans (by assumption) ?_))) R0 hsb) _
            case b1 => omega
            case b2 => simp; omega
            intro v' w4 hown4 hg4 hat4
            have R' := NH.out v' w4 _ _ hown4 hg4 (hat4.imp id (fun h => ⟨_, h, by first | (simp; done) | (simp; omega)⟩)) ((by repeat (first | assumption | exact Only.refl _ _ | refine Only.alloc ?_ _ | refine Only.drew ?_ | refine Only.drewN ?_ _ | refine Only.setCell ?_ _ _ | refine Only.trans (by assumption) ?_))) (by simp (maxDischargeDepth := 7) [go_sem, ha, ha1, hzz, n0]) (by simp (maxDischargeDepth := 7) [go_sem, ha, ha1, hzz, n0]) (by simp (maxDischargeDepth := 7) [go_sem, haf, hzz, n0])
            clear NH R0 hown4 hg4 hat4 ha ha1 haf hx2 hO2
            go_wp2
            go_roundw
            case rel => exact ⟨k + 1, by omega, by go_num, R'⟩
            case measure => simp [intOf]; omega
        | false =>
          rw [hpb] at HPH
          have ST : Hid (stepT cap (runS cap l (xs.take k)) (nth xs k) = 0) := by
            show stepT cap (runS cap l (xs.take k)) (nth xs k) = 0
            unfold stepT; simp [hpos, hpb]
          have SL : Hid (stepL cap (runS cap l (xs.take k)) (nth xs k) = pushL cap (runS cap l (xs.take k)) (nth xs k)) := by
            show stepL cap (runS cap l (xs.take k)) (nth xs k) = pushL cap (runS cap l (xs.take k)) (nth xs k)
            unfold stepL; simp [hpos]
          go_wp2_with fail
          have n0 := World.new_ne wr _ a0
          have n1 := World.new_ne wr _ dx
          simp only at n0 n1
          go_region_held3 (fun w' => w'.cell? ⟨w.heap.size, 0, none⟩ = some (.int .i64 cap) ∧ w'.cell? ⟨w.heap.size, 1, none⟩ = some (.slice A' n' c') ∧ w'.cell? ⟨b, off + k, none⟩ = some (.int .i64 (nth xs k))) (go_keep) (first | (go_at_call 16; (with_reducible refine (HPH.out _ ((Ext.refl wr).drew)).mono ?_); rintro e w2 ⟨v2, rfl, ⟨A2, n2, c2, rfl, hI2', hn2'⟩, hx2'⟩; have HI2 := Lib.hid hI2'; have HN2 := Lib.hid hn2'; clear hI2' hn2'; have hx2 := hx2'.undrew; have b0' := hx2.cell a0; have b1' := hx2.cell a1; have bx' := hx2.cell dx; have m0 := World.new_ne w2 _ b0'; have m1 := World.new_ne w2 _ bx'; simp only at m0 m1) | (go_at_call 16; (with_reducible refine (HPH.out _ (((Ext.refl wr).alloc _).drew)).mono ?_); rintro e w2 ⟨v2, rfl, ⟨A2, n2, c2, rfl, hI2', hn2'⟩, hx2'⟩; have HI2 := Lib.hid hI2'; have HN2 := Lib.hid hn2'; clear hI2' hn2'; obtain ⟨d0, d1, df⟩ := hx2'.box2 (B := wr.heap.size) (a := .int .i64 0) (b := .slice none 0 0) (by simp) (by simp) (by simp); have hx2 := (((Ext.refl wr).alloc _).drew).trans hx2'; have b0' := hx2.cell a0; have b1' := hx2.cell a1; have bx' := hx2.cell dx))
          · clear b0' b1' bx' m0 m1 n0 n1 hx2'
            have R0 := HR.out.own
            have z2 := hx2.size
            have zb := HR.out.apart
            have hzz : w.heap.size < w2.heap.size := by first | (have := hx2.size; omega) | (have := hx2.size; simp; omega)
            have N := fun v' w4 W5 o hown hg hat hO => HR.out.next (v' := v') (w4 := w4) (W5 := W5) (w2 := w2) (A := A') (n := n') (c := c') (A2 := A2) (n2 := n2) (c2 := c2) (o := o) hlt HAH.out hx2 (by rw [SL.out]; exact HI2.out) HN2.out hown hg hat hO
            rw [ST.out] at N
            have NH := Lib.hid N
            have ha := hx2.cell a0
            have ha1 := hx2.cell a1
            have haf := hx2.free a0 HR.out.af
            have hO2 := hx2.only w.heap.size
            have n0 := World.new_ne wr _ a0
            simp only at n0
            have hsb : w.heap.size < base := by omega
            clear N HI2 HN2 HAH HI a0 a1 af HR
            go_wp2_with (at_builtin; refine wpList_app rowInts rfl _ _ rfl base _ k ((runT cap l (xs.take k)).map (Value.int .i64)) rfl ?own (some ⟨_, 0, none⟩) 1 1 [.int .i64 (0)] rfl (src_at rfl (by simp)) ?b1 ?b2 ?_)
            case own => exact World.ownsRow.alloc (Only.own ((by repeat (first | assumption | exact Only.refl _ _ | refine Only.alloc ?_ _ | refine Only.drew ?_ | refine Only.drewN ?_ _ | refine Only.setCell ?_ _ _ | refine Only.trans (by assumption) ?_))) R0 hsb) _
            case b1 => omega
            case b2 => simp; omega
            intro v' w4 hown4 hg4 hat4
            have R' := NH.out v' w4 _ _ hown4 hg4 (hat4.imp id (fun h => ⟨_, h, by first | (simp; done) | (simp; omega)⟩)) ((by repeat (first | assumption | exact Only.refl _ _ | refine Only.alloc ?_ _ | refine Only.drew ?_ | refine Only.drewN ?_ _ | refine Only.setCell ?_ _ _ | refine Only.trans (by assumption) ?_))) (by simp (maxDischargeDepth := 7) [go_sem, ha, ha1, hzz, n0]) (by simp (maxDischargeDepth := 7) [go_sem, ha, ha1, hzz, n0]) (by simp (maxDischargeDepth := 7) [go_sem, haf, hzz, n0])
            clear NH R0 hown4 hg4 hat4 ha ha1 haf hx2 hO2
            go_wp2
            go_roundw
            case rel => exact ⟨k + 1, by omega, by go_num, R'⟩
            case measure => simp [intOf]; omega
          · have HI3 := Lib.hid (near_set (B := wr.heap.size) HI.out HI2.out (HN2.out.imp id (fun h ad e => by have := h ad e; simp at this; omega)) rfl (.int .i64 cap) (.slice A2 n2 c2))
            have HN3 := Lib.hid (show (A2 = A' ∧ n2 = n' ∧ c2 = c') ∨ ∀ ad, A2 = some ad → wr.heap.size ≤ ad.block from HN2.out.imp id (fun h ad e => by have := h ad e; simp at this; omega))
            have hx3 := ((hx2.setCell (p := ⟨wr.heap.size, 0, none⟩) (Nat.le_refl _) (.int .i64 cap)).setCell (p := ⟨wr.heap.size, 1, none⟩) (Nat.le_refl _) (.slice A2 n2 c2))
            have z3 := hx2.size
            clear HI2 HN2 n0 n1 hx2' hx2
            have HI2 := HI3
            have HN2 := HN3
            have hx2 := hx3
            clear HI3 HN3 hx3
            have R0 := HR.out.own
            have z2 := hx2.size
            have zb := HR.out.apart
            have hzz : w.heap.size < ((w2.setCell ⟨wr.heap.size, 0, none⟩ (.int .i64 cap)).setCell ⟨wr.heap.size, 1, none⟩ (.slice A2 n2 c2)).heap.size := by first | (have := hx2.size; omega) | (have := hx2.size; simp; omega)
            have N := fun v' w4 W5 o hown hg hat hO => HR.out.next (v' := v') (w4 := w4) (W5 := W5) (w2 := ((w2.setCell ⟨wr.heap.size, 0, none⟩ (.int .i64 cap)).setCell ⟨wr.heap.size, 1, none⟩ (.slice A2 n2 c2))) (A := A') (n := n') (c := c') (A2 := A2) (n2 := n2) (c2 := c2) (o := o) hlt HAH.out hx2 (by rw [SL.out]; exact HI2.out) HN2.out hown hg hat hO
            rw [ST.out] at N
            have NH := Lib.hid N
            have ha := hx2.cell a0
            have ha1 := hx2.cell a1
            have haf := hx2.free a0 HR.out.af
            have hO2 := hx2.only w.heap.size
            have n0 := World.new_ne wr _ a0
            simp only at n0
            have hsb : w.heap.size < base := by omega
            clear N HI2 HN2 HAH HI a0 a1 af HR
            go_wp2_with (at_builtin; refine wpList_app rowInts rfl _ _ rfl base _ k ((runT cap l (xs.take k)).map (Value.int .i64)) rfl ?own (some ⟨_, 0, none⟩) 1 1 [.int .i64 (0)] rfl (src_at rfl (by simp)) ?b1 ?b2 ?_)
            case own => exact World.ownsRow.alloc (Only.own ((by repeat (first | assumption | exact Only.refl _ _ | refine Only.alloc ?_ _ | refine Only.drew ?_ | refine Only.drewN ?_ _ | refine Only.setCell ?_ _ _ | refine Only.trans (by assumption) ?_))) R0 hsb) _
            case b1 => omega
            case b2 => simp; omega
            intro v' w4 hown4 hg4 hat4
            have R' := NH.out v' w4 _ _ hown4 hg4 (hat4.imp id (fun h => ⟨_, h, by first | (simp; done) | (simp; omega)⟩)) ((by repeat (first | assumption | exact Only.refl _ _ | refine Only.alloc ?_ _ | refine Only.drew ?_ | refine Only.drewN ?_ _ | refine Only.setCell ?_ _ _ | refine Only.trans (by assumption) ?_))) (by simp (maxDischargeDepth := 7) [go_sem, ha, ha1, hzz, n0]) (by simp (maxDischargeDepth := 7) [go_sem, ha, ha1, hzz, n0]) (by simp (maxDischargeDepth := 7) [go_sem, haf, hzz, n0])
            clear NH R0 hown4 hg4 hat4 ha ha1 haf hx2 hO2
            go_wp2
            go_roundw
            case rel => exact ⟨k + 1, by omega, by go_num, R'⟩
            case measure => simp [intOf]; omega
      · have HP := fun W h => refPop_any A' n' c' cap (runS cap l (xs.take k)) W h
        rw [qe1, qe2, qe3] at HP
        have HPH := Lib.hid (fun W (k : Ext wr W) => HP W (HI.out.ext k))
        clear R hI
        clear HP pe1 pe2 qe1 qe2 qe3 hmay hw
        cases hpb : popB (runS cap l (xs.take k)) with
        | true =>
          rw [hpb] at HPH
          have ST : Hid (stepT cap (runS cap l (xs.take k)) (nth xs k) = popV (runS cap l (xs.take k))) := by
            show stepT cap (runS cap l (xs.take k)) (nth xs k) = popV (runS cap l (xs.take k))
            unfold stepT; simp [hpos, hpb]
          have SL : Hid (stepL cap (runS cap l (xs.take k)) (nth xs k) = (runS cap l (xs.take k)).tail) := by
            show stepL cap (runS cap l (xs.take k)) (nth xs k) = (runS cap l (xs.take k)).tail
            unfold stepL; simp [hpos]
          go_wp2_with fail
          refine (HPH.out _ (Ext.refl _)).mono ?_
          rintro e w2 ⟨v2, rfl, ⟨A2, n2, c2, rfl, hI2', hn2'⟩, hx2⟩
          have HI2 := Lib.hid hI2'
          have HN2 := Lib.hid hn2'
          clear hI2' hn2'
          have R0 := HR.out.own
          have z2 := hx2.size
          have zb := HR.out.apart
          have hzz : w.heap.size < w2.heap.size := by first | (have := hx2.size; omega) | (have := hx2.size; simp; omega)
          have N := fun v' w4 W5 o hown hg hat hO => HR.out.next (v' := v') (w4 := w4) (W5 := W5) (w2 := w2) (A := A') (n := n') (c := c') (A2 := A2) (n2 := n2) (c2 := c2) (o := o) hlt HAH.out hx2 (by rw [SL.out]; exact HI2.out) HN2.out hown hg hat hO
          rw [ST.out] at N
          have NH := Lib.hid N
          have ha := hx2.cell a0
          have ha1 := hx2.cell a1
          have haf := hx2.free a0 HR.out.af
          have hO2 := hx2.only w.heap.size
          have n0 := World.new_ne wr _ a0
          simp only at n0
          have hsb : w.heap.size < base := by omega
          clear N HI2 HN2 HAH HI a0 a1 af HR
          go_wp2_with (at_builtin; refine wpList_app rowInts rfl _ _ rfl base _ k ((runT cap l (xs.take k)).map (Value.int .i64)) rfl ?own (some ⟨_, 0, none⟩) 1 1 [.int .i64 (popV (runS cap l (xs.take k)))] rfl (src_at rfl (by simp)) ?b1 ?b2 ?_)
          case own => exact World.ownsRow.alloc (Only.own ((by repeat (first | assumption | exact Only.refl _ _ | refine Only.alloc ?_ _ | refine Only.drew ?_ | refine Only.drewN ?_ _ | refine Only.setCell ?_ _ _ | refine Only.trans (by assumption) ?_))) R0 hsb) _
          case b1 => omega
          case b2 => simp; omega
          intro v' w4 hown4 hg4 hat4
          have R' := NH.out v' w4 _ _ hown4 hg4 (hat4.imp id (fun h => ⟨_, h, by first | (simp; done) | (simp; omega)⟩)) ((by repeat (first | assumption | exact Only.refl _ _ | refine Only.alloc ?_ _ | refine Only.drew ?_ | refine Only.drewN ?_ _ | refine Only.setCell ?_ _ _ | refine Only.trans (by assumption) ?_))) (by simp (maxDischargeDepth := 7) [go_sem, ha, ha1, hzz, n0]) (by simp (maxDischargeDepth := 7) [go_sem, ha, ha1, hzz, n0]) (by simp (maxDischargeDepth := 7) [go_sem, haf, hzz, n0])
          clear NH R0 hown4 hg4 hat4 ha ha1 haf hx2 hO2
          go_wp2
          go_roundw
          case rel => exact ⟨k + 1, by omega, by go_num, R'⟩
          case measure => simp [intOf]; omega
        | false =>
          rw [hpb] at HPH
          have ST : Hid (stepT cap (runS cap l (xs.take k)) (nth xs k) = (-1)) := by
            show stepT cap (runS cap l (xs.take k)) (nth xs k) = (-1)
            unfold stepT; simp [hpos, hpb]
          have SL : Hid (stepL cap (runS cap l (xs.take k)) (nth xs k) = (runS cap l (xs.take k)).tail) := by
            show stepL cap (runS cap l (xs.take k)) (nth xs k) = (runS cap l (xs.take k)).tail
            unfold stepL; simp [hpos]
          go_wp2_with fail
          refine (HPH.out _ (Ext.refl _)).mono ?_
          rintro e w2 ⟨v2, rfl, ⟨A2, n2, c2, rfl, hI2', hn2'⟩, hx2⟩
          have HI2 := Lib.hid hI2'
          have HN2 := Lib.hid hn2'
          clear hI2' hn2'
          have R0 := HR.out.own
          have z2 := hx2.size
          have zb := HR.out.apart
          have hzz : w.heap.size < w2.heap.size := by first | (have := hx2.size; omega) | (have := hx2.size; simp; omega)
          have N := fun v' w4 W5 o hown hg hat hO => HR.out.next (v' := v') (w4 := w4) (W5 := W5) (w2 := w2) (A := A') (n := n') (c := c') (A2 := A2) (n2 := n2) (c2 := c2) (o := o) hlt HAH.out hx2 (by rw [SL.out]; exact HI2.out) HN2.out hown hg hat hO
          rw [ST.out] at N
          have NH := Lib.hid N
          have ha := hx2.cell a0
          have ha1 := hx2.cell a1
          have haf := hx2.free a0 HR.out.af
          have hO2 := hx2.only w.heap.size
          have n0 := World.new_ne wr _ a0
          simp only at n0
          have hsb : w.heap.size < base := by omega
          clear N HI2 HN2 HAH HI a0 a1 af HR
          go_wp2_with (at_builtin; refine wpList_app rowInts rfl _ _ rfl base _ k ((runT cap l (xs.take k)).map (Value.int .i64)) rfl ?own (some ⟨_, 0, none⟩) 1 1 [.int .i64 ((-1))] rfl (src_at rfl (by simp)) ?b1 ?b2 ?_)
          case own => exact World.ownsRow.alloc (Only.own ((by repeat (first | assumption | exact Only.refl _ _ | refine Only.alloc ?_ _ | refine Only.drew ?_ | refine Only.drewN ?_ _ | refine Only.setCell ?_ _ _ | refine Only.trans (by assumption) ?_))) R0 hsb) _
          case b1 => omega
          case b2 => simp; omega
          intro v' w4 hown4 hg4 hat4
          have R' := NH.out v' w4 _ _ hown4 hg4 (hat4.imp id (fun h => ⟨_, h, by first | (simp; done) | (simp; omega)⟩)) ((by repeat (first | assumption | exact Only.refl _ _ | refine Only.alloc ?_ _ | refine Only.drew ?_ | refine Only.drewN ?_ _ | refine Only.setCell ?_ _ _ | refine Only.trans (by assumption) ?_))) (by simp (maxDischargeDepth := 7) [go_sem, ha, ha1, hzz, n0]) (by simp (maxDischargeDepth := 7) [go_sem, ha, ha1, hzz, n0]) (by simp (maxDischargeDepth := 7) [go_sem, haf, hzz, n0])
          clear NH R0 hown4 hg4 hat4 ha ha1 haf hx2 hO2
          go_wp2
          go_roundw
          case rel => exact ⟨k + 1, by omega, by go_num, R'⟩
          case measure => simp [intOf]; omega
    · have e : k = xs.length := by omega
      subst e
      rw [List.take_length] at hI
      have ro := HR.out.own
      rw [List.take_length] at ro
      have b0 := HR.out.b0
      have b1 := HR.out.b1
      have bf := HR.out.bf
      have ex := HR.out.ext
      have z1 := HR.out.apart
      have W1 := Hrun.out
      have hA := HAH.out
      clear R HR HI HAH
      go_wp2
      refine bodyPost_ret (v := .tuple #[.agg #[.int .i64 cap, .slice A' n' c'], u6]) (by simp (maxDischargeDepth := 7) [results, Try.results19, go_sem, b0, b1]) rfl ⟨_, _, rfl, ⟨A', n', c', rfl, ?_⟩, ?_, ?_⟩
      · exact Ints.setCell (Ints.setCell hI (fun h0 ad e => by have := (hA ad e h0).1; simp; omega) _) (fun h0 ad e => by have := (hA ad e h0).1; simp; omega) _
      · exact isInts_own (own_setCell (own_setCell ro (by first | omega | (simp; omega)) _) (by first | omega | (simp; omega)) _) (by omega) W1.2
      · exact (ex.setCell (by simp) _).setCell (by simp) _
set_option maxHeartbeats 4000000 in
theorem refRun_zero (A : Option Addr) (n c : Nat) (B : Option Addr) (m d : Nat) (cap : Int) (l : List Int) (w : World) (h : Ints w .i64 A n c l) (hB : mayB cap n = false ∨ m = 0) :
    Calls Try.prog 19 #[.agg #[.int .i64 cap, .slice A n c], .slice B m d] w fun e w' => ∃ v u, e = .returned (.tuple #[v, u]) ∧ IsRingV w' v cap l ∧ IsInts w' .i64 u [] ∧ Ext w w' := by
  have hext := fun W (k : Ext w W) => h.ext k
  have HX := Lib.hid hext
  have hm := fun W => refMay_any A n c cap W
  have HM := Lib.hid hm
  clear hext h hm
  by_cases hm0 : m = 0
  · subst hm0
    clear hB
    go_enter Try.func19, Try.ntmps19
    go_wp2_with fail
    refine (HM.out _).mono ?_
    rintro e w1 ⟨rfl, hx1⟩
    have e1 := (Ext.trans (((Ext.refl w).alloc _).alloc _) hx1)
    obtain ⟨p0, p1, pf⟩ := hx1.box2 (B := w.heap.size) (a := .int .i64 cap) (b := .slice A n c) (by simp) (by simp) (by simp)
    have pl := lt_of_cell p0
    obtain ⟨q0, q1, qf⟩ := hx1.box2 (B := w.heap.size + 1) (a := .int .i64 0) (b := .slice none 0 0) (by simp) (by simp) (by simp)
    have ql := lt_of_cell q0
    have s1 := hx1.size
    simp at s1
    go_wp2_with fail
    go_loopw [6, 8] (fun v i wr => i = .int .i64 0 ∧ v = .slice none 0 0 ∧ wr = w1) (fun _ _ _ => 0)
    case atStart => exact ⟨rfl, rfl, rfl⟩
    case round =>
      obtain ⟨rfl, rfl, rfl⟩ := hrel
      go_wp2
      refine bodyPost_ret (v := .tuple #[.agg #[.int .i64 cap, .slice A n c], .slice none 0 0]) (by simp (maxDischargeDepth := 7) [results, Try.results19, go_sem, p0, p1, q0, q1, pf, qf]) rfl ⟨_, _, rfl, ⟨A, n, c, rfl, ?_⟩, ⟨none, 0, 0, rfl, Ints.nil_mk _ _⟩, ?_⟩
      · exact HX.out _ ((e1.setCell (by simp) _).setCell (by simp) _)
      · exact (e1.setCell (by simp) _).setCell (by simp) _
  · have hb : mayB cap n = false := by rcases hB with h | h; exact h; exact absurd h hm0
    rw [hb] at HM
    by_cases hlt : (0 : Int) < m
    · go_enter Try.func19, Try.ntmps19
      go_wp2_with fail
      refine (HM.out _).mono ?_
      rintro e w1 ⟨rfl, hx1⟩
      have e1 := (Ext.trans (((Ext.refl w).alloc _).alloc _) hx1)
      obtain ⟨p0, p1, pf⟩ := hx1.box2 (B := w.heap.size) (a := .int .i64 cap) (b := .slice A n c) (by simp) (by simp) (by simp)
      have pl := lt_of_cell p0
      obtain ⟨q0, q1, qf⟩ := hx1.box2 (B := w.heap.size + 1) (a := .int .i64 0) (b := .slice none 0 0) (by simp) (by simp) (by simp)
      have ql := lt_of_cell q0
      have s1 := hx1.size
      simp at s1
      go_wp2_with fail
      go_loopw [6, 8] (fun v i wr => i = .int .i64 0 ∧ v = .slice none 0 0 ∧ wr = w1) (fun _ _ _ => 0)
      case atStart => exact ⟨rfl, rfl, rfl⟩
      case round =>
        obtain ⟨rfl, rfl, rfl⟩ := hrel
        go_wp2
        refine bodyPost_ret (v := .tuple #[.agg #[.int .i64 cap, .slice A n c], .slice none 0 0]) (by simp (maxDischargeDepth := 7) [results, Try.results19, go_sem, p0, p1, q0, q1, pf, qf]) rfl ⟨_, _, rfl, ⟨A, n, c, rfl, ?_⟩, ⟨none, 0, 0, rfl, Ints.nil_mk _ _⟩, ?_⟩
        · exact HX.out _ ((e1.setCell (by simp) _).setCell (by simp) _)
        · exact (e1.setCell (by simp) _).setCell (by simp) _
    · omega
theorem refRun_any (A : Option Addr) (n c : Nat) (B : Option Addr) (m d : Nat) (cap : Int) (l xs : List Int) (w : World) (h : Ints w .i64 A n c l) (g : Ints w .i64 B m d xs) :
    Calls Try.prog 19 #[.agg #[.int .i64 cap, .slice A n c], .slice B m d] w fun e w' => ∃ v u, e = .returned (.tuple #[v, u]) ∧ IsRingV w' v cap (runRS cap l xs) ∧ IsInts w' .i64 u (runRT cap l xs) ∧ Ext w w' := by
  have hl := h.len
  cases hB : mayB cap n with
  | false =>
    rw [show runRS cap l xs = l by unfold runRS; rw [hl, hB]; rfl, show runRT cap l xs = [] by unfold runRT; rw [hl, hB]; rfl]
    exact refRun_zero A n c B m d cap l w h (.inl hB)
  | true =>
    rcases g.view with hm | ⟨b, off, rfl, _⟩
    · have : xs = [] := List.eq_nil_of_length_eq_zero (by rw [g.len]; exact hm)
      subst this
      rw [show runRS cap l [] = l by unfold runRS; split <;> rfl, show runRT cap l [] = [] by unfold runRT; split <;> rfl]
      exact refRun_zero A n c B m d cap l w h (.inr hm)
    · rw [show runRS cap l xs = runS cap l xs by unfold runRS; rw [hl, hB]; rfl, show runRT cap l xs = runT cap l xs by unfold runRT; rw [hl, hB]; rfl]
      have hm := g.len
      subst hm
      exact refRun_yes A n c b off d cap l xs w h g hB
end Go.Proofs.Ytpggilainapoaaa
