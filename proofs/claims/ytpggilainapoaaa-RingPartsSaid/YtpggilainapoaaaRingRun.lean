/- The contract of layer 4's Run: it goes through numbers as the plain functions below do. -/
import Derived.Test.YtpggilainapoaaaRingOps
namespace Go.Proofs.Ytpggilainapoaaa
open Go.RowKit
set_option linter.unusedVariables false
set_option linter.unusedSimpArgs false

/-- One number: what is told, and what is left. -/
def stepT (cap : Int) (l : List Int) (x : Int) : Int := if 0 ≤ x then (if pushB cap l then 1 else 0) else if popB l then popV l else -1
def stepL (cap : Int) (l : List Int) (x : Int) : List Int := if 0 ≤ x then pushL cap l x else l.tail
/-- Numbers: what is left, and what is told. -/
def runS (cap : Int) (l : List Int) (xs : List Int) : List Int := xs.foldl (stepL cap) l
def runT (cap : Int) : List Int → List Int → List Int
  | _, [] => []
  | l, x :: xs => stepT cap l x :: runT cap (stepL cap l x) xs
theorem runS_append (cap : Int) (l xs ys : List Int) : runS cap l (xs ++ ys) = runS cap (runS cap l xs) ys := by simp [runS]
theorem runT_append (cap : Int) (xs ys : List Int) : ∀ l, runT cap l (xs ++ ys) = runT cap l xs ++ runT cap (runS cap l xs) ys := by
  induction xs with
  | nil => intro l; rfl
  | cons x xs ih => intro l; simp only [List.cons_append, runT, ih]; rfl
theorem runT_length (cap : Int) (xs : List Int) : ∀ l, (runT cap l xs).length = xs.length := by
  induction xs with
  | nil => intro l; rfl
  | cons x xs ih => intro l; simp [runT, ih]
theorem run_succ {cap : Int} {l xs : List Int} {k : Nat} (h : k < xs.length) :
    runS cap l (xs.take (k + 1)) = stepL cap (runS cap l (xs.take k)) (nth xs k) ∧ runT cap l (xs.take (k + 1)) = runT cap l (xs.take k) ++ [stepT cap (runS cap l (xs.take k)) (nth xs k)] := by
  rw [take_nth h, runS_append, runT_append]
  exact ⟨rfl, rfl⟩
theorem stepT_wf {cap : Int} {l : List Int} (h : ∀ x ∈ l, (Lit.int .i64 x).wf = true) (x : Int) : (Lit.int .i64 (stepT cap l x)).wf = true := by
  unfold stepT
  split
  · split <;> decide
  · split
    · cases l with
      | nil => decide
      | cons a l => exact h a (by simp)
    · decide
theorem stepL_wf {cap : Int} {l : List Int} (h : ∀ x ∈ l, (Lit.int .i64 x).wf = true) {x : Int} (hx : (Lit.int .i64 x).wf = true) : ∀ y ∈ stepL cap l x, (Lit.int .i64 y).wf = true := by
  unfold stepL
  split
  · unfold pushL
    split
    · exact h
    · intro y hy
      rcases List.mem_append.1 hy with hy | hy
      · exact h y hy
      · simp at hy; subst hy; exact hx
  · intro y hy; exact h y (List.mem_of_mem_tail hy)
theorem run_wf {cap : Int} (xs : List Int) : ∀ (l : List Int), (∀ x ∈ l, (Lit.int .i64 x).wf = true) → (∀ x ∈ xs, (Lit.int .i64 x).wf = true) → (∀ y ∈ runS cap l xs, (Lit.int .i64 y).wf = true) ∧ (∀ y ∈ runT cap l xs, (Lit.int .i64 y).wf = true) := by
  induction xs with
  | nil => intro l h _; exact ⟨h, by simp [runT]⟩
  | cons x xs ih =>
    intro l h hx
    have := ih (stepL cap l x) (stepL_wf h (hx x (by simp))) (fun y hy => hx y (by simp [hy]))
    refine ⟨this.1, fun y hy => ?_⟩
    simp only [runT, List.mem_cons] at hy
    rcases hy with rfl | hy
    · exact stepT_wf h x
    · exact this.2 y hy
def runRS (cap : Int) (l xs : List Int) : List Int := if mayB cap l.length then runS cap l xs else l
def runRT (cap : Int) (l xs : List Int) : List Int := if mayB cap l.length then runT cap l xs else []

theorem fresh_own_le {w : World} {base b n : Nat} {e : TypeId} {k : IntKind} {v : Value} {l : List Int} (h : w.ownsRow base e 1 v n (l.map (Value.int k))) (hn : n ≤ 17592186043904) (hwf : ∀ x ∈ l, (Lit.int k x).wf = true) (hb : b ≤ base) : FreshInts b w k v l := by
  obtain ⟨A, N, c, rfl, I⟩ := isInts_own h hn hwf
  refine ⟨A, N, c, rfl, I, fun ad e => ?_⟩
  subst e
  exact Nat.le_trans hb (own_from h _ rfl)
set_option maxHeartbeats 4000000 in
theorem ringRun_no (A : Option Addr) (n c : Nat) (B : Option Addr) (m d : Nat) (cap : Int) (l : List Int) (w : World) (h : Ints w .i64 A n c l) (hB : mayB cap n = false) :
    Calls Try.prog 11 #[.agg #[.int .i64 cap, .slice A n c], .slice B m d] w fun e w' => ∃ v u, e = .returned (.tuple #[v, u]) ∧ IsRingV w' v cap l ∧ IsInts w' .i64 u [] ∧ Ext w w' := by
  have hm := fun W => may_any A n c cap W
  have HM := Lib.hid hm
  have ho := fun W (k : Ext w W) => own_any A n c cap l W (h.ext k)
  have HO := Lib.hid ho
  clear hm ho h
  go_enter Try.func11, Try.ntmps11
  go_wp2_with fail
  refine (HM.out _).mono ?_
  rintro e w1 ⟨rfl, hx1⟩
  have e1 := (Ext.trans (((Ext.refl w).alloc _).alloc _) hx1)
  obtain ⟨p0, p1, pf⟩ := hx1.box2 (B := w.heap.size) (a := .int .i64 cap) (b := .slice A n c) (by simp) (by simp) (by simp)
  obtain ⟨q0, q1, qf⟩ := hx1.box2 (B := w.heap.size + 1) (a := .int .i64 0) (b := .slice none 0 0) (by simp) (by simp) (by simp)
  have s1 := hx1.size
  simp at s1
  go_wp2_with fail
  refine (HO.out _ e1).mono ?_
  rintro e w2 ⟨v, rfl, ⟨A2, n2, c2, rfl, hI, hfr⟩, hx2⟩
  have e2 := e1.trans hx2
  have r0 := hx2.box2 q0 q1 qf
  obtain ⟨r0, r1, rf⟩ := r0
  clear p0 p1 pf q0 q1 qf
  go_wp2
  refine bodyPost_ret (v := .tuple #[.agg #[.int .i64 cap, .slice A2 n2 c2], .slice none 0 0]) (by simp (maxDischargeDepth := 7) [results, Try.results11, go_sem, r0, r1]) rfl ⟨_, _, rfl, ⟨A2, n2, c2, rfl, ?_⟩, ⟨none, 0, 0, rfl, Ints.nil_mk _ _⟩, ?_⟩
  · exact Ints.setCell (Ints.setCell hI (fun _ ad e => by have := hfr ad e; simp; omega) _) (fun _ ad e => by have := hfr ad e; simp; omega) _
  · exact (e2.setCell (by simp) _).setCell (by simp) _

/-- What holds at each round's head: k numbers have been gone through. -/
structure RunRel (w : World) (g base : Nat) (cap : Int) (l xs : List Int) (v : Value) (wr : World) (k : Nat) : Prop where
  own : wr.ownsRow base 3 1 v k ((runT cap l (xs.take k)).map (Value.int .i64))
  ring : IsRing wr g cap (runS cap l (xs.take k))
  ext : Ext w wr
  apart : w.heap.size + 2 ≤ g ∧ g < base ∧ base ≤ wr.heap.size
  a0 : wr.cell? ⟨w.heap.size, 0, none⟩ = some (.int .i64 cap)
  b0 : wr.cell? ⟨w.heap.size + 1, 0, none⟩ = some (.int .i64 0)
  b1 : wr.cell? ⟨w.heap.size + 1, 1, none⟩ = some (.slice none 0 0)
  bf : ∀ o, wr.frozen? ⟨w.heap.size + 1, o, none⟩ = false
theorem RunRel.next {w : World} {g base : Nat} {cap : Int} {l xs : List Int} {v v' : Value} {wr w3 w4 : World} {k : Nat} (R : RunRel w g base cap l xs v wr k) (hlt : k < xs.length)
    (ho : Only g wr w3) (hr : IsRing w3 g cap (stepL cap (runS cap l (xs.take k)) (nth xs k))) {o : Obj}
    (hown : w4.ownsRow base 3 1 v' (k + 1) ((runT cap l (xs.take k)).map (Value.int .i64) ++ [.int .i64 (stepT cap (runS cap l (xs.take k)) (nth xs k))])) (hg : (w3.alloc o).grownBy w4 v.ownBlock) : RunRel w g base cap l xs v' w4 (k + 1) := by
  obtain ⟨e1, e2⟩ := run_succ (cap := cap) (l := l) hlt
  have hsz : w.heap.size + 2 ≤ wr.heap.size := by have := R.apart; omega
  have hgl : g < wr.heap.size := by have := R.apart; omega
  have own3 : (w3.alloc o).ownsRow base 3 1 v k _ := (ho.own R.own R.apart.2.1).alloc o
  have far : ∀ B, B < base → B ≠ g → B < wr.heap.size → w4.heap[B]? = wr.heap[B]? := by
    intro B h1 h2 h3
    have h4 := hg.block B (by have := ho.out.size; simp; omega) (own_ne own3 h1)
    rw [h4, Below.heap_alloc _ _ _ (by have := ho.out.size; omega), ho.out.block B h3 (fun e => h2 (Option.some.inj e))]
  have hx : Ext w w3 := Only.ext R.ext ho (by have := R.apart; omega)
  refine ⟨?_, ?_, (hx.alloc o).grown hg (fun j hj => by have := own_from own3 j hj; have := R.apart; omega), ⟨R.apart.1, R.apart.2.1, ?_⟩, ?_, ?_, ?_, ?_⟩
  · rw [e2, List.map_append]; exact hown
  · rw [e1]
    refine hr.kept ?_
    rw [hg.block g (by have := ho.out.size; simp; omega) (own_ne own3 R.apart.2.1), Below.heap_alloc _ _ _ (by have := ho.out.size; omega)]
  · have := hg.size; have := ho.out.size; have := R.apart; simp at *; omega
  · rw [World.cell?_of_block (w := wr) (far w.heap.size (by have := R.apart; omega) (by have := R.apart; omega) (by omega))]; exact R.a0
  · rw [World.cell?_of_block (w := wr) (far (w.heap.size + 1) (by have := R.apart; omega) (by have := R.apart; omega) (by omega))]; exact R.b0
  · rw [World.cell?_of_block (w := wr) (far (w.heap.size + 1) (by have := R.apart; omega) (by have := R.apart; omega) (by omega))]; exact R.b1
  · intro j
    rw [World.frozen?_of_block (w := wr) (a := ⟨w.heap.size + 1, j, none⟩) (far (w.heap.size + 1) (by have := R.apart; omega) (by have := R.apart; omega) (by omega))]; exact R.bf j

set_option maxHeartbeats 8000000 in
theorem ringRun_fresh (A : Option Addr) (n c : Nat) (B : Option Addr) (m d : Nat) (cap : Int) (l xs : List Int) (w : World) (h : Ints w .i64 A n c l) (g : Ints w .i64 B m d xs) (hB : mayB cap n = true) :
    Calls Try.prog 11 #[.agg #[.int .i64 cap, .slice A n c], .slice B m d] w fun e w' => ∃ A n c u, e = .returned (.tuple #[.agg #[.int .i64 cap, .slice A n c], u]) ∧ Ints w' .i64 A n c (runS cap l xs) ∧ (∀ ad, A = some ad → w.heap.size ≤ ad.block) ∧ FreshInts w.heap.size w' .i64 u (runT cap l xs) ∧ Ext w w' := by
  obtain ⟨i0, hi, hz0, hz1, hz2⟩ := info_parts (show (Try.prog.info? 3).map (fun i => (i.zero, i.size, i.bytes)) = some (some (.int .i64 0), 1, 8) by kernel_rfl)
  have hm := fun W => may_any A n c cap W
  have HM := Lib.hid hm
  have hcap : (n : Int) ≤ cap ∧ cap ≤ 8 := by
    unfold mayB at hB
    have := of_decide_eq_true hB
    exact ⟨this.2.2, this.2.1⟩
  have ho := fun W (k : Ext w W) => of_any A n c cap l W (h.ext k) hcap
  have HO := Lib.hid ho
  have HP := Lib.hid (fun g L x (hx : (Lit.int .i64 x).wf = true) W (k : IsRing W g cap L) => push_any g cap L x hx W k)
  have HQ := Lib.hid (fun g L W (k : IsRing W g cap L) => pop_any g cap L W k)
  have HL := Lib.hid (fun g L W (k : IsRing W g cap L) => list_any g cap L W k)
  have Hxs := Lib.hid g.wf
  have Hrun := Lib.hid (run_wf (cap := cap) xs l h.wf g.wf)
  have Hl := Lib.hid h.wf
  have hv := g.view
  have hroom := g.room
  obtain rfl := g.len
  clear hm ho h hcap g
  rcases hv with h0 | ⟨b, off, rfl, hc⟩
  · obtain rfl := List.eq_nil_of_length_eq_zero h0
    go_enter Try.func11, Try.ntmps11
    go_wp2_with fail
    refine (HM.out _).mono ?_
    rintro e w1 ⟨rfl, hx1⟩
    have e1 := (Ext.trans (((Ext.refl w).alloc _).alloc _) hx1)
    obtain ⟨p0, p1, pf⟩ := hx1.box2 (B := w.heap.size) (a := .int .i64 cap) (b := .slice A n c) (by simp) (by simp) (by simp)
    obtain ⟨q0, q1, qf⟩ := hx1.box2 (B := w.heap.size + 1) (a := .int .i64 0) (b := .slice none 0 0) (by simp) (by simp) (by simp)
    have s1 := hx1.size
    simp at s1
    go_wp2_with fail
    refine (HO.out _ e1).mono ?_
    rintro e w2 ⟨rfl, hr2, hx2⟩
    have e2 := e1.trans hx2
    have r2 := hx2.box2 p0 p1 pf
    obtain ⟨p0', p1', pf'⟩ := r2
    have r3 := hx2.box2 q0 q1 qf
    obtain ⟨q0', q1', qf'⟩ := r3
    clear p0 p1 pf q0 q1 qf
    have hg : w1.heap.size < w2.heap.size := by obtain ⟨_, _, r⟩ := hr2; exact r.lt
    go_wp2_with fail
    go_loopw [7, 25] (fun v i wr => i = .int .i64 0 ∧ RunRel w w1.heap.size w2.heap.size cap l [] v wr 0) (fun _ _ _ => 0)
    case atStart => exact ⟨rfl, World.ownsRow_nil _ _ _ _, hr2, e2, ⟨by omega, hg, Nat.le_refl _⟩, p0', q0', q1', qf'⟩
    case round =>
      clear p0' p1' pf' q0' q1' qf' hr2 e2 e1 hx1 hx2
      obtain ⟨rfl, R⟩ := hrel
      have rr := R.ring
      have ro := R.own
      simp only [List.take_length, List.take_zero] at rr ro
      have a0 := R.a0
      have b0 := R.b0
      have b1 := R.b1
      have bf := R.bf
      have ex := R.ext
      have z1 := R.apart
      have HR := Lib.hid rr
      clear R rr
      go_wp2_with fail
      go_region_held3 (fun w' => w'.cell? ⟨w.heap.size, 0, none⟩ = some (.int .i64 cap)) (first | go_keep | exact hx4.cell a0) ((go_at_call 26; refine (HL.out _ _ _ (by exact HR.out.kept rfl)).mono ?_; rintro e w4 ⟨v4, rfl, ⟨A2, n2, c2, rfl, hI, hfr⟩, hx4⟩; obtain ⟨d0, d1, df⟩ := hx4.box2d b0 b1 bf))
      have y1 := hx4.undrew
      have y2 := y1.size
      have W1 := Hrun.out
      go_wp2
      refine bodyPost_ret (v := .tuple #[.agg #[.int .i64 cap, .slice A2 n2 c2], u7]) (by simp (maxDischargeDepth := 7) [results, Try.results11, go_sem, d0, d1]) rfl ⟨A2, n2, c2, u7, rfl, ?_, ?_, ?_, ?_⟩
      · exact Ints.setCell (Ints.setCell hI (fun _ ad e => by have := hfr ad e; simp at this ⊢; omega) _) (fun _ ad e => by have := hfr ad e; simp at this ⊢; omega) _
      · exact fun ad e => by have := hfr ad e; simp at this; omega
      · exact fresh_own_le (own_setCell (own_setCell (own_ext ro y1) (by first | omega | (simp; omega)) _) (by first | omega | (simp; omega)) _) (by omega) W1.2 (by omega)
      · exact ((ex.trans y1).setCell (by simp) _).setCell (by simp) _
  · go_enter Try.func11, Try.ntmps11
    go_wp2_with fail
    refine (HM.out _).mono ?_
    rintro e w1 ⟨rfl, hx1⟩
    have e1 := (Ext.trans (((Ext.refl w).alloc _).alloc _) hx1)
    obtain ⟨p0, p1, pf⟩ := hx1.box2 (B := w.heap.size) (a := .int .i64 cap) (b := .slice A n c) (by simp) (by simp) (by simp)
    obtain ⟨q0, q1, qf⟩ := hx1.box2 (B := w.heap.size + 1) (a := .int .i64 0) (b := .slice none 0 0) (by simp) (by simp) (by simp)
    have s1 := hx1.size
    simp at s1
    go_wp2_with fail
    refine (HO.out _ e1).mono ?_
    rintro e w2 ⟨rfl, hr2, hx2⟩
    have e2 := e1.trans hx2
    have r2 := hx2.box2 p0 p1 pf
    obtain ⟨p0', p1', pf'⟩ := r2
    have r3 := hx2.box2 q0 q1 qf
    obtain ⟨q0', q1', qf'⟩ := r3
    clear p0 p1 pf q0 q1 qf
    have hg : w1.heap.size < w2.heap.size := by obtain ⟨_, _, r⟩ := hr2; exact r.lt
    go_wp2_with fail
    go_loopw [7, 25] (fun v i wr => ∃ k : Nat, k ≤ xs.length ∧ i = .int .i64 k ∧ RunRel w w1.heap.size w2.heap.size cap l xs v wr k) (fun _ i _ => xs.length - (intOf i).toNat)
    case atStart => exact ⟨0, Nat.zero_le _, rfl, World.ownsRow_nil _ _ _ _, hr2, e2, ⟨by omega, hg, Nat.le_refl _⟩, p0', q0', q1', qf'⟩
    case round =>
      clear p0' p1' pf' q0' q1' qf' hr2 e2 e1 hx1 hx2
      obtain ⟨k, hk, rfl, R⟩ := hrel
      by_cases hlt : k < xs.length
      · have hx := R.ext
        have dx := (hx.cell (hc k hlt))
        have hw := Hxs.out (nth xs k) (by rw [nth_eq hlt]; exact List.getElem_mem hlt)
        clear hx
        by_cases hpos : 0 ≤ nth xs k
        · cases hpb : pushB cap (runS cap l (xs.take k)) with
          | true =>
            have ST : Hid (stepT cap (runS cap l (xs.take k)) (nth xs k) = 1) := by
              show stepT cap (runS cap l (xs.take k)) (nth xs k) = 1
              unfold stepT; simp [hpos, hpb]
            have SL : Hid (stepL cap (runS cap l (xs.take k)) (nth xs k) = pushL cap (runS cap l (xs.take k)) (nth xs k)) := by
              show stepL cap (runS cap l (xs.take k)) (nth xs k) = pushL cap (runS cap l (xs.take k)) (nth xs k)
              unfold stepL; simp [hpos]
            go_wp2_with fail
            refine (HP.out _ _ _ hw _ R.ring).mono ?_
            rintro e w3 ⟨rfl, hr3, ho3⟩
            have own3 := ho3.own R.own R.apart.2.1
            have N := fun v' w4 => R.next (v' := v') (w4 := w4) hlt ho3 (by rw [SL.out]; exact hr3) (o := .cells #[.int .i64 1] 3)
            rw [ST.out] at N
            have NH := Lib.hid N
            have z3 := ho3.out.size
            have zb := R.apart.2.2
            clear N hr3 ho3 R dx
            go_wp2_with (at_builtin; refine wpList_append_own _ rfl _ _ _ rfl w2.heap.size 3 i0 (.int .i64 0) 1 8 Try.underlying22 hi hz0 hz1 hz2 rfl (by decide) _ k _ rfl (own3.alloc _) ⟨w3.heap.size, 0, none⟩ 1 1 [.int .i64 1] rfl rfl (cell_one_new _ _ _) (by simp [Value.oneCell']) (by unfold maxLen; omega) (by omega) (by simp; omega) ?_)
            intro v' w4 hown4 hgrow4 _
            have R' := NH.out v' w4 hown4 hgrow4
            clear NH own3 hown4 hgrow4
            go_wp2
            go_roundw
            case rel => exact ⟨k + 1, by omega, by go_num, R'⟩
            case measure => simp [intOf]; omega
          | false =>
            have ST : Hid (stepT cap (runS cap l (xs.take k)) (nth xs k) = 0) := by
              show stepT cap (runS cap l (xs.take k)) (nth xs k) = 0
              unfold stepT; simp [hpos, hpb]
            have SL : Hid (stepL cap (runS cap l (xs.take k)) (nth xs k) = pushL cap (runS cap l (xs.take k)) (nth xs k)) := by
              show stepL cap (runS cap l (xs.take k)) (nth xs k) = pushL cap (runS cap l (xs.take k)) (nth xs k)
              unfold stepL; simp [hpos]
            go_wp2_with fail
            refine (HP.out _ _ _ hw _ R.ring).mono ?_
            rintro e w3 ⟨rfl, hr3, ho3⟩
            have own3 := ho3.own R.own R.apart.2.1
            have N := fun v' w4 => R.next (v' := v') (w4 := w4) hlt ho3 (by rw [SL.out]; exact hr3) (o := .cells #[.int .i64 0] 3)
            rw [ST.out] at N
            have NH := Lib.hid N
            have z3 := ho3.out.size
            have zb := R.apart.2.2
            clear N hr3 ho3 R dx
            go_wp2_with (at_builtin; refine wpList_append_own _ rfl _ _ _ rfl w2.heap.size 3 i0 (.int .i64 0) 1 8 Try.underlying22 hi hz0 hz1 hz2 rfl (by decide) _ k _ rfl (own3.alloc _) ⟨w3.heap.size, 0, none⟩ 1 1 [.int .i64 0] rfl rfl (cell_one_new _ _ _) (by simp [Value.oneCell']) (by unfold maxLen; omega) (by omega) (by simp; omega) ?_)
            intro v' w4 hown4 hgrow4 _
            have R' := NH.out v' w4 hown4 hgrow4
            clear NH own3 hown4 hgrow4
            go_wp2
            go_roundw
            case rel => exact ⟨k + 1, by omega, by go_num, R'⟩
            case measure => simp [intOf]; omega
        · cases hpb : popB (runS cap l (xs.take k)) with
          | true =>
            have ST : Hid (stepT cap (runS cap l (xs.take k)) (nth xs k) = (popV (runS cap l (xs.take k)))) := by
              show stepT cap (runS cap l (xs.take k)) (nth xs k) = (popV (runS cap l (xs.take k)))
              unfold stepT; simp [hpos, hpb]
            have SL : Hid (stepL cap (runS cap l (xs.take k)) (nth xs k) = (runS cap l (xs.take k)).tail) := by
              show stepL cap (runS cap l (xs.take k)) (nth xs k) = (runS cap l (xs.take k)).tail
              unfold stepL; simp [hpos]
            go_wp2_with fail
            refine (HQ.out _ _ _ R.ring).mono ?_
            rintro e w3 ⟨rfl, hr3, ho3⟩
            have own3 := ho3.own R.own R.apart.2.1
            have N := fun v' w4 => R.next (v' := v') (w4 := w4) hlt ho3 (by rw [SL.out]; exact hr3) (o := .cells #[.int .i64 (popV (runS cap l (xs.take k)))] 3)
            rw [ST.out] at N
            have NH := Lib.hid N
            have z3 := ho3.out.size
            have zb := R.apart.2.2
            clear N hr3 ho3 R dx
            go_wp2_with (at_builtin; refine wpList_append_own _ rfl _ _ _ rfl w2.heap.size 3 i0 (.int .i64 0) 1 8 Try.underlying22 hi hz0 hz1 hz2 rfl (by decide) _ k _ rfl (own3.alloc _) ⟨w3.heap.size, 0, none⟩ 1 1 [.int .i64 (popV (runS cap l (xs.take k)))] rfl rfl (cell_one_new _ _ _) (by simp [Value.oneCell']) (by unfold maxLen; omega) (by omega) (by simp; omega) ?_)
            intro v' w4 hown4 hgrow4 _
            have R' := NH.out v' w4 hown4 hgrow4
            clear NH own3 hown4 hgrow4
            go_wp2
            go_roundw
            case rel => exact ⟨k + 1, by omega, by go_num, R'⟩
            case measure => simp [intOf]; omega
          | false =>
            have ST : Hid (stepT cap (runS cap l (xs.take k)) (nth xs k) = (-1)) := by
              show stepT cap (runS cap l (xs.take k)) (nth xs k) = (-1)
              unfold stepT; simp [hpos, hpb]
            have SL : Hid (stepL cap (runS cap l (xs.take k)) (nth xs k) = (runS cap l (xs.take k)).tail) := by
              show stepL cap (runS cap l (xs.take k)) (nth xs k) = (runS cap l (xs.take k)).tail
              unfold stepL; simp [hpos]
            go_wp2_with fail
            refine (HQ.out _ _ _ R.ring).mono ?_
            rintro e w3 ⟨rfl, hr3, ho3⟩
            have own3 := ho3.own R.own R.apart.2.1
            have N := fun v' w4 => R.next (v' := v') (w4 := w4) hlt ho3 (by rw [SL.out]; exact hr3) (o := .cells #[.int .i64 (-1)] 3)
            rw [ST.out] at N
            have NH := Lib.hid N
            have z3 := ho3.out.size
            have zb := R.apart.2.2
            clear N hr3 ho3 R dx
            go_wp2_with (at_builtin; refine wpList_append_own _ rfl _ _ _ rfl w2.heap.size 3 i0 (.int .i64 0) 1 8 Try.underlying22 hi hz0 hz1 hz2 rfl (by decide) _ k _ rfl (own3.alloc _) ⟨w3.heap.size, 0, none⟩ 1 1 [.int .i64 (-1)] rfl rfl (cell_one_new _ _ _) (by simp [Value.oneCell']) (by unfold maxLen; omega) (by omega) (by simp; omega) ?_)
            intro v' w4 hown4 hgrow4 _
            have R' := NH.out v' w4 hown4 hgrow4
            clear NH own3 hown4 hgrow4
            go_wp2
            go_roundw
            case rel => exact ⟨k + 1, by omega, by go_num, R'⟩
            case measure => simp [intOf]; omega
      · have e : k = xs.length := by omega
        subst e
        have rr := R.ring
        have ro := R.own
        simp only [List.take_length, List.take_zero] at rr ro
        have a0 := R.a0
        have b0 := R.b0
        have b1 := R.b1
        have bf := R.bf
        have ex := R.ext
        have z1 := R.apart
        have HR := Lib.hid rr
        clear R rr
        go_wp2_with fail
        go_region_held3 (fun w' => w'.cell? ⟨w.heap.size, 0, none⟩ = some (.int .i64 cap)) (first | go_keep | exact hx4.cell a0) ((go_at_call 26; refine (HL.out _ _ _ (by exact HR.out.kept rfl)).mono ?_; rintro e w4 ⟨v4, rfl, ⟨A2, n2, c2, rfl, hI, hfr⟩, hx4⟩; obtain ⟨d0, d1, df⟩ := hx4.box2d b0 b1 bf))
        have y1 := hx4.undrew
        have y2 := y1.size
        have W1 := Hrun.out
        go_wp2
        refine bodyPost_ret (v := .tuple #[.agg #[.int .i64 cap, .slice A2 n2 c2], u7]) (by simp (maxDischargeDepth := 7) [results, Try.results11, go_sem, d0, d1]) rfl ⟨A2, n2, c2, u7, rfl, ?_, ?_, ?_, ?_⟩
        · exact Ints.setCell (Ints.setCell hI (fun _ ad e => by have := hfr ad e; simp at this ⊢; omega) _) (fun _ ad e => by have := hfr ad e; simp at this ⊢; omega) _
        · exact fun ad e => by have := hfr ad e; simp at this; omega
        · exact fresh_own_le (own_setCell (own_setCell (own_ext ro y1) (by first | omega | (simp; omega)) _) (by first | omega | (simp; omega)) _) (by omega) W1.2 (by omega)
        · exact ((ex.trans y1).setCell (by simp) _).setCell (by simp) _
theorem ringRun_yes (A : Option Addr) (n c : Nat) (B : Option Addr) (m d : Nat) (cap : Int) (l xs : List Int) (w : World) (h : Ints w .i64 A n c l) (g : Ints w .i64 B m d xs) (hB : mayB cap n = true) :
    Calls Try.prog 11 #[.agg #[.int .i64 cap, .slice A n c], .slice B m d] w fun e w' => ∃ v u, e = .returned (.tuple #[v, u]) ∧ IsRingV w' v cap (runS cap l xs) ∧ IsInts w' .i64 u (runT cap l xs) ∧ Ext w w' :=
  (ringRun_fresh A n c B m d cap l xs w h g hB).mono fun e w' ⟨A, n, c, u, e1, hi, _, hu, hx⟩ => ⟨_, u, e1, ⟨A, n, c, rfl, hi⟩, hu.is, hx⟩
end Go.Proofs.Ytpggilainapoaaa
