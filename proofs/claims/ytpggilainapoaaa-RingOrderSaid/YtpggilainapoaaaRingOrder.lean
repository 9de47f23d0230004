/- RingOrder: what is taken out of a ring is what was there, and then what was put, in order; nothing is lost, and nothing told twice; for every input. -/
import Derived.Test.YtpggilainapoaaaRingLaw
namespace Go.Proofs.Ytpggilainapoaaa
open Go.RowKit Go.WideShapes Go.ChangeShapes
set_option linter.unusedVariables false
set_option linter.unusedSimpArgs false


theorem runT_nth {cap : Int} : ∀ (xs l : List Int) (k : Nat), k < xs.length → nth (runT cap l xs) k = stepT cap (runS cap l (xs.take k)) (nth xs k) := by
  intro xs
  induction xs with
  | nil => intro l k h; simp at h
  | cons x xs ih =>
    intro l k h
    cases k with
    | zero => rfl
    | succ k =>
      have := ih (stepL cap l x) k (by simpa using h)
      simpa [runT, nth, runS] using this
theorem own_form {w : World} {base : Nat} {e : TypeId} {size : Nat} {v : Value} {n : Nat} {xs : List Value} (h : w.ownsRow base e size v n xs) : ∃ A N c, v = .slice A N c ∧ N = n := by
  rcases h.2 with ⟨rfl, rfl⟩ | ⟨g, cap, cur, rfl, _⟩
  · exact ⟨none, 0, 0, rfl, rfl⟩
  · exact ⟨_, n, cap, rfl, rfl⟩

/-- What holds at each round's head: so much has gone in, and so much has come out. -/
structure OrdRel (w : World) (base : Nat) (cap : Int) (l xs : List Int) (v8 v9 : Value) (wr : World) (k : Nat) (outs : List Int) : Prop where
  own8 : wr.ownsRow base 3 1 v8 (outs.length + (runS cap l (xs.take k)).length) (outs.map (Value.int .i64) ++ (runS cap l (xs.take k)).map (Value.int .i64))
  own9 : wr.ownsRow base 3 1 v9 outs.length (outs.map (Value.int .i64))
  few : outs.length + (runS cap l (xs.take k)).length ≤ l.length + k
  wf : ∀ x ∈ outs, (Lit.int .i64 x).wf = true
  apart : ∀ g, v8.ownBlock = some g → v9.ownBlock ≠ some g
  ext : Ext w wr
  from' : w.heap.size ≤ base
  size : base ≤ wr.heap.size
namespace OrdRel
variable {w : World} {base : Nat} {cap : Int} {l xs : List Int} {v8 v9 v' : Value} {wr w' : World} {k : Nat} {outs : List Int}
theorem push (R : OrdRel w base cap l xs v8 v9 wr k outs) (hlt : k < xs.length) (hp : 0 ≤ nth xs k) (hb : pushB cap (runS cap l (xs.take k)) = true) {o : Obj}
    (hown : w'.ownsRow base 3 1 v' (outs.length + (runS cap l (xs.take k)).length + 1) (outs.map (Value.int .i64) ++ (runS cap l (xs.take k)).map (Value.int .i64) ++ [.int .i64 (nth xs k)])) (hg : (wr.alloc o).grownBy w' v8.ownBlock)
    (hat : v'.ownBlock = v8.ownBlock ∨ v'.ownBlock = some (wr.alloc o).heap.size) : OrdRel w base cap l xs v' v9 w' (k + 1) outs := by
  have e : runS cap l (xs.take (k + 1)) = runS cap l (xs.take k) ++ [nth xs k] := by
    rw [(run_succ hlt).1]
    unfold stepL pushL
    unfold pushB at hb
    simp at hb
    rw [if_pos hp, if_neg hb]
  have h9 : w'.ownsRow base 3 1 v9 outs.length (outs.map (Value.int .i64)) := (R.own9.alloc o).kept hg (by
    cases hv : v9.ownBlock with
    | none => exact .inl rfl
    | some g => exact .inr (fun e => R.apart g e.symm hv))
  have hsz := hg.size
  simp at hsz
  have := R.few
  have := R.size
  refine ⟨?_, h9, by rw [e]; simp; omega, R.wf, ?_, (R.ext.alloc o).grown hg (fun j hj => Nat.le_trans R.from' (own_from R.own8 j hj)), R.from', by omega⟩
  · rw [e]; simpa [Nat.add_assoc] using hown
  · intro g hg'
    rcases hat with h | h
    · exact R.apart g (by rw [← h]; exact hg')
    · rw [h] at hg'
      obtain rfl := Option.some.inj hg'
      intro e'
      have := (R.own9.lt _ e').2
      have h5 : (wr.alloc o).heap.size = wr.heap.size + 1 := by simp
      omega
theorem skip (R : OrdRel w base cap l xs v8 v9 wr k outs) (hlt : k < xs.length) (h : stepL cap (runS cap l (xs.take k)) (nth xs k) = runS cap l (xs.take k)) : OrdRel w base cap l xs v8 v9 wr (k + 1) outs := by
  have e : runS cap l (xs.take (k + 1)) = runS cap l (xs.take k) := by rw [(run_succ hlt).1, h]
  exact ⟨by rw [e]; exact R.own8, R.own9, by rw [e]; have := R.few; omega, R.wf, R.apart, R.ext, R.from', R.size⟩
theorem pop (R : OrdRel w base cap l xs v8 v9 wr k outs) (hlt : k < xs.length) (hp : ¬ 0 ≤ nth xs k) (hb : popB (runS cap l (xs.take k)) = true) (hw : (Lit.int .i64 (popV (runS cap l (xs.take k)))).wf = true) {o : Obj}
    (hown : w'.ownsRow base 3 1 v' (outs.length + 1) (outs.map (Value.int .i64) ++ [.int .i64 (popV (runS cap l (xs.take k)))])) (hg : (wr.alloc o).grownBy w' v9.ownBlock)
    (hat : v'.ownBlock = v9.ownBlock ∨ v'.ownBlock = some (wr.alloc o).heap.size) : OrdRel w base cap l xs v8 v' w' (k + 1) (outs ++ [popV (runS cap l (xs.take k))]) := by
  have e : runS cap l (xs.take k) = popV (runS cap l (xs.take k)) :: runS cap l (xs.take (k + 1)) := by
    have h1 : runS cap l (xs.take (k + 1)) = (runS cap l (xs.take k)).tail := by
      rw [(run_succ hlt).1]
      unfold stepL
      rw [if_neg hp]
    rw [h1]
    unfold popB at hb
    cases hr : runS cap l (xs.take k) with
    | nil => rw [hr] at hb; simp at hb
    | cons a r => rfl
  have h8 : w'.ownsRow base 3 1 v8 (outs.length + (runS cap l (xs.take k)).length) (outs.map (Value.int .i64) ++ (runS cap l (xs.take k)).map (Value.int .i64)) := (R.own8.alloc o).kept hg (by
    cases hv : v8.ownBlock with
    | none => exact .inl rfl
    | some g => exact .inr (fun e => R.apart g hv e.symm))
  have hsz := hg.size
  simp at hsz
  have hf := R.few
  have := R.size
  have el : (runS cap l (xs.take k)).length = (runS cap l (xs.take (k + 1))).length + 1 := by rw [e]; simp
  refine ⟨?_, by simpa using hown, by simp; omega, ?_, ?_, (R.ext.alloc o).grown hg (fun j hj => Nat.le_trans R.from' (own_from R.own9 j hj)), R.from', by omega⟩
  · have e1 : outs ++ runS cap l (xs.take k) = outs ++ [popV (runS cap l (xs.take k))] ++ runS cap l (xs.take (k + 1)) := by
      rw [List.append_assoc, List.singleton_append, ← e]
    rw [← List.map_append, ← e1, List.map_append]
    have e2 : (outs ++ [popV (runS cap l (xs.take k))]).length + (runS cap l (xs.take (k + 1))).length = outs.length + (runS cap l (xs.take k)).length := by simp; omega
    rw [e2]
    exact h8
  · intro x hx
    rcases List.mem_append.1 hx with hx | hx
    · exact R.wf x hx
    · simp at hx; subst hx; exact hw
  · intro g hg'
    rcases hat with h | h
    · rw [h]; exact R.apart g hg'
    · rw [h]
      intro e'
      obtain rfl := Option.some.inj e'
      have := (R.own8.lt _ hg').2
      have h5 : (wr.alloc o).heap.size = wr.heap.size + 1 := by simp
      omega
end OrdRel

set_option maxHeartbeats 8000000 in
theorem RingOrder_walk {w : World} (A : Option Addr) (n c : Nat) (cap : Int) (l : List Int) (hcap : (Lit.int .i64 cap).wf = true) (h : Ints w .i64 A n c l) (B : Option Addr) (m d : Nat) (xs : List Int) (g : Ints w .i64 B m d xs) :
    Calls Try.prog 3 #[.agg #[.int .i64 cap, .slice A n c], .slice B m d] w fun e w' => e = .returned (.bool true) ∧ Ext w w' := by
  have hm := fun W => may_any A n c cap W
  have HA := Lib.hid (fun W (k : Ext w W) => h.ext k)
  have HB := Lib.hid (fun W (k : Ext w W) => g.ext k)
  have Hl := Lib.hid h.wf
  have Hxs := Lib.hid g.wf
  have hl := h.len
  have hlm := g.len
  have hgv := g.view
  clear hcap h g
  cases hB : mayB cap n with
  | false =>
    rw [hB] at hm
    have HM := Lib.hid hm
    clear hm
    go_enter Try.func3, Try.ntmps3
    go_wp2_with fail
    refine (awake_any _).mono ?_
    rintro e w1 ⟨rfl, hx1⟩
    have k1 : Ext w w1 := Ext.trans ((by repeat (first | assumption | exact Ext.refl _ | refine Ext.alloc ?_ _ | refine Ext.drew ?_ | refine Ext.drewN ?_ _ | refine Ext.setCell ?_ (by first | (simp; done) | omega | (simp; omega)) _ | refine Ext.trans (by assumption) ?_))) hx1
    have z1 := k1.size
    obtain ⟨r0, r1, rf⟩ := hx1.box2 (B := w.heap.size) (a := .int .i64 cap) (b := .slice A n c) (by simp) (by simp) (by simp)
    have rl := lt_of_cell r0
    go_wp2_with fail
    refine (HM.out _).mono ?_
    rintro e w2 ⟨rfl, hx2⟩
    have k2 : Ext w1 w2 := Ext.trans ((by repeat (first | assumption | exact Ext.refl _ | refine Ext.alloc ?_ _ | refine Ext.drew ?_ | refine Ext.drewN ?_ _ | refine Ext.setCell ?_ (by first | (simp; done) | omega | (simp; omega)) _ | refine Ext.trans (by assumption) ?_))) hx2
    have z2 := k2.size
    replace rf := k2.free r0 rf
    replace r0 := k2.cell r0
    replace r1 := k2.cell r1
    replace rl := lt_of_cell r0
    go_wp2
    go_ret
    exact ⟨rfl, (by repeat (first | assumption | exact Ext.refl _ | refine Ext.alloc ?_ _ | refine Ext.drew ?_ | refine Ext.drewN ?_ _ | refine Ext.setCell ?_ (by first | (simp; done) | omega | (simp; omega)) _ | refine Ext.trans (by assumption) ?_))⟩
  | true =>
    rw [hB] at hm
    have HM := Lib.hid hm
    clear hm
    by_cases h100 : (100 : Int) < m
    · go_enter Try.func3, Try.ntmps3
      go_wp2_with fail
      refine (awake_any _).mono ?_
      rintro e w1 ⟨rfl, hx1⟩
      have k1 : Ext w w1 := Ext.trans ((by repeat (first | assumption | exact Ext.refl _ | refine Ext.alloc ?_ _ | refine Ext.drew ?_ | refine Ext.drewN ?_ _ | refine Ext.setCell ?_ (by first | (simp; done) | omega | (simp; omega)) _ | refine Ext.trans (by assumption) ?_))) hx1
      have z1 := k1.size
      obtain ⟨r0, r1, rf⟩ := hx1.box2 (B := w.heap.size) (a := .int .i64 cap) (b := .slice A n c) (by simp) (by simp) (by simp)
      have rl := lt_of_cell r0
      go_wp2_with fail
      refine (HM.out _).mono ?_
      rintro e w2 ⟨rfl, hx2⟩
      have k2 : Ext w1 w2 := Ext.trans ((by repeat (first | assumption | exact Ext.refl _ | refine Ext.alloc ?_ _ | refine Ext.drew ?_ | refine Ext.drewN ?_ _ | refine Ext.setCell ?_ (by first | (simp; done) | omega | (simp; omega)) _ | refine Ext.trans (by assumption) ?_))) hx2
      have z2 := k2.size
      replace rf := k2.free r0 rf
      replace r0 := k2.cell r0
      replace r1 := k2.cell r1
      replace rl := lt_of_cell r0
      go_wp2
      go_ret
      exact ⟨rfl, (by repeat (first | assumption | exact Ext.refl _ | refine Ext.alloc ?_ _ | refine Ext.drew ?_ | refine Ext.drewN ?_ _ | refine Ext.setCell ?_ (by first | (simp; done) | omega | (simp; omega)) _ | refine Ext.trans (by assumption) ?_))⟩
    · have hn8 : n ≤ 8 := by
        unfold mayB at hB
        have := of_decide_eq_true hB
        omega
      subst hlm
      have HRun := Lib.hid (fun W (k : Ext w W) => ringRun_yes A n c B xs.length d cap l xs W (HA.out W k) (HB.out W k) hB)
      clear hB
      go_enter Try.func3, Try.ntmps3
      go_wp2_with fail
      refine (awake_any _).mono ?_
      rintro e w1 ⟨rfl, hx1⟩
      have k1 : Ext w w1 := Ext.trans ((by repeat (first | assumption | exact Ext.refl _ | refine Ext.alloc ?_ _ | refine Ext.drew ?_ | refine Ext.drewN ?_ _ | refine Ext.setCell ?_ (by first | (simp; done) | omega | (simp; omega)) _ | refine Ext.trans (by assumption) ?_))) hx1
      have z1 := k1.size
      obtain ⟨r0, r1, rf⟩ := hx1.box2 (B := w.heap.size) (a := .int .i64 cap) (b := .slice A n c) (by simp) (by simp) (by simp)
      have rl := lt_of_cell r0
      go_wp2_with fail
      refine (HM.out _).mono ?_
      rintro e w2 ⟨rfl, hx2⟩
      have k2 : Ext w1 w2 := Ext.trans ((by repeat (first | assumption | exact Ext.refl _ | refine Ext.alloc ?_ _ | refine Ext.drew ?_ | refine Ext.drewN ?_ _ | refine Ext.setCell ?_ (by first | (simp; done) | omega | (simp; omega)) _ | refine Ext.trans (by assumption) ?_))) hx2
      have z2 := k2.size
      replace rf := k2.free r0 rf
      replace r0 := k2.cell r0
      replace r1 := k2.cell r1
      replace rl := lt_of_cell r0
      go_wp2_with fail
      refine (HRun.out _ ((by repeat (first | assumption | exact Ext.refl _ | refine Ext.alloc ?_ _ | refine Ext.drew ?_ | refine Ext.drewN ?_ _ | refine Ext.setCell ?_ (by first | (simp; done) | omega | (simp; omega)) _ | refine Ext.trans (by assumption) ?_)))).mono ?_
      rintro e w3 ⟨v3, u3, rfl, ⟨A3, n3, c3, rfl, I3⟩, ⟨B3, m3, d3, rfl, J3⟩, hx3⟩
      have k3 : Ext w2 w3 := Ext.trans ((by repeat (first | assumption | exact Ext.refl _ | refine Ext.alloc ?_ _ | refine Ext.drew ?_ | refine Ext.drewN ?_ _ | refine Ext.setCell ?_ (by first | (simp; done) | omega | (simp; omega)) _ | refine Ext.trans (by assumption) ?_))) hx3
      have z3 := k3.size
      have H3 := Lib.hid (fun W (k : Ext w3 W) => I3.ext k)
      have G3 := Lib.hid (fun W (k : Ext w3 W) => J3.ext k)
      replace rf := k3.free r0 rf
      replace r0 := k3.cell r0
      replace r1 := k3.cell r1
      replace rl := lt_of_cell r0
      have hm3 : xs.length = m3 := by rw [← J3.len, runT_length]
      subst hm3
      have jv := J3.view
      have hsr := HA.out w3 ((k1.trans k2).trans k3)
      have HSR := Lib.hid (ints_src hsr)
      clear J3 I3 hsr
      go_wp2_with (at_builtin; refine wpList_app rowInts rfl _ _ rfl (w3.heap.size + 1) _ 0 [] rfl (own_new _ _ _ _) A n c (l.map (Value.int .i64)) rfl ?src ?b1 ?b2 ?_)
      case src => exact HSR.out.ext ((by repeat (first | assumption | exact Ext.refl _ | refine Ext.alloc ?_ _ | refine Ext.drew ?_ | refine Ext.drewN ?_ _ | refine Ext.setCell ?_ (by first | (simp; done) | omega | (simp; omega)) _ | refine Ext.trans (by assumption) ?_)))
      case b1 => omega
      case b2 => simp
      intro v8 w4 hown4 hg4 _
      have k34 : Ext w3 (w3.alloc (.cells #[.int .i64 cap, .slice A3 n3 c3] 24)) := (Ext.refl _).alloc _
      have s0 : ((w3.alloc (.cells #[.int .i64 cap, .slice A3 n3 c3] 24))).cell? ⟨w3.heap.size, 0, none⟩ = some (.int .i64 cap) := by simp
      have s1 : ((w3.alloc (.cells #[.int .i64 cap, .slice A3 n3 c3] 24))).cell? ⟨w3.heap.size, 1, none⟩ = some (.slice A3 n3 c3) := by simp
      have R0 : OrdRel ((w3.alloc (.cells #[.int .i64 cap, .slice A3 n3 c3] 24))) (w3.heap.size + 1) cap l xs v8 (.slice none 0 0) w4 0 [] :=
        ⟨by simpa [runS, hl] using hown4, own_new _ _ _ _, by simp [runS], by simp, by simp [Value.ownBlock], (Ext.refl _).grown hg4 (fun j hj => by cases hj), by simp, by have := hg4.size; simpa using this⟩
      clear hown4 hg4 r0 r1 rf rl
      rcases hgv with h0 | ⟨b, off, rfl, hc⟩
      · have h00 := Lib.hid h0
        clear h0
        go_wp2
        go_loopw [8, 9, 10] (fun v8 v9 i wr => ∃ k outs, k ≤ xs.length ∧ i = .int .i64 (k : Nat) ∧ OrdRel ((w3.alloc (.cells #[.int .i64 cap, .slice A3 n3 c3] 24))) (w3.heap.size + 1) cap l xs v8 v9 wr k outs) (fun _ _ _ _ => 0)
        case atStart => exact ⟨0, [], Nat.zero_le _, rfl, R0⟩
        case round =>
          clear R0
          obtain ⟨k, outs, hk, rfl, R⟩ := hrel
          obtain ⟨A8, N8, c8, rfl, hN8⟩ := own_form R.own8
          obtain ⟨A9, N9, c9, rfl, hN9⟩ := own_form R.own9
          have HR := Lib.hid R
          have o8 := R.own8
          have o9 := R.own9
          have hfew := R.few
          rw [← hN8] at o8 hfew
          rw [← hN9] at o9
          have hb9 : N9 ≤ l.length + k := by omega
          have HN8 := Lib.hid hN8
          have HN9 := Lib.hid hN9
          have hz := R.size
          have hx := R.ext
          clear R hN8 hN9
          have hlt : ¬ k < xs.length := by have := h00.out; omega
          have e : k = xs.length := by omega
          subst e
          have hn8 := HN8.out
          have hn9 := HN9.out
          rw [List.take_length] at o8 hn8
          have ap := HR.out.apart
          have hwf := HR.out.wf
          have hfr := HR.out.from'
          have s0' := hx.cell s0
          have s1' := hx.cell s1
          have sl := lt_of_cell s0'
          have HW := Lib.hid hwf
          have HA8 := Lib.hid ap
          have hI3 := H3.out wr (k34.trans hx)
          have hn3 := hI3.len
          have HS := Lib.hid hI3
          have hn3' : n3 ≤ l.length + xs.length := by omega
          have HO8 := Lib.hid o8
          have kx := (k34.trans hx)
          clear HR hwf ap hI3 o8 hn8 hn9 HN8 HN9
          go_wp2_with (at_builtin; refine wpList_app rowInts rfl _ _ rfl (w3.heap.size + 1) _ N9 (outs.map (Value.int .i64)) rfl ?own A3 n3 c3 ((runS cap l xs).map (Value.int .i64)) rfl ?src ?b1 ?b2 ?_)
          case own => exact o9
          case src => exact ints_src HS.out
          case b1 => omega
          case b2 => simpa using hz
          intro v9 w5 hown5 hg5 hat5
          have k5 : Ext w3 w5 := kx.grown hg5 (fun j hj => by have := own_from o9 j hj; omega)
          have h8 : w5.ownsRow (w3.heap.size + 1) 3 1 (.slice A8 N8 c8) N8 (outs.map (Value.int .i64) ++ (runS cap l xs).map (Value.int .i64)) := HO8.out.kept hg5 (by
            cases hv : Value.ownBlock (.slice A8 N8 c8) with
            | none => exact .inl rfl
            | some g => exact .inr (fun e => HA8.out g hv e.symm))
          have hall : ∀ y ∈ outs ++ runS cap l xs, (Lit.int .i64 y).wf = true := by
            intro y hy
            rcases List.mem_append.1 hy with hy | hy
            · exact HW.out y hy
            · exact (run_wf (cap := cap) xs l Hl.out Hxs.out).1 y hy
          obtain ⟨A8', n8', c8', e8, I8⟩ := isInts_own (l := outs ++ runS cap l xs) (by rw [List.map_append]; exact h8) (by omega) hall
          obtain ⟨A9', n9', c9', rfl, I9⟩ := isInts_own (l := outs ++ runS cap l xs) (by rw [List.map_append]; exact hown5) (by omega) hall
          cases e8
          have heq := fun W (k : Ext w5 W) => intsEq_any _ _ _ _ _ _ _ _ W (I8.ext k) (I9.ext k)
          rw [show eqI (outs ++ runS cap l xs) (outs ++ runS cap l xs) = true by simp [eqI]] at heq
          have HEQ := Lib.hid heq
          clear heq I8 I9 h8 hown5 hg5 hat5 o9 HO8 HA8 HS hx kx
          go_wp2_with fail
          refine (HEQ.out _ (Ext.refl _)).mono ?_
          rintro e w6 ⟨rfl, hx6⟩
          have k6 : Ext w w6 := ((((k1.trans k2).trans k3).trans k5).trans hx6)
          go_wp2
          go_ret
          exact ⟨rfl, k6⟩
      · rcases jv with h0 | ⟨b3, off3, rfl, hc3⟩
        · have h00 := Lib.hid h0
          clear hc
          clear h0
          go_wp2
          go_loopw [8, 9, 10] (fun v8 v9 i wr => ∃ k outs, k ≤ xs.length ∧ i = .int .i64 (k : Nat) ∧ OrdRel ((w3.alloc (.cells #[.int .i64 cap, .slice A3 n3 c3] 24))) (w3.heap.size + 1) cap l xs v8 v9 wr k outs) (fun _ _ _ _ => 0)
          case atStart => exact ⟨0, [], Nat.zero_le _, rfl, R0⟩
          case round =>
            clear R0
            obtain ⟨k, outs, hk, rfl, R⟩ := hrel
            obtain ⟨A8, N8, c8, rfl, hN8⟩ := own_form R.own8
            obtain ⟨A9, N9, c9, rfl, hN9⟩ := own_form R.own9
            have HR := Lib.hid R
            have o8 := R.own8
            have o9 := R.own9
            have hfew := R.few
            rw [← hN8] at o8 hfew
            rw [← hN9] at o9
            have hb9 : N9 ≤ l.length + k := by omega
            have HN8 := Lib.hid hN8
            have HN9 := Lib.hid hN9
            have hz := R.size
            have hx := R.ext
            clear R hN8 hN9
            have hlt : ¬ k < xs.length := by have := h00.out; omega
            have e : k = xs.length := by omega
            subst e
            have hn8 := HN8.out
            have hn9 := HN9.out
            rw [List.take_length] at o8 hn8
            have ap := HR.out.apart
            have hwf := HR.out.wf
            have hfr := HR.out.from'
            have s0' := hx.cell s0
            have s1' := hx.cell s1
            have sl := lt_of_cell s0'
            have HW := Lib.hid hwf
            have HA8 := Lib.hid ap
            have hI3 := H3.out wr (k34.trans hx)
            have hn3 := hI3.len
            have HS := Lib.hid hI3
            have hn3' : n3 ≤ l.length + xs.length := by omega
            have HO8 := Lib.hid o8
            have kx := (k34.trans hx)
            clear HR hwf ap hI3 o8 hn8 hn9 HN8 HN9
            go_wp2_with (at_builtin; refine wpList_app rowInts rfl _ _ rfl (w3.heap.size + 1) _ N9 (outs.map (Value.int .i64)) rfl ?own A3 n3 c3 ((runS cap l xs).map (Value.int .i64)) rfl ?src ?b1 ?b2 ?_)
            case own => exact o9
            case src => exact ints_src HS.out
            case b1 => omega
            case b2 => simpa using hz
            intro v9 w5 hown5 hg5 hat5
            have k5 : Ext w3 w5 := kx.grown hg5 (fun j hj => by have := own_from o9 j hj; omega)
            have h8 : w5.ownsRow (w3.heap.size + 1) 3 1 (.slice A8 N8 c8) N8 (outs.map (Value.int .i64) ++ (runS cap l xs).map (Value.int .i64)) := HO8.out.kept hg5 (by
              cases hv : Value.ownBlock (.slice A8 N8 c8) with
              | none => exact .inl rfl
              | some g => exact .inr (fun e => HA8.out g hv e.symm))
            have hall : ∀ y ∈ outs ++ runS cap l xs, (Lit.int .i64 y).wf = true := by
              intro y hy
              rcases List.mem_append.1 hy with hy | hy
              · exact HW.out y hy
              · exact (run_wf (cap := cap) xs l Hl.out Hxs.out).1 y hy
            obtain ⟨A8', n8', c8', e8, I8⟩ := isInts_own (l := outs ++ runS cap l xs) (by rw [List.map_append]; exact h8) (by omega) hall
            obtain ⟨A9', n9', c9', rfl, I9⟩ := isInts_own (l := outs ++ runS cap l xs) (by rw [List.map_append]; exact hown5) (by omega) hall
            cases e8
            have heq := fun W (k : Ext w5 W) => intsEq_any _ _ _ _ _ _ _ _ W (I8.ext k) (I9.ext k)
            rw [show eqI (outs ++ runS cap l xs) (outs ++ runS cap l xs) = true by simp [eqI]] at heq
            have HEQ := Lib.hid heq
            clear heq I8 I9 h8 hown5 hg5 hat5 o9 HO8 HA8 HS hx kx
            go_wp2_with fail
            refine (HEQ.out _ (Ext.refl _)).mono ?_
            rintro e w6 ⟨rfl, hx6⟩
            have k6 : Ext w w6 := ((((k1.trans k2).trans k3).trans k5).trans hx6)
            go_wp2
            go_ret
            exact ⟨rfl, k6⟩
        · have HX := Lib.hid (fun k hk => k34.cell ((((k1.trans k2).trans k3)).cell (hc k hk)))
          have HT := Lib.hid (fun k hk => k34.cell (hc3 k hk))
          clear hc hc3
          go_wp2
          go_loopw [8, 9, 10] (fun v8 v9 i wr => ∃ k outs, k ≤ xs.length ∧ i = .int .i64 (k : Nat) ∧ OrdRel ((w3.alloc (.cells #[.int .i64 cap, .slice A3 n3 c3] 24))) (w3.heap.size + 1) cap l xs v8 v9 wr k outs) (fun _ _ i _ => xs.length - (intOf i).toNat)
          case atStart => exact ⟨0, [], Nat.zero_le _, rfl, R0⟩
          case round =>
            clear R0
            obtain ⟨k, outs, hk, rfl, R⟩ := hrel
            obtain ⟨A8, N8, c8, rfl, hN8⟩ := own_form R.own8
            obtain ⟨A9, N9, c9, rfl, hN9⟩ := own_form R.own9
            have HR := Lib.hid R
            have o8 := R.own8
            have o9 := R.own9
            have hfew := R.few
            rw [← hN8] at o8 hfew
            rw [← hN9] at o9
            have hb9 : N9 ≤ l.length + k := by omega
            have HN8 := Lib.hid hN8
            have HN9 := Lib.hid hN9
            have hz := R.size
            have hx := R.ext
            clear R hN8 hN9
            by_cases hlt : k < xs.length
            · have dx := hx.cell (HX.out k hlt)
              have dt := hx.cell (HT.out k hlt)
              rw [runT_nth xs l k hlt] at dt
              have hwv : ∀ y ∈ runS cap l (xs.take k), (Lit.int .i64 y).wf = true := (run_wf (cap := cap) (xs.take k) l Hl.out (fun y hy => Hxs.out y (List.mem_of_mem_take hy))).1
              have HWV := Lib.hid hwv
              clear hwv
              by_cases hpos : 0 ≤ nth xs k
              · have hneg : ¬ nth xs k < 0 := by omega
                cases hpb : pushB cap (runS cap l (xs.take k)) with
                | true =>
                  have ST : stepT cap (runS cap l (xs.take k)) (nth xs k) = 1 := by unfold stepT; simp [hpos, hpb]
                  rw [ST] at dt
                  clear ST
                  go_wp2_with (at_builtin; refine wpList_app rowInts rfl _ _ rfl (w3.heap.size + 1) _ N8 (outs.map (Value.int .i64) ++ (runS cap l (xs.take k)).map (Value.int .i64)) rfl ?own (some ⟨_, 0, none⟩) 1 1 [.int .i64 (nth xs k)] rfl (src_at rfl (by simp)) ?b1 ?b2 ?_)
                  case own => exact o8.alloc _
                  case b1 => omega
                  case b2 => first | omega | (simp; omega)
                  intro v' w5 hown5 hg5 hat5
                  have R' := HR.out.push hlt (by omega) hpb (by rw [← HN8.out]; first | exact hown5 | (rw [List.append_assoc]; exact hown5)) hg5 (hat5.imp id (fun h => by simpa using h))
                  have dx' := R'.ext.cell (HX.out k hlt)
                  clear hown5 hg5 hat5
                  have RR := R'
                  clear HR o8 o9 hx
                  go_wp2
                  go_roundw
                  case rel => exact ⟨k + 1, outs, by omega, by go_num, RR⟩
                  case measure => simp [intOf]; omega
                | false =>
                  have ST : stepT cap (runS cap l (xs.take k)) (nth xs k) = 0 := by unfold stepT; simp [hpos, hpb]
                  rw [ST] at dt
                  clear ST
                  have R' := HR.out.skip hlt (by unfold stepL pushL; unfold pushB at hpb; simp at hpb; rw [if_pos hpos, if_pos hpb])
                  have RR := R'
                  clear HR o8 o9 hx
                  go_wp2
                  go_roundw
                  case rel => exact ⟨k + 1, outs, by omega, by go_num, RR⟩
                  case measure => simp [intOf]; omega
              · have hneg : nth xs k < 0 := by omega
                cases hpb : popB (runS cap l (xs.take k)) with
                | true =>
                  have ST : stepT cap (runS cap l (xs.take k)) (nth xs k) = popV (runS cap l (xs.take k)) := by unfold stepT; simp [hpos, hpb]
                  rw [ST] at dt
                  clear ST
                  have hlen : 0 < (runS cap l (xs.take k)).length := by
                    unfold popB at hpb
                    cases hr : runS cap l (xs.take k) with
                    | nil => rw [hr] at hpb; simp at hpb
                    | cons a r => simp
                  have hlt8 : (N9 : Int) < N8 := by have := HN8.out; have := HN9.out; omega
                  have hw := HWV.out (popV (runS cap l (xs.take k))) (by
                    cases hr : runS cap l (xs.take k) with
                    | nil => rw [hr] at hlen; simp at hlen
                    | cons a r => simp [popV])
                  go_wp2_with (at_builtin; refine wpList_app rowInts rfl _ _ rfl (w3.heap.size + 1) _ N9 (outs.map (Value.int .i64)) rfl ?own (some ⟨_, 0, none⟩) 1 1 [.int .i64 (popV (runS cap l (xs.take k)))] rfl (src_at rfl (by simp)) ?b1 ?b2 ?_)
                  case own => exact o9.alloc _
                  case b1 => omega
                  case b2 => first | omega | (simp; omega)
                  intro v' w5 hown5 hg5 hat5
                  have R' := HR.out.pop hlt (by omega) hpb hw (by rw [← HN9.out]; exact hown5) hg5 (hat5.imp id (fun h => by simpa using h))
                  clear hown5 hg5 hat5
                  have RR := R'
                  clear HR o8 o9 hx
                  go_wp2
                  go_roundw
                  case rel => exact ⟨k + 1, (outs ++ [popV (runS cap l (xs.take k))]), by omega, by go_num, RR⟩
                  case measure => simp [intOf]; omega
                | false =>
                  have he : runS cap l (xs.take k) = [] := by
                    unfold popB at hpb
                    cases hr : runS cap l (xs.take k) with
                    | nil => rfl
                    | cons a r => rw [hr] at hpb; simp at hpb
                  have R' := HR.out.skip hlt (by unfold stepL; rw [if_neg hpos, he]; rfl)
                  have hlt8 : ¬ (N9 : Int) < N8 := by have h1 := HN8.out; have h2 := HN9.out; rw [he] at h1; simp at h1; omega
                  have RR := R'
                  clear HR o8 o9 hx
                  go_wp2
                  go_roundw
                  case rel => exact ⟨k + 1, outs, by omega, by go_num, RR⟩
                  case measure => simp [intOf]; omega
            · have e : k = xs.length := by omega
              subst e
              have hn8 := HN8.out
              have hn9 := HN9.out
              rw [List.take_length] at o8 hn8
              have ap := HR.out.apart
              have hwf := HR.out.wf
              have hfr := HR.out.from'
              have s0' := hx.cell s0
              have s1' := hx.cell s1
              have sl := lt_of_cell s0'
              have HW := Lib.hid hwf
              have HA8 := Lib.hid ap
              have hI3 := H3.out wr (k34.trans hx)
              have hn3 := hI3.len
              have HS := Lib.hid hI3
              have hn3' : n3 ≤ l.length + xs.length := by omega
              have HO8 := Lib.hid o8
              have kx := (k34.trans hx)
              clear HR hwf ap hI3 o8 hn8 hn9 HN8 HN9
              go_wp2_with (at_builtin; refine wpList_app rowInts rfl _ _ rfl (w3.heap.size + 1) _ N9 (outs.map (Value.int .i64)) rfl ?own A3 n3 c3 ((runS cap l xs).map (Value.int .i64)) rfl ?src ?b1 ?b2 ?_)
              case own => exact o9
              case src => exact ints_src HS.out
              case b1 => omega
              case b2 => simpa using hz
              intro v9 w5 hown5 hg5 hat5
              have k5 : Ext w3 w5 := kx.grown hg5 (fun j hj => by have := own_from o9 j hj; omega)
              have h8 : w5.ownsRow (w3.heap.size + 1) 3 1 (.slice A8 N8 c8) N8 (outs.map (Value.int .i64) ++ (runS cap l xs).map (Value.int .i64)) := HO8.out.kept hg5 (by
                cases hv : Value.ownBlock (.slice A8 N8 c8) with
                | none => exact .inl rfl
                | some g => exact .inr (fun e => HA8.out g hv e.symm))
              have hall : ∀ y ∈ outs ++ runS cap l xs, (Lit.int .i64 y).wf = true := by
                intro y hy
                rcases List.mem_append.1 hy with hy | hy
                · exact HW.out y hy
                · exact (run_wf (cap := cap) xs l Hl.out Hxs.out).1 y hy
              obtain ⟨A8', n8', c8', e8, I8⟩ := isInts_own (l := outs ++ runS cap l xs) (by rw [List.map_append]; exact h8) (by omega) hall
              obtain ⟨A9', n9', c9', rfl, I9⟩ := isInts_own (l := outs ++ runS cap l xs) (by rw [List.map_append]; exact hown5) (by omega) hall
              cases e8
              have heq := fun W (k : Ext w5 W) => intsEq_any _ _ _ _ _ _ _ _ W (I8.ext k) (I9.ext k)
              rw [show eqI (outs ++ runS cap l xs) (outs ++ runS cap l xs) = true by simp [eqI]] at heq
              have HEQ := Lib.hid heq
              clear heq I8 I9 h8 hown5 hg5 hat5 o9 HO8 HA8 HS hx kx
              go_wp2_with fail
              refine (HEQ.out _ (Ext.refl _)).mono ?_
              rintro e w6 ⟨rfl, hx6⟩
              have k6 : Ext w w6 := ((((k1.trans k2).trans k3).trans k5).trans hx6)
              go_wp2
              go_ret
              exact ⟨rfl, k6⟩
set_option maxRecDepth 100000 in
theorem RingOrder_lifted (os : Os) (started : os.Started) (H : Type) (enc : TypeId × Value → H) :
    ReturnsInHanded {} Try.checked os 3 .any (Rows.ringOrderSpec.pre6 enc Try.prog Try.f3 Rows.ringOrderRow.domain false) (Rows.ringOrderSpec.post enc Try.prog Try.f3 false true false false) := by
  refine returnsInHanded_of_change_sized (C := Try.checked) own started (by kernel_rfl) Try.func3
    (ChangeSpec.witness6 (enc := enc) (C := Try.checked) false ⟨#[], #[.agg #[.int .i64 0, .slice none 0 0], .slice none 0 0], []⟩ 8 (by kernel_rfl) (by kernel_rfl) (by kernel_rfl) (by kernel_rfl)) ?_
  intro W base args ds gs before hval0 hW _hcnd hsz0 _
  have hval : ∀ (j : Nat) t v, Try.f3.params[j]? = some t → args[j]? = some v → Value.okWide Try.prog W .any base t v := hval0
  have hsz : (DataW.weightsEach Try.prog (Try.f3.params.toList ++ Rows.ringOrderSpec.plain.varTypes Try.prog) (ds ++ gs)).all (· ≤ reachBytes) = true := hsz0
  have hW' := hW
  obtain ⟨p, q, hA0, hV, rfl, hfz, hnd⟩ := hW
  have hA : DataW.TrodAll enc Try.prog W 0 (fun _ => true) true Try.f3.params.toList args.toList ds p := hA0
  rw [Try.params3] at hA hval hsz
  obtain ⟨v0, vs0, d0, ds0, p0, q0, hargs, rfl, rfl, h0, r0⟩ := trodAll_cons hA
  obtain ⟨v1, vs1, d1, ds1, p1, q1, rfl, rfl, rfl, h1, r1⟩ := trodAll_cons r0
  obtain ⟨rfl, rfl, rfl⟩ := trodAll_nil r1
  obtain rfl : args = #[v0, v1] := by cases args; simp_all
  obtain ⟨rfl, rfl⟩ := trodVars_none hV
  have h0k := h0
  have h1k := h1
  have hlt0 : ∀ x ∈ p0, x.block < W.heap.size := fun x hx => by have := hW'.lt x (by simp [hx]); simpa using this
  have hlt1 : ∀ x ∈ p1, x.block < W.heap.size := fun x hx => by have := hW'.lt x (by simp [hx]); simpa using this
  obtain ⟨rk, r, rA, rn, rc, hkr, rfl, hr⟩ := open_Ring Try.underlying24 (by kernel_rfl) (by kernel_rfl) Try.underlying3 Try.underlying22 Try.underlying3 (by kernel_rfl) (by kernel_rfl) (hval 0 24 v0 rfl rfl) h0 hsz (j := 0) rfl rfl
  obtain ⟨l, lA, ln, lc, rfl, hl⟩ := open_Ints Try.underlying22 Try.underlying3 (by kernel_rfl) (by kernel_rfl) (hval 1 22 v1 rfl rfl) h1 hsz (j := 1) rfl rfl
  clear hA0 hval0
  simp only [List.append_nil] at hW'
  refine (RingOrder_walk rA rn rc rk r hkr hr lA ln lc l hl (w := W)).mono fun e W' ⟨he, hg⟩ => ?_
  subst he
  exact ⟨_, rfl, post_law (pa := p0 ++ (p1 ++ [])) (pv := []) hW' (fun _ _ _ => (trodAll_cons_mk (shut_bool Try.underlying4 _) trodAll_mk0))
    (trodAll_cons_mk (Below.trod laidOut (by kernel_rfl) (of_decide_eq_true (by kernel_rfl)) h0k hg.out hlt0) (trodAll_cons_mk (Below.trod laidOut (by kernel_rfl) (of_decide_eq_true (by kernel_rfl)) h1k hg.out hlt1) trodAll_mk0)) rfl (by simp) hg⟩
theorem RingOrder_holds : Rows.RingOrderSaid :=
  OpenClaim.holds_of_wide 3 Try.f3 rfl rfl rfl rfl rfl rfl rfl ⟨rfl, rfl, rfl, rfl, rfl⟩ rfl rfl rfl rfl rfl (by kernel_rfl) Try.func3 (by kernel_rfl)
    (of_decide_eq_true (by kernel_rfl)) (by unfold Func.isWrapper; first | (rw [if_pos (by decide +kernel)]; kernel_rfl) | (rw [if_neg (by decide +kernel)]; exact ⟨rfl, rfl⟩))
    (fun os started H enc _ => RingOrder_lifted os started H enc)
#print axioms RingOrder_holds
end Go.Proofs.Ytpggilainapoaaa
