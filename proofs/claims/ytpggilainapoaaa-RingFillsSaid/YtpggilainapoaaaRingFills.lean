/- RingFills: of numbers that are put into an empty ring as many first ones have room as there is; all that is taken then is these; for every input. -/
import Derived.Test.YtpggilainapoaaaRingLaw
namespace Go.Proofs.Ytpggilainapoaaa
open Go.RowKit Go.WideShapes Go.ChangeShapes
set_option linter.unusedVariables false
set_option linter.unusedSimpArgs false


theorem runT_nth {cap : Int} : ∀ (xs l : List Int) (k : Nat), k < xs.length → nth (runT cap l xs) k = stepT cap (runS cap l (xs.take k)) (nth xs k) := by
  intro xs
  induction xs with
  | nil => intro l k h; simp at h
  | cons x xs ih =>
    intro l k h
    cases k with
    | zero => rfl
    | succ k =>
      have := ih (stepL cap l x) k (by simpa using h)
      simpa [runT, nth, runS] using this
/-- What goes in, and then comes out. -/
def allOf (l : List Int) : List Int := l ++ List.replicate l.length (-1)
theorem fill_in {R : Nat} {l : List Int} (hp : ∀ i, i < l.length → 0 ≤ nth l i) : ∀ k, k ≤ l.length → runS R [] (l.take k) = l.take (min k R) := by
  intro k
  induction k with
  | zero => intro _; simp [runS]
  | succ k ih =>
    intro hk
    rw [(run_succ (by omega)).1, ih (by omega)]
    unfold stepL pushL
    rw [if_pos (hp k (by omega))]
    have hl : (l.take (min k R)).length = min k R := by simp; omega
    rw [hl]
    by_cases h : R ≤ k
    · rw [if_pos (by omega), show min k R = min (k + 1) R by omega]
    · rw [if_neg (by omega), show min k R = k by omega, show min (k + 1) R = k + 1 by omega, take_nth (by omega)]
theorem fill_out {R : Nat} {l : List Int} (hp : ∀ i, i < l.length → 0 ≤ nth l i) : ∀ k, runS R [] (l ++ List.replicate k (-1)) = (l.take (min l.length R)).drop k := by
  intro k
  induction k with
  | zero =>
    have := fill_in (R := R) hp l.length (Nat.le_refl _)
    simpa using this
  | succ k ih =>
    rw [List.replicate_succ', ← List.append_assoc, runS_append, ih]
    show stepL R _ (-1) = _
    unfold stepL
    rw [if_neg (by omega), List.tail_drop]
theorem fill_told1 {R : Nat} {l : List Int} (hp : ∀ i, i < l.length → 0 ≤ nth l i) {i : Nat} (hi : i < l.length) : nth (runT R [] (allOf l)) i = if i < R then 1 else 0 := by
  rw [runT_nth _ _ _ (by simp [allOf]; omega)]
  unfold allOf
  rw [List.take_append_of_le_length (by omega), fill_in hp i (by omega), nth_append_left hi]
  unfold stepT pushB
  rw [if_pos (hp i hi)]
  have hl : (l.take (min i R)).length = min i R := by simp; omega
  rw [hl]
  by_cases h : i < R
  · rw [if_pos (by simp; omega), if_pos h]
  · rw [if_neg (by simp; omega), if_neg h]
theorem fill_told2 {R : Nat} {l : List Int} (hp : ∀ i, i < l.length → 0 ≤ nth l i) {i : Nat} (hi : i < l.length) : nth (runT R [] (allOf l)) (l.length + i) = if i < R then nth l i else -1 := by
  rw [runT_nth _ _ _ (by simp [allOf]; omega)]
  unfold allOf
  have e1 : (l ++ List.replicate l.length (-1)).take (l.length + i) = l ++ List.replicate i (-1) := by
    rw [List.take_append, List.take_of_length_le (by omega), Nat.add_sub_cancel_left, List.take_replicate, Nat.min_eq_left (by omega)]
  have e2 : nth (l ++ List.replicate l.length (-1)) (l.length + i) = -1 := by
    simp [nth, List.getElem?_append_right, hi]
  rw [e1, e2, fill_out hp]
  unfold stepT
  rw [if_neg (by omega)]
  by_cases h : i < R
  · have hl : i < (l.take (min l.length R)).length := by simp; omega
    rw [List.drop_eq_getElem_cons hl, if_pos h]
    simp [popB, popV, nth, hi]
  · have : (l.take (min l.length R)).drop i = [] := List.drop_of_length_le (by simp; omega)
    rw [this, if_neg h]
    rfl
theorem fill_left {R : Nat} {l : List Int} (hp : ∀ i, i < l.length → 0 ≤ nth l i) : runS R [] (allOf l) = [] := by
  unfold allOf
  rw [fill_out hp]
  exact List.drop_of_length_le (by simp; omega)
theorem own_form {w : World} {base : Nat} {e : TypeId} {size : Nat} {v : Value} {n : Nat} {xs : List Value} (h : w.ownsRow base e size v n xs) : ∃ A N c, v = .slice A N c ∧ N = n := by
  rcases h.2 with ⟨rfl, rfl⟩ | ⟨g, cap, cur, rfl, _⟩
  · exact ⟨none, 0, 0, rfl, rfl⟩
  · exact ⟨_, n, cap, rfl, rfl⟩


set_option maxHeartbeats 8000000 in
set_option maxRecDepth 100000 in
theorem RingFills_walk {w : World} (room : Int) (hr1 : -9223372036854775808 ≤ room) (hr2 : room ≤ 9223372036854775807) (B : Option Addr) (m d : Nat) (xs : List Int) (g : Ints w .i64 B m d xs) :
    Calls Try.prog 5 #[.int .i64 room, .slice B m d] w fun e w' => e = .returned (.bool true) ∧ Ext w w' := by
  have hN := new_any room
  have HB := Lib.hid (fun W (k : Ext w W) => g.ext k)
  have Hxs := Lib.hid g.wf
  have hlm := g.len
  have hroom := g.room
  have hgv := g.view
  clear g
  cases hB : newB room with
  | false =>
    rw [hB] at hN
    have HN := Lib.hid hN
    clear hN
    have hout : ¬ (0 ≤ room ∧ room ≤ 8) := by
      unfold newB mayB at hB
      have := of_decide_eq_false hB
      omega
    by_cases h60 : (60 : Int) < m
    · by_cases hneg : room < 0
      · go_enter Try.func5, Try.ntmps5
        go_wp2_with fail
        refine (awake_any _).mono ?_
        rintro e w1 ⟨rfl, hx1⟩
        have k1 : Ext w w1 := Ext.trans ((by repeat (first | assumption | exact Ext.refl _ | refine Ext.alloc ?_ _ | refine Ext.drew ?_ | refine Ext.drewN ?_ _ | refine Ext.setCell ?_ (by first | (simp; done) | omega | (simp; omega)) _ | refine Ext.trans (by assumption) ?_))) hx1
        have z1 := k1.size
        go_wp2_with fail
        refine (HN.out _).mono ?_
        rintro e w2 ⟨v2, rfl, ⟨A2, n2, c2, rfl, I2⟩, hx2⟩
        have k2 : Ext w1 w2 := Ext.trans ((by repeat (first | assumption | exact Ext.refl _ | refine Ext.alloc ?_ _ | refine Ext.drew ?_ | refine Ext.drewN ?_ _ | refine Ext.setCell ?_ (by first | (simp; done) | omega | (simp; omega)) _ | refine Ext.trans (by assumption) ?_))) hx2
        have z2 := k2.size
        have H2 := Lib.hid (fun W (k : Ext w2 W) => I2.ext k)
        clear I2
        go_wp2
        go_ret
        exact ⟨rfl, (by repeat (first | assumption | exact Ext.refl _ | refine Ext.alloc ?_ _ | refine Ext.drew ?_ | refine Ext.drewN ?_ _ | refine Ext.setCell ?_ (by first | (simp; done) | omega | (simp; omega)) _ | refine Ext.trans (by assumption) ?_))⟩
      · have h8 : 8 < room := by omega
        go_enter Try.func5, Try.ntmps5
        go_wp2_with fail
        refine (awake_any _).mono ?_
        rintro e w1 ⟨rfl, hx1⟩
        have k1 : Ext w w1 := Ext.trans ((by repeat (first | assumption | exact Ext.refl _ | refine Ext.alloc ?_ _ | refine Ext.drew ?_ | refine Ext.drewN ?_ _ | refine Ext.setCell ?_ (by first | (simp; done) | omega | (simp; omega)) _ | refine Ext.trans (by assumption) ?_))) hx1
        have z1 := k1.size
        go_wp2_with fail
        refine (HN.out _).mono ?_
        rintro e w2 ⟨v2, rfl, ⟨A2, n2, c2, rfl, I2⟩, hx2⟩
        have k2 : Ext w1 w2 := Ext.trans ((by repeat (first | assumption | exact Ext.refl _ | refine Ext.alloc ?_ _ | refine Ext.drew ?_ | refine Ext.drewN ?_ _ | refine Ext.setCell ?_ (by first | (simp; done) | omega | (simp; omega)) _ | refine Ext.trans (by assumption) ?_))) hx2
        have z2 := k2.size
        have H2 := Lib.hid (fun W (k : Ext w2 W) => I2.ext k)
        clear I2
        go_wp2
        go_ret
        exact ⟨rfl, (by repeat (first | assumption | exact Ext.refl _ | refine Ext.alloc ?_ _ | refine Ext.drew ?_ | refine Ext.drewN ?_ _ | refine Ext.setCell ?_ (by first | (simp; done) | omega | (simp; omega)) _ | refine Ext.trans (by assumption) ?_))⟩
    · by_cases hneg : room < 0
      · go_enter Try.func5, Try.ntmps5
        go_wp2_with fail
        refine (awake_any _).mono ?_
        rintro e w1 ⟨rfl, hx1⟩
        have k1 : Ext w w1 := Ext.trans ((by repeat (first | assumption | exact Ext.refl _ | refine Ext.alloc ?_ _ | refine Ext.drew ?_ | refine Ext.drewN ?_ _ | refine Ext.setCell ?_ (by first | (simp; done) | omega | (simp; omega)) _ | refine Ext.trans (by assumption) ?_))) hx1
        have z1 := k1.size
        go_wp2_with fail
        refine (HN.out _).mono ?_
        rintro e w2 ⟨v2, rfl, ⟨A2, n2, c2, rfl, I2⟩, hx2⟩
        have k2 : Ext w1 w2 := Ext.trans ((by repeat (first | assumption | exact Ext.refl _ | refine Ext.alloc ?_ _ | refine Ext.drew ?_ | refine Ext.drewN ?_ _ | refine Ext.setCell ?_ (by first | (simp; done) | omega | (simp; omega)) _ | refine Ext.trans (by assumption) ?_))) hx2
        have z2 := k2.size
        have H2 := Lib.hid (fun W (k : Ext w2 W) => I2.ext k)
        clear I2
        go_wp2
        go_ret
        exact ⟨rfl, (by repeat (first | assumption | exact Ext.refl _ | refine Ext.alloc ?_ _ | refine Ext.drew ?_ | refine Ext.drewN ?_ _ | refine Ext.setCell ?_ (by first | (simp; done) | omega | (simp; omega)) _ | refine Ext.trans (by assumption) ?_))⟩
      · have h8 : 8 < room := by omega
        go_enter Try.func5, Try.ntmps5
        go_wp2_with fail
        refine (awake_any _).mono ?_
        rintro e w1 ⟨rfl, hx1⟩
        have k1 : Ext w w1 := Ext.trans ((by repeat (first | assumption | exact Ext.refl _ | refine Ext.alloc ?_ _ | refine Ext.drew ?_ | refine Ext.drewN ?_ _ | refine Ext.setCell ?_ (by first | (simp; done) | omega | (simp; omega)) _ | refine Ext.trans (by assumption) ?_))) hx1
        have z1 := k1.size
        go_wp2_with fail
        refine (HN.out _).mono ?_
        rintro e w2 ⟨v2, rfl, ⟨A2, n2, c2, rfl, I2⟩, hx2⟩
        have k2 : Ext w1 w2 := Ext.trans ((by repeat (first | assumption | exact Ext.refl _ | refine Ext.alloc ?_ _ | refine Ext.drew ?_ | refine Ext.drewN ?_ _ | refine Ext.setCell ?_ (by first | (simp; done) | omega | (simp; omega)) _ | refine Ext.trans (by assumption) ?_))) hx2
        have z2 := k2.size
        have H2 := Lib.hid (fun W (k : Ext w2 W) => I2.ext k)
        clear I2
        go_wp2
        go_ret
        exact ⟨rfl, (by repeat (first | assumption | exact Ext.refl _ | refine Ext.alloc ?_ _ | refine Ext.drew ?_ | refine Ext.drewN ?_ _ | refine Ext.setCell ?_ (by first | (simp; done) | omega | (simp; omega)) _ | refine Ext.trans (by assumption) ?_))⟩
  | true =>
    have hin : 0 ≤ room ∧ room ≤ 8 := by
      unfold newB mayB at hB
      have := of_decide_eq_true hB
      omega
    rw [hB] at hN
    rw [show newR room = room by unfold newR; rw [show mayB room 0 = true from hB]; rfl] at hN
    have HN := Lib.hid hN
    clear hN
    by_cases h60 : (60 : Int) < m
    · go_enter Try.func5, Try.ntmps5
      go_wp2_with fail
      refine (awake_any _).mono ?_
      rintro e w1 ⟨rfl, hx1⟩
      have k1 : Ext w w1 := Ext.trans ((by repeat (first | assumption | exact Ext.refl _ | refine Ext.alloc ?_ _ | refine Ext.drew ?_ | refine Ext.drewN ?_ _ | refine Ext.setCell ?_ (by first | (simp; done) | omega | (simp; omega)) _ | refine Ext.trans (by assumption) ?_))) hx1
      have z1 := k1.size
      go_wp2_with fail
      refine (HN.out _).mono ?_
      rintro e w2 ⟨v2, rfl, ⟨A2, n2, c2, rfl, I2⟩, hx2⟩
      have k2 : Ext w1 w2 := Ext.trans ((by repeat (first | assumption | exact Ext.refl _ | refine Ext.alloc ?_ _ | refine Ext.drew ?_ | refine Ext.drewN ?_ _ | refine Ext.setCell ?_ (by first | (simp; done) | omega | (simp; omega)) _ | refine Ext.trans (by assumption) ?_))) hx2
      have z2 := k2.size
      have H2 := Lib.hid (fun W (k : Ext w2 W) => I2.ext k)
      clear I2
      go_wp2
      go_ret
      exact ⟨rfl, (by repeat (first | assumption | exact Ext.refl _ | refine Ext.alloc ?_ _ | refine Ext.drew ?_ | refine Ext.drewN ?_ _ | refine Ext.setCell ?_ (by first | (simp; done) | omega | (simp; omega)) _ | refine Ext.trans (by assumption) ?_))⟩
    · obtain ⟨R, rfl⟩ := Int.eq_ofNat_of_zero_le hin.1
      subst hlm
      have hBR : mayB (R : Int) 0 = true := hB
      clear hB
      go_enter Try.func5, Try.ntmps5
      go_wp2_with fail
      refine (awake_any _).mono ?_
      rintro e w1 ⟨rfl, hx1⟩
      have k1 : Ext w w1 := Ext.trans ((by repeat (first | assumption | exact Ext.refl _ | refine Ext.alloc ?_ _ | refine Ext.drew ?_ | refine Ext.drewN ?_ _ | refine Ext.setCell ?_ (by first | (simp; done) | omega | (simp; omega)) _ | refine Ext.trans (by assumption) ?_))) hx1
      have z1 := k1.size
      go_wp2_with fail
      refine (HN.out _).mono ?_
      rintro e w2 ⟨v2, rfl, ⟨A2, n2, c2, rfl, I2⟩, hx2⟩
      have k2 : Ext w1 w2 := Ext.trans ((by repeat (first | assumption | exact Ext.refl _ | refine Ext.alloc ?_ _ | refine Ext.drew ?_ | refine Ext.drewN ?_ _ | refine Ext.setCell ?_ (by first | (simp; done) | omega | (simp; omega)) _ | refine Ext.trans (by assumption) ?_))) hx2
      have z2 := k2.size
      have H2 := Lib.hid (fun W (k : Ext w2 W) => I2.ext k)
      clear I2
      have hn2 : 0 = n2 := (H2.out _ (Ext.refl _)).len
      subst hn2
      have k2W : Ext w2 (w2.alloc (.cells #[.int .i64 R, .slice A2 0 c2] 24)) := (Ext.refl _).alloc _
      have r0 : ((w2.alloc (.cells #[.int .i64 R, .slice A2 0 c2] 24))).cell? ⟨w2.heap.size, 0, none⟩ = some (.int .i64 R) := by simp
      have r1 : ((w2.alloc (.cells #[.int .i64 R, .slice A2 0 c2] 24))).cell? ⟨w2.heap.size, 1, none⟩ = some (.slice A2 0 c2) := by simp
      have HV := Lib.hid hgv
      clear hgv
      go_wp2
      go_loopw [8, 9] (fun v8 i wr => ∃ k : Nat, k ≤ xs.length ∧ i = .int .i64 k ∧ wr.ownsRow (w2.heap.size + 1) 3 1 v8 k ((xs.map (Value.int .i64)).take k) ∧ (∀ j, j < k → 0 ≤ nth xs j) ∧ Ext ((w2.alloc (.cells #[.int .i64 R, .slice A2 0 c2] 24))) wr) (fun _ i _ => xs.length - (intOf i).toNat)
      case atStart => exact ⟨0, Nat.zero_le _, rfl, own_new _ _ _ _, (fun j hj => absurd hj (Nat.not_lt_zero j)), Ext.refl _⟩
      case round =>
        obtain ⟨k, hk, rfl, own8, hp, hx⟩ := hrel
        have HPk := Lib.hid hp
        clear hp
        have hz := hx.size
        simp at hz
        by_cases hlt : k < xs.length
        · rcases HV.out with h1 | ⟨b, off, rfl, hc⟩
          · omega
          have dx := hx.cell (k2W.cell ((k1.trans k2).cell (hc k hlt)))
          clear hc
          by_cases hneg : nth xs k < 0
          · go_wp2
            go_ret
            exact ⟨rfl, (k1.trans k2).trans (k2W.trans hx)⟩
          · go_wp2_with (at_builtin; refine wpList_app rowInts rfl _ _ rfl (w2.heap.size + 1) _ k ((xs.map (Value.int .i64)).take k) rfl ?own (some ⟨_, 0, none⟩) 1 1 [.int .i64 (nth xs k)] rfl (src_at rfl (by simp)) ?b1 ?b2 ?_)
            case own => exact own8.alloc _
            case b1 => omega
            case b2 => first | omega | (simp; omega)
            intro v' w5 hown5 hg5 _
            have o' : w5.ownsRow (w2.heap.size + 1) 3 1 v' (k + 1) ((xs.map (Value.int .i64)).take (k + 1)) := by rw [← List.map_take, take_nth hlt, List.map_append, List.map_take]; exact hown5
            have x' : Ext ((w2.alloc (.cells #[.int .i64 R, .slice A2 0 c2] 24))) w5 := (hx.alloc _).grown hg5 (fun j hj => by have := own_from own8 j hj; simp; omega)
            clear hown5 hg5 own8 hx
            go_wp2
            go_roundw
            case rel =>
              refine ⟨k + 1, by omega, by go_num, o', fun j hj => ?_, x'⟩
              rcases Nat.lt_or_eq_of_le (Nat.lt_succ_iff.1 hj) with h | rfl
              · exact HPk.out j h
              · omega
            case measure => simp [intOf]; omega
        · have e : k = xs.length := by omega
          subst e
          rw [List.take_of_length_le (by simp)] at own8
          go_wp2
          have hx' := hx
          clear hx
          go_loopw [8, 10] (fun v8 i wr => ∃ k : Nat, k ≤ xs.length ∧ i = .int .i64 k ∧ wr.ownsRow (w2.heap.size + 1) 3 1 v8 (xs.length + k) (xs.map (Value.int .i64) ++ List.replicate k (.int .i64 (-1))) ∧ Ext ((w2.alloc (.cells #[.int .i64 R, .slice A2 0 c2] 24))) wr) (fun _ i _ => xs.length - (intOf i).toNat)
          case atStart => exact ⟨0, Nat.zero_le _, rfl, by simpa using own8, by assumption⟩
          case round =>
            clear own8 hz
            obtain ⟨k, hk, rfl, own8, hx⟩ := hrel
            have hz := hx.size
            simp at hz
            by_cases hlt : k < xs.length
            · go_wp2_with (at_builtin; refine wpList_app rowInts rfl _ _ rfl (w2.heap.size + 1) _ (xs.length + k) (xs.map (Value.int .i64) ++ List.replicate k (.int .i64 (-1))) rfl ?own (some ⟨_, 0, none⟩) 1 1 [.int .i64 (-1)] rfl (src_at rfl (by simp)) ?b1 ?b2 ?_)
              case own => exact own8.alloc _
              case b1 => omega
              case b2 => first | omega | (simp; omega)
              intro v' w5 hown5 hg5 _
              have o' : w5.ownsRow (w2.heap.size + 1) 3 1 v' (xs.length + (k + 1)) (xs.map (Value.int .i64) ++ List.replicate (k + 1) (.int .i64 (-1))) := by
                rw [List.replicate_succ', ← List.append_assoc]
                first | exact hown5 | (rw [List.append_assoc]; exact hown5)
              have x' : Ext ((w2.alloc (.cells #[.int .i64 R, .slice A2 0 c2] 24))) w5 := (hx.alloc _).grown hg5 (fun j hj => by have := own_from own8 j hj; simp; omega)
              clear hown5 hg5 own8 hx
              go_wp2
              go_roundw
              case rel => exact ⟨k + 1, by omega, by go_num, o', x'⟩
              case measure => simp [intOf]; omega
            · have e : k = xs.length := by omega
              subst e
              have hwfA : ∀ y ∈ allOf xs, (Lit.int .i64 y).wf = true := by
                intro y hy
                rcases List.mem_append.1 hy with hy | hy
                · exact Hxs.out y hy
                · rw [(List.mem_replicate.1 hy).2]; decide
              have hAl : (allOf xs).length = xs.length + xs.length := by simp [allOf]
              obtain ⟨A8, N8, c8, rfl, I8⟩ := isInts_own (l := allOf xs) (by simpa [allOf, List.map_replicate] using own8) (by omega) hwfA
              have HRun := Lib.hid (fun W (k : Ext wr W) => ringRun_yes A2 0 c2 A8 N8 c8 R [] (allOf xs) W (H2.out W ((k2W.trans hx).trans k)) (I8.ext k) hBR)
              rw [fill_left HPk.out] at HRun
              have r0' := hx.cell r0
              have r1' := hx.cell r1
              have kx := (k1.trans k2).trans (k2W.trans hx)
              clear own8 I8 hx hz r0 r1 hwfA
              go_wp2_with fail
              refine (HRun.out _ (Ext.refl _)).mono ?_
              rintro e w4 ⟨v4, u4, rfl, ⟨A4, n4, c4, rfl, I4⟩, ⟨B4, m4, d4, rfl, J4⟩, hx4⟩
              have k4 := kx.trans hx4
              have hn4 : 0 = n4 := I4.len
              subst hn4
              have hm4 : 2 * xs.length = m4 := by rw [← J4.len, runT_length, hAl]; omega
              subst hm4
              have jv := J4.view
              have hw2 : IntKind.i64.wrap (2 * (xs.length : Int)) = 2 * (xs.length : Int) := by rw [IntWalk.i64_in _ (by omega)]
              clear I4 J4 HRun r0' r1'
              have HJ := Lib.hid jv
              clear jv
              go_wp2
              go_loopw [13] (fun i wr' => ∃ k : Nat, k ≤ xs.length ∧ i = .int .i64 k ∧ Ext w4 wr') (fun i _ => xs.length - (intOf i).toNat)
              case atStart => exact ⟨0, Nat.zero_le _, rfl, (Ext.refl _).alloc _⟩
              case round =>
                obtain ⟨k, hk, rfl, hx⟩ := hrel
                by_cases hlt : k < xs.length
                · rcases HV.out with h1 | ⟨b, off, rfl, hc⟩
                  · omega
                  rcases HJ.out with h1 | ⟨b4, off4, rfl, hc4⟩
                  · omega
                  have dx := (k4.trans hx).cell (hc k hlt)
                  have t1 := hx.cell (show w4.cell? ⟨b4, off4 + k, none⟩ = some (.int .i64 (if k < R then 1 else 0)) by rw [hc4 k (by omega), fill_told1 HPk.out hlt])
                  have t2 := hx.cell (show w4.cell? ⟨b4, off4 + (xs.length + k), none⟩ = some (.int .i64 (if k < R then nth xs k else -1)) by rw [hc4 (xs.length + k) (by omega), fill_told2 HPk.out hlt])
                  clear hc hc4
                  have hw3 : IntKind.i64.wrap ((xs.length : Int) + k) = (xs.length : Int) + k := by rw [IntWalk.i64_in _ (by omega)]
                  have s3 : 0 ≤ (xs.length : Int) + k := by omega
                  have s4 : (xs.length : Int) + k < 2 * (xs.length : Int) := by omega
                  have s5 : ((xs.length : Int) + k).toNat = xs.length + k := by omega
                  have s6 : (k : Int) < 2 * (xs.length : Int) := by omega
                  by_cases hkR : k < R
                  · rw [if_pos hkR] at t1 t2
                    have g1 : (k : Int) < R := by omega
                    have g2 : decide ((R : Int) ≤ k) = false := by simp; omega
                    have g3 : decide (R ≤ k) = false := by simp; omega
                    go_wp2
                    go_quiet (fail)
                    go_wp2
                    go_roundw
                    case rel => exact ⟨k + 1, by omega, by go_num, (by repeat (first | assumption | exact Ext.refl _ | refine Ext.alloc ?_ _ | refine Ext.drew ?_ | refine Ext.drewN ?_ _ | refine Ext.setCell ?_ (by first | (simp; done) | omega | (simp; omega)) _ | refine Ext.trans (by assumption) ?_))⟩
                    case measure => simp [intOf]; omega
                  · rw [if_neg hkR] at t1 t2
                    have g1 : decide ((k : Int) < R) = false := by simp; omega
                    have g2 : decide (k < R) = false := by simp; omega
                    have g3 : R ≤ k := by omega
                    go_wp2
                    go_quiet (fail)
                    go_wp2
                    go_roundw
                    case rel => exact ⟨k + 1, by omega, by go_num, (by repeat (first | assumption | exact Ext.refl _ | refine Ext.alloc ?_ _ | refine Ext.drew ?_ | refine Ext.drewN ?_ _ | refine Ext.setCell ?_ (by first | (simp; done) | omega | (simp; omega)) _ | refine Ext.trans (by assumption) ?_))⟩
                    case measure => simp [intOf]; omega
                · go_wp2
                  go_ret
                  exact ⟨rfl, k4.trans hx⟩
set_option maxRecDepth 100000 in
theorem RingFills_lifted (os : Os) (started : os.Started) (H : Type) (enc : TypeId × Value → H) :
    ReturnsInHanded {} Try.checked os 5 .any (Rows.ringFillsSpec.pre6 enc Try.prog Try.f5 Rows.ringFillsRow.domain false) (Rows.ringFillsSpec.post enc Try.prog Try.f5 false true false false) := by
  refine returnsInHanded_of_change_sized (C := Try.checked) own started (by kernel_rfl) Try.func5
    (ChangeSpec.witness6 (enc := enc) (C := Try.checked) false ⟨#[], #[.int .i64 0, .slice none 0 0], []⟩ 8 (by kernel_rfl) (by kernel_rfl) (by kernel_rfl) (by kernel_rfl)) ?_
  intro W base args ds gs before hval0 hW _hcnd hsz0 _
  have hval : ∀ (j : Nat) t v, Try.f5.params[j]? = some t → args[j]? = some v → Value.okWide Try.prog W .any base t v := hval0
  have hsz : (DataW.weightsEach Try.prog (Try.f5.params.toList ++ Rows.ringFillsSpec.plain.varTypes Try.prog) (ds ++ gs)).all (· ≤ reachBytes) = true := hsz0
  have hW' := hW
  obtain ⟨p, q, hA0, hV, rfl, hfz, hnd⟩ := hW
  have hA : DataW.TrodAll enc Try.prog W 0 (fun _ => true) true Try.f5.params.toList args.toList ds p := hA0
  rw [Try.params5] at hA hval hsz
  obtain ⟨v0, vs0, d0, ds0, p0, q0, hargs, rfl, rfl, h0, r0⟩ := trodAll_cons hA
  obtain ⟨v1, vs1, d1, ds1, p1, q1, rfl, rfl, rfl, h1, r1⟩ := trodAll_cons r0
  obtain ⟨rfl, rfl, rfl⟩ := trodAll_nil r1
  obtain rfl : args = #[v0, v1] := by cases args; simp_all
  obtain ⟨rfl, rfl⟩ := trodVars_none hV
  have h0k := h0
  have h1k := h1
  have hlt0 : ∀ x ∈ p0, x.block < W.heap.size := fun x hx => by have := hW'.lt x (by simp [hx]); simpa using this
  have hlt1 : ∀ x ∈ p1, x.block < W.heap.size := fun x hx => by have := hW'.lt x (by simp [hx]); simpa using this
  obtain ⟨room, rfl, hroom1, hroom2⟩ := open_I64 Try.underlying3 (hval 0 3 v0 rfl rfl) h0
  obtain ⟨l, lA, ln, lc, rfl, hl⟩ := open_Ints Try.underlying22 Try.underlying3 (by kernel_rfl) (by kernel_rfl) (hval 1 22 v1 rfl rfl) h1 hsz (j := 1) rfl rfl
  clear hA0 hval0
  simp only [List.append_nil] at hW'
  refine (RingFills_walk room hroom1 hroom2 lA ln lc l hl (w := W)).mono fun e W' ⟨he, hg⟩ => ?_
  subst he
  exact ⟨_, rfl, post_law (pa := p0 ++ (p1 ++ [])) (pv := []) hW' (fun _ _ _ => (trodAll_cons_mk (shut_bool Try.underlying4 _) trodAll_mk0))
    (trodAll_cons_mk (Below.trod laidOut (by kernel_rfl) (of_decide_eq_true (by kernel_rfl)) h0k hg.out hlt0) (trodAll_cons_mk (Below.trod laidOut (by kernel_rfl) (of_decide_eq_true (by kernel_rfl)) h1k hg.out hlt1) trodAll_mk0)) rfl (by simp) hg⟩
theorem RingFills_holds : Rows.RingFillsSaid :=
  OpenClaim.holds_of_wide 5 Try.f5 rfl rfl rfl rfl rfl rfl rfl ⟨rfl, rfl, rfl, rfl, rfl⟩ rfl rfl rfl rfl rfl (by kernel_rfl) Try.func5 (by kernel_rfl)
    (of_decide_eq_true (by kernel_rfl)) (by unfold Func.isWrapper; first | (rw [if_pos (by decide +kernel)]; kernel_rfl) | (rw [if_neg (by decide +kernel)]; exact ⟨rfl, rfl⟩))
    (fun os started H enc _ => RingFills_lifted os started H enc)
#print axioms RingFills_holds
end Go.Proofs.Ytpggilainapoaaa
