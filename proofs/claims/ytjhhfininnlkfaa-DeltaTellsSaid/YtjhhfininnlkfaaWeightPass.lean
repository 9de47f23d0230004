/- The contracts of layer 8 (weight): with, Pass, Same, and the document's Same. -/
import Derived.Test.YtjhhfininnlkfaaWeight
namespace Go.Proofs.Ytjhhfininnlkfaa
open Go.RowKit Go.WideShapes Go.ChangeShapes
set_option linter.unusedVariables false
set_option linter.unusedSimpArgs false





theorem SubsAt.ints {w : World} {v : Value} {o : Option (List Int)} (h : SubsAt w v o) : IsInts w .u64 v (o.getD []) := by
  cases o with
  | none => exact ⟨none, 0, 0, h, Ints.nil_mk _ _⟩
  | some l => exact h
namespace Weight
def withN (a b c : Nat) : Nat := Num.subL (Num.lo (a + b)) c
def withB (a b c : Nat) : Bool := decide (c ≤ a + b ∧ a + b - c < 18446744073709551616)
theorem with_eq {a b c : Nat} (ha : a < 18446744073709551616) (hb : b < 18446744073709551616) (hc : c < 18446744073709551616) : decide (Num.hi (a + b) = Num.subH (Num.lo (a + b)) c) = withB a b c := by
  unfold withB Num.hi Num.subH Num.lo Num.M
  rw [decide_eq_decide]
  split <;> omega
theorem withN_eq {a b c : Nat} (ha : a < 18446744073709551616) (hb : b < 18446744073709551616) (hc : c < 18446744073709551616) (h : withB a b c = true) : withN a b c = a + b - c := by
  have h := of_decide_eq_true h
  unfold withN Num.subL Num.lo Num.M
  omega
theorem withN_lt (a b c : Nat) : withN a b c < 18446744073709551616 := by unfold withN Num.subL Num.M; omega
end Weight
theorem with_any (a b c : Nat) (ha : a < 18446744073709551616) (hb : b < 18446744073709551616) (hc : c < 18446744073709551616) (w : World) :
    Calls Try.prog 32 #[.int .u64 a, .int .u64 b, .int .u64 c] w fun e w' => e = .returned (.tuple #[.int .u64 (Weight.withN a b c : Nat), .bool (Weight.withB a b c)]) ∧ w' = w := by
  have h1 := run_add64 a b
  have h2 := run_sub64 (Num.lo (a + b)) c
  have he := Weight.with_eq ha hb hc
  have hn : Weight.withN a b c = Num.subL (Num.lo (a + b)) c := rfl
  rw [← he, hn]
  clear he hn
  generalize Num.subL (Num.lo (a + b)) c = x at *
  generalize Num.subH (Num.lo (a + b)) c = y at *
  generalize Num.hi (a + b) = z at *
  generalize Num.lo (a + b) = u at *
  by_cases hzy : z = y
  · have g1 : ((z : Int) == y) = true := by simp; omega
    rw [decide_eq_true hzy]
    clear hzy
    go_enter Try.func32, Try.ntmps32
    go_wp2
    go_ret2
    exact ⟨rfl, rfl⟩
  · have g1 : ((z : Int) == y) = false := by simp; omega
    rw [decide_eq_false hzy]
    clear hzy
    go_enter Try.func32, Try.ntmps32
    go_wp2
    go_ret2
    exact ⟨rfl, rfl⟩




set_option maxHeartbeats 2000000 in
theorem rsame64_any (A : Option Addr) (n c : Nat) (B : Option Addr) (n' d : Nat) (l m : List Int) (w : World) (h : Ints w .u64 A n c l) (g : Ints w .u64 B n' d m) :
    Calls Try.prog 14 #[.slice A n c, .slice B n' d] w fun e w' => e = .returned (.bool (decide (l = m))) ∧ Ext w w' := by
  have hroom := h.room
  have hroom2 := g.room
  have hv := h.view
  have gv := g.view
  obtain rfl := h.len
  have gl := g.len
  clear h g
  by_cases hlen : l.length = m.length
  · subst gl
    have H1 : Hid (∀ k, k < l.length → ∃ b off, A = some ⟨b, off, none⟩ ∧ w.cell? ⟨b, off + k, none⟩ = some (.int .u64 (nth l k))) := fun k hk => by
      rcases hv with h0 | ⟨b, off, e, hc⟩
      · omega
      · exact ⟨b, off, e, hc k hk⟩
    have H2 : Hid (∀ k, k < l.length → ∃ b off, B = some ⟨b, off, none⟩ ∧ w.cell? ⟨b, off + k, none⟩ = some (.int .u64 (nth m k))) := fun k hk => by
      rcases gv with h0 | ⟨b, off, e, hc⟩
      · omega
      · exact ⟨b, off, e, hc k (by omega)⟩
    have HL := Lib.hid hlen
    have gne : ((l.length : Int) != m.length) = false := by simp; omega
    clear hv gv hlen
    go_enter Try.func14, Try.ntmps14
    go_wp2
    go_loopw [5] (fun  i wr => ∃ k : Nat, k ≤ l.length ∧ i = .int .i64 k ∧ (∀ j, j < k → nth l j = nth m j) ∧ Ext w wr) (fun  i _ => l.length - (intOf i).toNat)
    case atStart => exact ⟨0, Nat.zero_le _, rfl, (fun j hj => absurd hj (Nat.not_lt_zero j)), Ext.refl _⟩
    case round =>
      obtain ⟨k, hk, rfl, hs, hx⟩ := hrel
      have HS := Lib.hid hs
      clear hs
      by_cases hlt : k < l.length
      · obtain ⟨b, off, rfl, d1⟩ := H1.out k hlt
        obtain ⟨b2, off2, rfl, d2⟩ := H2.out k hlt
        replace d1 := hx.cell d1
        replace d2 := hx.cell d2
        have gk : (k : Int) < l.length := by omega
        have gk2 : (k : Int) < m.length := by have := HL.out; omega
        by_cases he : nth l k = nth m k
        · have HE := Lib.hid he
          rw [← he] at d2
          have gz : (nth l k != nth l k) = false := by simp
          clear he
          go_wp2
          go_quiet (fail)
          go_wp2
          go_roundw
          case rel =>
            have hs' : ∀ j, j < k + 1 → nth l j = nth m j := fun j hj => by
              rcases Nat.lt_or_eq_of_le (Nat.lt_succ_iff.1 hj) with h | rfl
              · exact HS.out j h
              · exact HE.out
            first | exact ⟨k + 1, by omega, by go_num, hs', hx.drewN _⟩ | (refine ⟨_, ⟨k + 1, by omega, ?_, hs', hx.drewN _⟩, rfl⟩; go_num)
          case measure => simp [intOf]; omega
        · have H : Hid (decide (l = m) = false) := decide_eq_false (fun e => he (by rw [e]))
          have gz : (nth l k != nth m k) = true := by simp; exact he
          go_wp2
          go_quiet (fail)
          go_wp2
          go_ret
          exact ⟨by rw [H.out]; rfl, hx.drewN _⟩
      · have e : k = l.length := by omega
        subst e
        have H : Hid (decide (l = m) = true) := decide_eq_true (nth_ext HL.out HS.out)
        go_wp2
        go_ret
        exact ⟨by rw [H.out]; rfl, hx⟩
  · have H : Hid (decide (l = m) = false) := decide_eq_false (fun e => hlen (by rw [e]))
    subst gl
    have gne : ((l.length : Int) != m.length) = true := by simp; omega
    clear hv gv hlen
    go_enter Try.func14, Try.ntmps14
    go_wp2
    go_ret
    exact ⟨by rw [H.out]; rfl, Ext.refl _⟩












theorem Weight.listOf_succ (n : Nat) (f : Nat → Nat) : Weight.listOf (n + 1) f = Weight.listOf n f ++ [((f n : Nat) : Int)] := by
  unfold Weight.listOf; rw [List.range_succ, List.map_append]; rfl
theorem Weight.subV_len {T : List Node} {l r : List Int} (h : Weight.subV T l = some r) : r.length = T.length := by
  unfold Weight.subV at h
  split at h
  · obtain rfl := Option.some.inj h; exact Weight.listOf_len _ _
  · cases h
theorem Ints.nat64 {w : World} {A : Option Addr} {n c : Nat} {l : List Int} (h : Ints w .u64 A n c l) (k : Nat) : nth l k = (Weight.at' l k : Nat) ∧ Weight.at' l k < 18446744073709551616 := by
  have := h.u64 k
  unfold Weight.at'
  omega
set_option maxHeartbeats 1000000 in
theorem pass_any (A : Option Addr) (n c : Nat) (NS : List Node) (WA : Option Addr) (wn wc : Nat) (lw : List Int) (PA : Option Addr) (pn pc : Nat) (lp : List Int) (MA : Option Addr) (mn mc : Nat) (lm : List Int) (w : World) (h : NL w A n c NS) (hw : Ints w .u64 WA wn wc lw) (hp : Ints w .u64 PA pn pc lp) (hmi : Ints w .u64 MA mn mc lm) :
    Calls Try.prog 17 #[.agg #[.slice A n c], .slice WA wn wc, .slice PA pn pc, .slice MA mn mc] w fun e w' => (∃ v, e = .returned (.tuple #[v, .bool (Weight.passV NS lw lp lm).isSome]) ∧ SubsAt w' v (Weight.passV NS lw lp lm)) ∧ Ext w w' := by
  have hlen := h.len
  have hwl := hw.len
  have hwr := hw.room
  have HP := Lib.hid (fun W (k : Ext w W) => sub_w_any A n c NS PA pn pc lp W (h.ext k) (hp.ext k))
  have HMi := Lib.hid (fun W (k : Ext w W) => sub_w_any A n c NS MA mn mc lm W (h.ext k) (hmi.ext k))
  cases hP : Weight.subV NS lp with
  | none =>
    have e : Weight.passV NS lw lp lm = none := by unfold Weight.passV; rw [hP]
    rw [e]
    rw [hP] at HP
    obtain ⟨o, ho⟩ : ∃ o, Weight.subV NS lm = o := ⟨_, rfl⟩
    rw [ho] at HMi
    obtain ⟨q, hq⟩ : ∃ q, o.isSome = q := ⟨_, rfl⟩
    rw [hq] at HMi
    clear e hP h hw hp hmi ho hq
    go_enter Try.func17, Try.ntmps17
    go_wp2_with fail
    refine (HP.out _ ((by repeat (first | assumption | exact Ext.refl _ | refine Ext.alloc ?_ _ | refine Ext.drew ?_ | refine Ext.drewN ?_ _ | refine Ext.setCell ?_ (by first | (simp; done) | omega | (simp; omega)) _ | refine Ext.trans (by assumption) ?_)))).mono ?_
    rintro e1 w1 ⟨⟨v1, rfl, s1⟩, hx1⟩
    have k1 : Ext w w1 := Ext.trans ((by repeat (first | assumption | exact Ext.refl _ | refine Ext.alloc ?_ _ | refine Ext.drew ?_ | refine Ext.drewN ?_ _ | refine Ext.setCell ?_ (by first | (simp; done) | omega | (simp; omega)) _ | refine Ext.trans (by assumption) ?_))) hx1
    have t0 := hx1.cell (p := ⟨w.heap.size, 0, none⟩) (v := .slice A n c) (by first | (simp; done) | (simp (maxDischargeDepth := 7) [go_sem]; done))
    go_wp2_with fail
    refine (HMi.out _ k1).mono ?_
    rintro e2 w2 ⟨⟨v2, rfl, s2⟩, hx2⟩
    have k2 : Ext w w2 := k1.trans hx2
    go_wp2
    go_ret2
    exact ⟨⟨_, rfl, rfl⟩, k2⟩
  | some p =>
    cases hM : Weight.subV NS lm with
    | none =>
      have e : Weight.passV NS lw lp lm = none := by unfold Weight.passV; rw [hP, hM]
      rw [e]
      rw [hP] at HP
      rw [hM] at HMi
      clear e hP hM h hw hp hmi
      go_enter Try.func17, Try.ntmps17
      go_wp2_with fail
      refine (HP.out _ ((by repeat (first | assumption | exact Ext.refl _ | refine Ext.alloc ?_ _ | refine Ext.drew ?_ | refine Ext.drewN ?_ _ | refine Ext.setCell ?_ (by first | (simp; done) | omega | (simp; omega)) _ | refine Ext.trans (by assumption) ?_)))).mono ?_
      rintro e1 w1 ⟨⟨v1, rfl, s1⟩, hx1⟩
      have k1 : Ext w w1 := Ext.trans ((by repeat (first | assumption | exact Ext.refl _ | refine Ext.alloc ?_ _ | refine Ext.drew ?_ | refine Ext.drewN ?_ _ | refine Ext.setCell ?_ (by first | (simp; done) | omega | (simp; omega)) _ | refine Ext.trans (by assumption) ?_))) hx1
      have t0 := hx1.cell (p := ⟨w.heap.size, 0, none⟩) (v := .slice A n c) (by first | (simp; done) | (simp (maxDischargeDepth := 7) [go_sem]; done))
      go_wp2_with fail
      refine (HMi.out _ k1).mono ?_
      rintro e2 w2 ⟨⟨v2, rfl, s2⟩, hx2⟩
      have k2 : Ext w w2 := k1.trans hx2
      obtain ⟨A1, n1, c1, rfl, h1⟩ := s1
      go_wp2
      go_ret2
      exact ⟨⟨_, rfl, rfl⟩, k2⟩
    | some m =>
      rw [hP] at HP
      rw [hM] at HMi
      have hpl := Weight.subV_len hP
      have hml := Weight.subV_len hM
      rw [hlen] at hpl hml
      by_cases hwn : wn = n
      · obtain rfl : n = wn := hwn.symm
        have HW := Lib.hid (fun W (k : Ext w W) => hw.ext k)
        have hV : Weight.passV NS lw lp lm = if Weight.fitsAll lw p m = true then some (Weight.listOf n (fun i => Weight.at' lw i + Weight.at' p i - Weight.at' m i)) else none := by
          unfold Weight.passV
          rw [hP, hM]
          show (if lw.length = p.length ∧ Weight.fitsAll lw p m = true then _ else _) = _
          have e1 : lw.length = p.length := by rw [hwl, hpl]
          by_cases hf : Weight.fitsAll lw p m = true
          · rw [if_pos ⟨e1, hf⟩, if_pos hf, hwl]
          · rw [if_neg (fun g => hf g.2), if_neg hf]
        have HVV := Lib.hid hV
        have HPL := Lib.hid hpl
        have HML := Lib.hid hml
        have HWL := Lib.hid hwl
        clear hV hP hM h hw hp hmi hpl hml hwl hlen
        go_enter Try.func17, Try.ntmps17
        go_wp2_with fail
        refine (HP.out _ ((by repeat (first | assumption | exact Ext.refl _ | refine Ext.alloc ?_ _ | refine Ext.drew ?_ | refine Ext.drewN ?_ _ | refine Ext.setCell ?_ (by first | (simp; done) | omega | (simp; omega)) _ | refine Ext.trans (by assumption) ?_)))).mono ?_
        rintro e1 w1 ⟨⟨v1, rfl, s1⟩, hx1⟩
        have k1 : Ext w w1 := Ext.trans ((by repeat (first | assumption | exact Ext.refl _ | refine Ext.alloc ?_ _ | refine Ext.drew ?_ | refine Ext.drewN ?_ _ | refine Ext.setCell ?_ (by first | (simp; done) | omega | (simp; omega)) _ | refine Ext.trans (by assumption) ?_))) hx1
        have t0 := hx1.cell (p := ⟨w.heap.size, 0, none⟩) (v := .slice A n c) (by first | (simp; done) | (simp (maxDischargeDepth := 7) [go_sem]; done))
        go_wp2_with fail
        refine (HMi.out _ k1).mono ?_
        rintro e2 w2 ⟨⟨v2, rfl, s2⟩, hx2⟩
        have k2 : Ext w w2 := k1.trans hx2
        obtain ⟨A1, n1, c1, rfl, h1⟩ := s1
        obtain ⟨A2, n2, c2, rfl, h2⟩ := s2
        obtain rfl : n = n1 := by rw [← h1.len, HPL.out]
        obtain rfl : n = n2 := by rw [← h2.len, HML.out]
        have H1 := Lib.hid (fun W (k : Ext w2 W) => h1.ext (hx2.trans k))
        have H2 := Lib.hid (fun W (k : Ext w2 W) => h2.ext k)
        clear h1 h2 HP HMi t0
        go_wp2
        go_loopw [14, 15, 16, 17, 45] (fun v _ _ _ i wr => ∃ k : Nat, k ≤ n ∧ i = .int .i64 k ∧ wr.ownsRow w2.heap.size 26 1 v k ((Weight.listOf k (fun i => Weight.at' lw i + Weight.at' p i - Weight.at' m i)).map (Value.int .u64)) ∧ (∀ j, j < k → Weight.withB (Weight.at' lw j) (Weight.at' p j) (Weight.at' m j) = true) ∧ Ext w2 wr) (fun _ _ _ _ i _ => n - (intOf i).toNat)
        case atStart => exact ⟨0, Nat.zero_le _, rfl, own_new _ _ _ _, (fun j hj => absurd hj (Nat.not_lt_zero j)), Ext.refl _⟩
        case round =>
          obtain ⟨k, hk, rfl, hown, hall, hx⟩ := hrel
          have HALL := Lib.hid hall
          have HOW := Lib.hid hown
          clear hall hown
          have hs2 := hx.size
          by_cases hlt : k < n
          · have iw := HW.out _ (k2.trans hx)
            have i1 := H1.out _ hx
            have i2 := H2.out _ hx
            obtain ⟨ew, bw⟩ := iw.nat64 k
            obtain ⟨e1, b1⟩ := i1.nat64 k
            obtain ⟨e2, b2⟩ := i2.nat64 k
            obtain ⟨ba, oa, rfl, ca⟩ := iw.cells (by omega)
            obtain ⟨bb, ob, rfl, cb⟩ := i1.cells (by omega)
            obtain ⟨bc, oc, rfl, cc⟩ := i2.cells (by omega)
            have da := ca k hlt
            have db := cb k hlt
            have dc := cc k hlt
            rw [ew] at da
            rw [e1] at db
            rw [e2] at dc
            have HN := Lib.hid (Weight.withN_eq bw b1 b2)
            have HB := Lib.hid (fun W => with_any _ _ _ bw b1 b2 W)
            have hlast : Hid (∀ b, Weight.withB (Weight.at' lw k) (Weight.at' p k) (Weight.at' m k) = b → b = false → Weight.passV NS lw lp lm = none) := fun b hb hf => by
              rw [HVV.out, if_neg]
              intro hfa
              unfold Weight.fitsAll at hfa
              have := List.all_eq_true.1 hfa k (by rw [HWL.out]; exact List.mem_range.2 hlt)
              subst hf
              unfold Weight.withB at hb
              rw [hb] at this
              cases this
            have HVK : Hid (∀ x, Weight.at' lw k + Weight.at' p k - Weight.at' m k = x → Weight.listOf (k + 1) (fun i => Weight.at' lw i + Weight.at' p i - Weight.at' m i) = Weight.listOf k (fun i => Weight.at' lw i + Weight.at' p i - Weight.at' m i) ++ [((x : Nat) : Int)]) := fun x hx => by rw [Weight.listOf_succ]; simp only [hx]
            obtain ⟨xb, hxb⟩ : ∃ xb, Weight.withB (Weight.at' lw k) (Weight.at' p k) (Weight.at' m k) = xb := ⟨_, rfl⟩
            have HXB := Lib.hid hxb
            rw [hxb] at HB HN
            obtain ⟨xn, hxn⟩ : ∃ xn, Weight.withN (Weight.at' lw k) (Weight.at' p k) (Weight.at' m k) = xn := ⟨_, rfl⟩
            rw [hxn] at HB HN
            generalize Weight.at' lw k = u1 at da HB HN HVK
            generalize Weight.at' p k = u2 at db HB HN HVK
            generalize Weight.at' m k = u3 at dc HB HN HVK
            have gk : (k : Int) < n := by omega
            clear iw i1 i2 ew e1 e2 bw b1 b2 ca cb cc hxb hxn
            cases xb with
            | false =>
              go_wp2
              refine wp_region_quiet_lit (by kernel_rfl) (by kernel_rfl) ?_
              repeat (first | go_big_quiet_skip | (go_big_quiet_want; first | ((fail); (try simp only [Act.put, List.setIfInBounds_toArray, List.set_cons_zero, List.set_cons_succ]); go_big_quiet_on) | (go_big_quiet_op; first | go_big_quiet_on | go_big_quiet_call ((go_at_call 32; refine Calls.quiet_of_same (HB.out _))))))
              refine wpQuiet_nil ?_
              intro _ hw'
              obtain ⟨nq', hw''⟩ := hw'
              subst hw''
              go_wp2
              go_ret2
              have hn := hlast.out _ HXB.out rfl
              exact ⟨⟨_, by rw [hn]; rfl, by rw [hn]; rfl⟩, k2.trans (hx.drewN _)⟩
            | true =>
              go_wp2
              refine wp_region_quiet_lit (by kernel_rfl) (by kernel_rfl) ?_
              repeat (first | go_big_quiet_skip | (go_big_quiet_want; first | ((fail); (try simp only [Act.put, List.setIfInBounds_toArray, List.set_cons_zero, List.set_cons_succ]); go_big_quiet_on) | (go_big_quiet_op; first | go_big_quiet_on | go_big_quiet_call ((go_at_call 32; refine Calls.quiet_of_same (HB.out _))))))
              refine wpQuiet_nil ?_
              intro _ hw'
              obtain ⟨nq', hw''⟩ := hw'
              subst hw''
              go_wp2_with (at_builtin; refine wpList_app rowU64 rfl _ _ rfl w2.heap.size _ _ _ rfl ((own_ext HOW.out ((Ext.refl _).drewN _)).alloc _) (some ⟨wr.heap.size, 0, none⟩) 1 1 [.int .u64 xn] rfl (src_at rfl (by simp)) (by omega) (by first | (simp; done) | (simp; omega)) ?_; intro v' w3 hown3 hgrow3 _)
              have hx3 : Ext w2 w3 := ((hx.drewN _).alloc _).grown hgrow3 (fun j e => own_from HOW.out j e)
              have hlk := HVK.out xn (HN.out (by trivial)).symm
              have HLK := Lib.hid hlk
              clear hlk
              go_roundw
              case rel =>
                have hall' : ∀ j, j < k + 1 → Weight.withB (Weight.at' lw j) (Weight.at' p j) (Weight.at' m j) = true := fun j hj => by
                  rcases Nat.lt_or_eq_of_le (Nat.lt_succ_iff.1 hj) with h | rfl
                  · exact HALL.out j h
                  · exact HXB.out
                have ho' : w3.ownsRow w2.heap.size 26 1 v' (k + 1) ((Weight.listOf (k + 1) (fun i => Weight.at' lw i + Weight.at' p i - Weight.at' m i)).map (Value.int .u64)) := by
                  rw [HLK.out, List.map_append]; exact hown3
                first | exact ⟨k + 1, by omega, by go_num, ho', hall', hx3⟩ | (refine ⟨_, _, _, ⟨k + 1, by omega, ?_, ho', hall', hx3⟩, rfl, rfl, rfl⟩; go_num)
              case measure => simp [intOf]; omega
          · have e : k = n := by omega
            subst e
            have hn : Hid (Weight.passV NS lw lp lm = some (Weight.listOf k (fun i => Weight.at' lw i + Weight.at' p i - Weight.at' m i))) := by
              show _ = _
              rw [HVV.out, if_pos]
              unfold Weight.fitsAll
              rw [List.all_eq_true]
              intro j hj
              have := HALL.out j (by rw [HWL.out] at hj; exact List.mem_range.1 hj)
              exact this
            have hwf : ∀ x ∈ Weight.listOf k (fun i => Weight.at' lw i + Weight.at' p i - Weight.at' m i), (Lit.int .u64 x).wf = true := fun x hx => by
              unfold Weight.listOf at hx
              obtain ⟨j, hj, rfl⟩ := List.mem_map.1 hx
              have := HALL.out j (List.mem_range.1 hj)
              unfold Weight.withB at this
              have := of_decide_eq_true this
              simp [Lit.wf, IntKind.min, IntKind.max, IntKind.signed, IntKind.bits]; omega
            have HWF := Lib.hid hwf
            clear hwf
            go_wp2
            go_ret2
            exact ⟨⟨_, by rw [hn.out]; rfl, by rw [hn.out]; exact isInts_own HOW.out (by omega) HWF.out⟩, k2.trans hx⟩
      · have e : Weight.passV NS lw lp lm = none := by
          unfold Weight.passV
          rw [hP, hM]
          show (if lw.length = p.length ∧ Weight.fitsAll lw p m = true then _ else _) = _
          rw [if_neg]
          rintro ⟨g, _⟩
          rw [hwl, hpl] at g
          exact hwn g
        rw [e]
        have HPL := Lib.hid hpl
        have gne : ((wn : Int) != n) = true := by simp; omega
        clear e hP hM h hw hp hmi hpl hml hwn hlen
        go_enter Try.func17, Try.ntmps17
        go_wp2_with fail
        refine (HP.out _ ((by repeat (first | assumption | exact Ext.refl _ | refine Ext.alloc ?_ _ | refine Ext.drew ?_ | refine Ext.drewN ?_ _ | refine Ext.setCell ?_ (by first | (simp; done) | omega | (simp; omega)) _ | refine Ext.trans (by assumption) ?_)))).mono ?_
        rintro e1 w1 ⟨⟨v1, rfl, s1⟩, hx1⟩
        have k1 : Ext w w1 := Ext.trans ((by repeat (first | assumption | exact Ext.refl _ | refine Ext.alloc ?_ _ | refine Ext.drew ?_ | refine Ext.drewN ?_ _ | refine Ext.setCell ?_ (by first | (simp; done) | omega | (simp; omega)) _ | refine Ext.trans (by assumption) ?_))) hx1
        have t0 := hx1.cell (p := ⟨w.heap.size, 0, none⟩) (v := .slice A n c) (by first | (simp; done) | (simp (maxDischargeDepth := 7) [go_sem]; done))
        go_wp2_with fail
        refine (HMi.out _ k1).mono ?_
        rintro e2 w2 ⟨⟨v2, rfl, s2⟩, hx2⟩
        have k2 : Ext w w2 := k1.trans hx2
        obtain ⟨A1, n1, c1, rfl, h1⟩ := s1
        obtain rfl : n = n1 := by rw [← h1.len, HPL.out]
        obtain ⟨A2, n2, c2, rfl, h2⟩ := s2
        go_wp2
        go_ret2
        exact ⟨⟨_, rfl, rfl⟩, k2⟩
end Go.Proofs.Ytjhhfininnlkfaa
