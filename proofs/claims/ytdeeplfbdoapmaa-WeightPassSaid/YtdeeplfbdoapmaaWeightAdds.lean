/- WeightAdds: the sums of two lists, number by number together, are those of both together; for every tree and all numbers. -/
import Derived.Test.YtdeeplfbdoapmaaWeightMake
import Derived.StillTailTactics
namespace Go.Proofs.Ytdeeplfbdoapmaa
open Go.RowKit Go.WideShapes Go.ChangeShapes
set_option linter.unusedVariables false
set_option linter.unusedSimpArgs false







namespace Weight
theorem sum_bound {n B : Nat} {f : Nat → Nat} (h : ∀ k, k < n → f k ≤ B) : sum n f ≤ n * B := by
  induction n with
  | zero => rw [Nat.zero_mul]; exact Nat.le_refl _
  | succ n ih => rw [sum_succ, Nat.succ_mul]; exact Nat.add_le_add (ih (fun k hk => h k (by omega))) (h n (by omega))
theorem total_lt {T : List Node} {l : List Int} (hn : T.length ≤ 20) (h : ∀ k, k < T.length → at' l k < 2251799813685248) : total T (at' l) < 18446744073709551616 := by
  obtain ⟨B, hB⟩ : ∃ B, 2251799813685248 = B := ⟨_, rfl⟩
  have h1 := sum_bound (n := T.length) (B := B) (f := at' l) (fun k hk => by have := h k hk; omega)
  have h2 : T.length * B ≤ 20 * B := Nat.mul_le_mul_right _ hn
  unfold total
  omega
theorem sub_small {T : List Node} (hm : Tree.mayV T = true) (hn : T.length ≤ 20) {l : List Int} (hl : l.length = T.length) (h : ∀ k, k < T.length → at' l k < 2251799813685248) : subV T l = some (listOf T.length (S T (at' l))) := by
  unfold subV
  rw [if_pos ⟨hm, hl, total_lt hn h⟩]
end Weight
set_option maxRecDepth 100000 in
set_option maxHeartbeats 2000000 in
theorem WeightAdds_walk {w : World} (tA : Option Addr) (tn tc : Nat) (t : List Node) (ht : NL w tA tn tc t) (aA : Option Addr) (an ac : Nat) (la : List Int) (ha : Ints w .u64 aA an ac la) (bA : Option Addr) (bn bc : Nat) (lb : List Int) (hb : Ints w .u64 bA bn bc lb) :
    Calls Try.prog 6 #[.agg #[.slice tA tn tc], .slice aA an ac, .slice bA bn bc] w fun e' w' => e' = .returned (.bool true) ∧ Ext w w' := by
  have hlen := ht.len
  have hroom := ht.row.room
  have hal := ha.len
  have hbl := hb.len
  have hroom2 := ha.room
  have hroom3 := hb.room
  have HAW := Lib.hid (fun W => awake_any W)
  by_cases hok : tn ≤ 20 ∧ an = tn ∧ bn = an
  · obtain ⟨h20, h1, h2⟩ := hok
    obtain rfl : tn = an := h1.symm
    obtain rfl : tn = bn := h2.symm
    clear h1 h2
    have f1 : ¬ (20 : Int) < tn := by omega
    have CA := Lib.hid (fun W (k : Ext w W) x (hx : x < tn) => (by obtain ⟨b, off, e, hc⟩ := ha.cells (by omega); have h := k.cell (hc x hx); rw [(ha.nat64 x).1] at h; exact ⟨b, off, e, h, (ha.nat64 x).2⟩ : ∃ b off, aA = some ⟨b, off, none⟩ ∧ W.cell? ⟨b, off + x, none⟩ = some (.int .u64 (Weight.at' la x : Nat)) ∧ Weight.at' la x < 18446744073709551616))
    have CB := Lib.hid (fun W (k : Ext w W) x (hx : x < tn) => (by obtain ⟨b, off, e, hc⟩ := hb.cells (by omega); have h := k.cell (hc x hx); rw [(hb.nat64 x).1] at h; exact ⟨b, off, e, h, (hb.nat64 x).2⟩ : ∃ b off, bA = some ⟨b, off, none⟩ ∧ W.cell? ⟨b, off + x, none⟩ = some (.int .u64 (Weight.at' lb x : Nat)) ∧ Weight.at' lb x < 18446744073709551616))
    have HA := Lib.hid ha
    have HB := Lib.hid hb
    have HT := Lib.hid ht
    have HLA := Lib.hid hal
    have HLB := Lib.hid hbl
    have HLT := Lib.hid hlen
    clear ha hb ht hal hbl hlen
    go_enter Try.func6, Try.ntmps6
    try simp only [List.append_eq, List.cons_append, List.nil_append]
    go_wp2_with fail
    refine (HAW.out _).mono ?_
    rintro e0 w0 ⟨rfl, hx0⟩
    have k0 : Ext w w0 := Ext.trans ((by repeat (first | assumption | exact Ext.refl _ | refine Ext.alloc ?_ _ | refine Ext.drew ?_ | refine Ext.drewN ?_ _ | refine Ext.setCell ?_ (by first | (simp; done) | omega | (simp; omega)) _ | refine Ext.trans (by assumption) ?_))) hx0
    have t0 := hx0.cell (p := ⟨w.heap.size, 0, none⟩) (v := .slice tA tn tc) (by first | (simp; done) | (simp (maxDischargeDepth := 7) [go_sem]; done))
    clear HAW
    have T0 := Lib.hid t0
    go_wp2
    clear t0
    go_loopw [8, 9] (fun v' k' wr => ∃ j : Nat, j ≤ tn ∧ k' = .int .i64 j ∧ wr.ownsRow w0.heap.size 33 1 v' j ((Weight.listOf j (fun k => Weight.at' la k + Weight.at' lb k)).map (Value.int .u64)) ∧ (∀ k, k < j → Weight.at' la k < 1125899906842624 ∧ Weight.at' lb k < 1125899906842624) ∧ Ext w0 wr) (fun _ k' _ => tn - (intOf k').toNat)
    case atStart => exact ⟨0, Nat.zero_le _, rfl, own_new _ _ _ _, fun k hk => absurd hk (Nat.not_lt_zero _), Ext.refl _⟩
    case round =>
      obtain ⟨j, hj, rfl, hown, hsm, hxr⟩ := hrel
      by_cases hlt : j < tn
      · obtain ⟨ba, oa, rfl, d0, d1⟩ := CA.out _ (k0.trans hxr) j hlt
        obtain ⟨bb, ob, rfl, e0, e1⟩ := CB.out _ (k0.trans hxr) j hlt
        have la0 : w.cell? ⟨ba, oa + j, none⟩ = some (.int .u64 (Weight.at' la j : Nat)) := by obtain ⟨b, o, e, h, _⟩ := CA.out _ (Ext.refl _) j hlt; cases e; exact h
        have lb0 : w.cell? ⟨bb, ob + j, none⟩ = some (.int .u64 (Weight.at' lb j : Nat)) := by obtain ⟨b, o, e, h, _⟩ := CB.out _ (Ext.refl _) j hlt; cases e; exact h
        have hna := own_ne hown (Nat.lt_of_lt_of_le (lt_of_cell la0) k0.size)
        have hnb := own_ne hown (Nat.lt_of_lt_of_le (lt_of_cell lb0) k0.size)
        clear la0 lb0
        have gj : (j : Int) < tn := by omega
        have hls := Weight.listOf_succ j (fun k => Weight.at' la k + Weight.at' lb k)
        have HLS := Lib.hid hls
        clear hls
        obtain ⟨x, hx⟩ : ∃ x, Weight.at' la j = x := ⟨_, rfl⟩
        obtain ⟨y, hy⟩ : ∃ y, Weight.at' lb j = y := ⟨_, rfl⟩
        rw [hx] at d0 d1
        rw [hy] at e0 e1
        have HX := Lib.hid hx
        have HY := Lib.hid hy
        have HSM := Lib.hid hsm
        clear hx hy hsm
        by_cases hx50 : 1125899906842624 ≤ x
        · have g1 : (1125899906842624 : Int) ≤ x := by omega
          clear hx50 d1 e1
          go_wp2
          go_ret
          exact ⟨rfl, k0.trans hxr⟩
        have g1 : ¬ (1125899906842624 : Int) ≤ x := by omega
        have HX5 := Lib.hid hx50
        clear hx50
        by_cases hy50 : 1125899906842624 ≤ y
        · have g2 : (1125899906842624 : Int) ≤ y := by omega
          clear hy50
          go_wp2
          go_ret
          exact ⟨rfl, k0.trans hxr⟩
        have g2 : ¬ (1125899906842624 : Int) ≤ y := by omega
        have HY5 := Lib.hid hy50
        clear hy50
        go_wp2_with fail
        have sxy : IntKind.u64.wrap ((x : Int) + y) = ((x + y : Nat) : Int) := by have := HX5.out; have := HY5.out; simp [IntKind.wrap, IntKind.signed, IntKind.bits]; omega
        go_region_held3 (fun w' => w'.cell? ⟨ba, oa + j, none⟩ = some (.int .u64 x) ∧ w'.cell? ⟨bb, ob + j, none⟩ = some (.int .u64 y)) (first | go_keep | exact ⟨hgrow.cell (((Ext.refl _).alloc _).drew.cell d0) hna, hgrow.cell (((Ext.refl _).alloc _).drew.cell e0) hnb⟩) ((refine step_app rowU64 (by rfl) _ _ (by rfl) w0.heap.size _ j ((Weight.listOf j (fun k => Weight.at' la k + Weight.at' lb k)).map (Value.int .u64)) (by rfl) (hown.alloc _).drew (some ⟨_, 0, none⟩) 1 1 [.int .u64 ((x : Int) + y)] (by rfl) ((src_at (by rfl) (by rfl)).ext (Ext.refl _).drew) (by omega) (by have := hxr.size; simp; omega) ?_; intro v2 wa hown2 hgrow hat))
        have R1 : wa.ownsRow w0.heap.size 33 1 v2 (j + 1) ((Weight.listOf (j + 1) (fun k => Weight.at' la k + Weight.at' lb k)).map (Value.int .u64)) := by
          rw [HLS.out, List.map_append]
          simp only [List.map_cons, List.map_nil, Int.natCast_add, HX.out, HY.out]
          exact hown2
        have R2 : Ext w0 wa := ((hxr.alloc _).drew).grown hgrow (own_from hown)
        have R3 : ∀ k, k < j + 1 → Weight.at' la k < 1125899906842624 ∧ Weight.at' lb k < 1125899906842624 := fun k hk => by
          rcases Nat.lt_succ_iff_lt_or_eq.1 hk with h | rfl
          · exact HSM.out k h
          · rw [HX.out, HY.out]; have := HX5.out; have := HY5.out; omega
        have HR3 := Lib.hid R3
        clear R3 hown2 hgrow hat hown hna hnb d0 e0 sxy g1 g2
        go_wp2
        go_roundw
        case rel => exact ⟨j + 1, by omega, by go_num, R1, HR3.out, R2⟩
        case measure => simp [intOf]; omega
      · obtain rfl : tn = j := by omega
        obtain ⟨lc, hlc⟩ : ∃ lc, Weight.listOf tn (fun k => Weight.at' la k + Weight.at' lb k) = lc := ⟨_, rfl⟩
        have hac : ∀ k, k < tn → Weight.at' lc k = Weight.at' la k + Weight.at' lb k := fun k hk => by rw [← hlc, Weight.at_listOf hk]
        have hll : lc.length = t.length := by rw [← hlc, Weight.listOf_len]; exact HLT.out.symm
        have hwf : ∀ x ∈ lc, (Lit.int .u64 x).wf = true := by
          rw [← hlc]; exact Weight.listOf_wf (fun k hk => by have := hsm k hk; omega)
        rw [hlc] at hown
        obtain ⟨VA, vn, vc, rfl, hV⟩ := isInts_own hown (by omega) hwf
        have hcl := hV.len
        have kr := k0.trans hxr
        have tt := hxr.cell T0.out
        have hlt' := HLT.out
        cases hm : Tree.mayV t with
        | false =>
          obtain ⟨ra, hra⟩ : ∃ r, (Weight.subV t la).getD [] = r := ⟨_, rfl⟩
          obtain ⟨rb, hrb⟩ : ∃ r, (Weight.subV t lb).getD [] = r := ⟨_, rfl⟩
          obtain ⟨rc, hrc⟩ : ∃ r, (Weight.subV t lc).getD [] = r := ⟨_, rfl⟩
          have hba : (Weight.subV t la).isSome = false := by rw [Weight.subV_no hm]; rfl
          have hbb : (Weight.subV t lb).isSome = false := by rw [Weight.subV_no hm]; rfl
          have hbc : (Weight.subV t lc).isSome = false := by rw [Weight.subV_no hm]; rfl
          clear hsm hown hm
          go_wp2_with fail
          refine (sub_is tA tn tc t _ _ _ la false ra hba hra _ (HT.out.ext kr) (HA.out.ext kr)).mono ?_
          rintro e w1 ⟨⟨v, rfl, ⟨A1, n1, c1, rfl, h1⟩⟩, hx1⟩
          have k1 : Ext w w1 := Ext.trans kr hx1
          replace tt := hx1.cell tt
          go_wp2_with fail
          refine (sub_is tA tn tc t _ _ _ lb false rb hbb hrb _ (HT.out.ext k1) (HB.out.ext k1)).mono ?_
          rintro e w2 ⟨⟨v, rfl, ⟨A2, n2, c2, rfl, h2⟩⟩, hx2⟩
          have k2 : Ext w w2 := Ext.trans k1 hx2
          replace tt := hx2.cell tt
          go_wp2_with fail
          refine (sub_is tA tn tc t _ _ _ lc false rc hbc hrc _ (HT.out.ext k2) (hV.ext (hx1.trans hx2))).mono ?_
          rintro e w3 ⟨⟨v, rfl, ⟨A3, n3, c3, rfl, h3⟩⟩, hx3⟩
          have k3 : Ext w w3 := Ext.trans k2 hx3
          replace tt := hx3.cell tt
          go_wp2
          go_ret
          exact ⟨rfl, k3⟩
        | true =>
          have hn20 : t.length ≤ 20 := by omega
          have ea := Weight.sub_small hm hn20 (l := la) (by rw [HLA.out, HLT.out]) (fun k hk => by have := hsm k (by omega); omega)
          have eb := Weight.sub_small hm hn20 (l := lb) (by rw [HLB.out, HLT.out]) (fun k hk => by have := hsm k (by omega); omega)
          have ec := Weight.sub_small hm hn20 (l := lc) hll (fun k hk => by have := hsm k (by omega); rw [hac k (by omega)]; omega)
          have htc := Weight.total_lt hn20 (l := lc) (fun k hk => by have := hsm k (by omega); rw [hac k (by omega)]; omega)
          rw [hlt'] at ea eb ec
          obtain ⟨SA, hSA⟩ : ∃ S, Weight.S t (Weight.at' la) = S := ⟨_, rfl⟩
          obtain ⟨SB, hSB⟩ : ∃ S, Weight.S t (Weight.at' lb) = S := ⟨_, rfl⟩
          have hS : ∀ k, Weight.S t (Weight.at' lc) k = SA k + SB k := fun k => by
            rw [Weight.S_congr (p := fun x => Weight.at' la x + Weight.at' lb x) (fun x hx => hac x (by omega)), Weight.S_add, hSA, hSB]
          have hSl : ∀ k, SA k + SB k < 18446744073709551616 := fun k => by rw [← hS]; have := Weight.S_le t (Weight.at' lc) k; omega
          rw [Weight.listOf_congr (g := fun k => SA k + SB k) (fun k _ => hS k)] at ec
          rw [hSA] at ea
          rw [hSB] at eb
          have hba : (Weight.subV t la).isSome = true := by rw [ea]; rfl
          have hbb : (Weight.subV t lb).isSome = true := by rw [eb]; rfl
          have hbc : (Weight.subV t lc).isSome = true := by rw [ec]; rfl
          obtain ⟨ra, hra⟩ : ∃ r, (Weight.subV t la).getD [] = r := ⟨_, rfl⟩
          obtain ⟨rb, hrb⟩ : ∃ r, (Weight.subV t lb).getD [] = r := ⟨_, rfl⟩
          obtain ⟨rc, hrc⟩ : ∃ r, (Weight.subV t lc).getD [] = r := ⟨_, rfl⟩
          have hra' : ra = Weight.listOf tn SA := by rw [← hra, ea]; rfl
          have hrb' : rb = Weight.listOf tn SB := by rw [← hrb, eb]; rfl
          have hrc' : rc = Weight.listOf tn (fun k => SA k + SB k) := by rw [← hrc, ec]; rfl
          have HSL := Lib.hid hSl
          clear hsm hown hm hS hSl hSA hSB ea eb ec htc hac hll hwf hn20
          go_wp2_with fail
          refine (sub_is tA tn tc t _ _ _ la true ra hba hra _ (HT.out.ext kr) (HA.out.ext kr)).mono ?_
          rintro e w1 ⟨⟨v, rfl, ⟨A1, n1, c1, rfl, h1⟩⟩, hx1⟩
          have k1 : Ext w w1 := Ext.trans kr hx1
          replace tt := hx1.cell tt
          go_wp2_with fail
          refine (sub_is tA tn tc t _ _ _ lb true rb hbb hrb _ (HT.out.ext k1) (HB.out.ext k1)).mono ?_
          rintro e w2 ⟨⟨v, rfl, ⟨A2, n2, c2, rfl, h2⟩⟩, hx2⟩
          have k2 : Ext w w2 := Ext.trans k1 hx2
          replace tt := hx2.cell tt
          go_wp2_with fail
          refine (sub_is tA tn tc t _ _ _ lc true rc hbc hrc _ (HT.out.ext k2) (hV.ext (hx1.trans hx2))).mono ?_
          rintro e w3 ⟨⟨v, rfl, ⟨A3, n3, c3, rfl, h3⟩⟩, hx3⟩
          have k3 : Ext w w3 := Ext.trans k2 hx3
          replace tt := hx3.cell tt
          obtain rfl : tn = n1 := by have := h1.len; rw [hra', Weight.listOf_len] at this; exact this
          obtain rfl : tn = n2 := by have := h2.len; rw [hrb', Weight.listOf_len] at this; exact this
          have HX1 := Lib.hid (fun W (k : Ext w3 W) x (hx : x < tn) => (by obtain ⟨b, off, e, hc⟩ := (h1.ext (hx2.trans hx3)).cells (by omega); have h := k.cell (hc x hx); rw [hra', Weight.nth_listOf hx] at h; exact ⟨b, off, e, h⟩ : ∃ b off, A1 = some ⟨b, off, none⟩ ∧ W.cell? ⟨b, off + x, none⟩ = some (.int .u64 (SA x : Nat))))
          have HX2 := Lib.hid (fun W (k : Ext w3 W) x (hx : x < tn) => (by obtain ⟨b, off, e, hc⟩ := (h2.ext hx3).cells (by omega); have h := k.cell (hc x hx); rw [hrb', Weight.nth_listOf hx] at h; exact ⟨b, off, e, h⟩ : ∃ b off, A2 = some ⟨b, off, none⟩ ∧ W.cell? ⟨b, off + x, none⟩ = some (.int .u64 (SB x : Nat))))
          have H3 := Lib.hid h3
          have HRC := Lib.hid hrc'
          clear h1 h2 h3 hra hrb hrc hra' hrb' hrc' hba hbb hbc hV hcl
          go_wp2
          obtain ⟨wo, rfl⟩ : ∃ wo : World, wo = w3 := ⟨_, rfl⟩
          go_loopw [16, 17] (fun v' k' wq => ∃ j : Nat, j ≤ tn ∧ k' = .int .i64 j ∧ wq.ownsRow wo.heap.size 33 1 v' j ((Weight.listOf j (fun k => SA k + SB k)).map (Value.int .u64)) ∧ Ext wo wq) (fun _ k' _ => tn - (intOf k').toNat)
          case atStart => exact ⟨0, Nat.zero_le _, rfl, own_new _ _ _ _, Ext.refl _⟩
          case round =>
            obtain ⟨j, hj, rfl, hown, hxq⟩ := hrel
            by_cases hlt : j < tn
            · obtain ⟨ba, oa, rfl, d0⟩ := HX1.out _ hxq j hlt
              obtain ⟨bb, ob, rfl, e0⟩ := HX2.out _ hxq j hlt
              have la0 : wo.cell? ⟨ba, oa + j, none⟩ = some (.int .u64 (SA j : Nat)) := by obtain ⟨b, o, e, h⟩ := HX1.out _ (Ext.refl _) j hlt; cases e; exact h
              have lb0 : wo.cell? ⟨bb, ob + j, none⟩ = some (.int .u64 (SB j : Nat)) := by obtain ⟨b, o, e, h⟩ := HX2.out _ (Ext.refl _) j hlt; cases e; exact h
              have hna := own_ne hown (lt_of_cell la0)
              have hnb := own_ne hown (lt_of_cell lb0)
              clear la0 lb0
              have gj : (j : Int) < tn := by omega
              have hls := Weight.listOf_succ j (fun k => SA k + SB k)
              have HLS := Lib.hid hls
              have hsl := HSL.out j
              clear hls
              obtain ⟨x, hx⟩ : ∃ x, SA j = x := ⟨_, rfl⟩
              obtain ⟨y, hy⟩ : ∃ y, SB j = y := ⟨_, rfl⟩
              rw [hx] at d0 hsl
              rw [hy] at e0 hsl
              have HX := Lib.hid hx
              have HY := Lib.hid hy
              clear hx hy
              have sxy : IntKind.u64.wrap ((x : Int) + y) = ((x + y : Nat) : Int) := by simp [IntKind.wrap, IntKind.signed, IntKind.bits]; omega
              go_wp2_with fail
              go_region_held3 (fun w' => w'.cell? ⟨ba, oa + j, none⟩ = some (.int .u64 x) ∧ w'.cell? ⟨bb, ob + j, none⟩ = some (.int .u64 y)) (first | go_keep | exact ⟨hgrow.cell (((Ext.refl _).alloc _).drew.cell d0) hna, hgrow.cell (((Ext.refl _).alloc _).drew.cell e0) hnb⟩) ((refine step_app rowU64 (by rfl) _ _ (by rfl) wo.heap.size _ j ((Weight.listOf j (fun k => SA k + SB k)).map (Value.int .u64)) (by rfl) (hown.alloc _).drew (some ⟨_, 0, none⟩) 1 1 [.int .u64 ((x : Int) + y)] (by rfl) ((src_at (by rfl) (by rfl)).ext (Ext.refl _).drew) (by omega) (by have := hxq.size; simp; omega) ?_; intro v2 wa hown2 hgrow hat))
              have R1 : wa.ownsRow wo.heap.size 33 1 v2 (j + 1) ((Weight.listOf (j + 1) (fun k => SA k + SB k)).map (Value.int .u64)) := by
                rw [HLS.out, List.map_append]
                simp only [List.map_cons, List.map_nil, Int.natCast_add, HX.out, HY.out]
                exact hown2
              have R2 : Ext wo wa := ((hxq.alloc _).drew).grown hgrow (own_from hown)
              clear hown2 hgrow hat hown hna hnb d0 e0 sxy
              go_wp2
              go_roundw
              case rel => exact ⟨j + 1, by omega, by go_num, R1, R2⟩
              case measure => simp [intOf]; omega
            · obtain rfl : tn = j := by omega
              obtain ⟨WA, wn, wc, rfl, hW⟩ := isInts_own hown (by omega) (Weight.listOf_wf (fun k _ => HSL.out k))
              rw [← HRC.out] at hW
              go_wp2_with fail
              refine (rsame_is _ _ _ _ _ _ rc rc true (decide_eq_true rfl) _ hW (H3.out.ext hxq)).mono ?_
              rintro e w9 ⟨rfl, hx9⟩
              go_wp2
              go_ret
              exact ⟨rfl, k3.trans (hxq.trans hx9)⟩
  · by_cases h20 : 20 < tn
    · clear hok
      go_enter Try.func6, Try.ntmps6
      try simp only [List.append_eq, List.cons_append, List.nil_append]
      go_wp2_with fail
      refine (HAW.out _).mono ?_
      rintro e0 w0 ⟨rfl, hx0⟩
      have k0 : Ext w w0 := Ext.trans ((by repeat (first | assumption | exact Ext.refl _ | refine Ext.alloc ?_ _ | refine Ext.drew ?_ | refine Ext.drewN ?_ _ | refine Ext.setCell ?_ (by first | (simp; done) | omega | (simp; omega)) _ | refine Ext.trans (by assumption) ?_))) hx0
      have t0 := hx0.cell (p := ⟨w.heap.size, 0, none⟩) (v := .slice tA tn tc) (by first | (simp; done) | (simp (maxDischargeDepth := 7) [go_sem]; done))
      clear HAW
      go_wp2
      go_ret
      exact ⟨rfl, k0⟩
    have f1 : ¬ (20 : Int) < tn := by omega
    by_cases h1 : an = tn
    · have g1 : ((bn : Int) != tn) = true := by simp; omega
      obtain rfl : tn = an := h1.symm
      clear hok hal hbl
      go_enter Try.func6, Try.ntmps6
      try simp only [List.append_eq, List.cons_append, List.nil_append]
      go_wp2_with fail
      refine (HAW.out _).mono ?_
      rintro e0 w0 ⟨rfl, hx0⟩
      have k0 : Ext w w0 := Ext.trans ((by repeat (first | assumption | exact Ext.refl _ | refine Ext.alloc ?_ _ | refine Ext.drew ?_ | refine Ext.drewN ?_ _ | refine Ext.setCell ?_ (by first | (simp; done) | omega | (simp; omega)) _ | refine Ext.trans (by assumption) ?_))) hx0
      have t0 := hx0.cell (p := ⟨w.heap.size, 0, none⟩) (v := .slice tA tn tc) (by first | (simp; done) | (simp (maxDischargeDepth := 7) [go_sem]; done))
      clear HAW
      go_wp2
      go_ret
      exact ⟨rfl, k0⟩
    · have g2 : ¬ ((an : Int) = tn) := by omega
      clear hok hal hbl
      go_enter Try.func6, Try.ntmps6
      try simp only [List.append_eq, List.cons_append, List.nil_append]
      go_wp2_with fail
      refine (HAW.out _).mono ?_
      rintro e0 w0 ⟨rfl, hx0⟩
      have k0 : Ext w w0 := Ext.trans ((by repeat (first | assumption | exact Ext.refl _ | refine Ext.alloc ?_ _ | refine Ext.drew ?_ | refine Ext.drewN ?_ _ | refine Ext.setCell ?_ (by first | (simp; done) | omega | (simp; omega)) _ | refine Ext.trans (by assumption) ?_))) hx0
      have t0 := hx0.cell (p := ⟨w.heap.size, 0, none⟩) (v := .slice tA tn tc) (by first | (simp; done) | (simp (maxDischargeDepth := 7) [go_sem]; done))
      clear HAW
      go_wp2
      go_ret
      exact ⟨rfl, k0⟩
set_option maxRecDepth 100000 in
theorem WeightAdds_lifted (os : Os) (started : os.Started) (H : Type) (enc : TypeId × Value → H) :
    ReturnsInHanded {} Try.checked os 6 .any (Rows.weightAddsSpec.pre6 enc Try.prog Try.f6 Rows.weightAddsRow.domain false) (Rows.weightAddsSpec.post enc Try.prog Try.f6 false true false false) := by
  refine returnsInHanded_of_change_sized (C := Try.checked) own started (by kernel_rfl) Try.func6
    (ChangeSpec.witness6 (enc := enc) (C := Try.checked) false ⟨#[], #[.agg #[.slice none 0 0], .slice none 0 0, .slice none 0 0], []⟩ 8 (by kernel_rfl) (by kernel_rfl) (by kernel_rfl) (by kernel_rfl)) ?_
  intro W base args ds gs before hval0 hW _hcnd hsz0 _
  have hval : ∀ (j : Nat) t v, Try.f6.params[j]? = some t → args[j]? = some v → Value.okWide Try.prog W .any base t v := hval0
  have hsz : (DataW.weightsEach Try.prog (Try.f6.params.toList ++ Rows.weightAddsSpec.plain.varTypes Try.prog) (ds ++ gs)).all (· ≤ reachBytes) = true := hsz0
  have hW' := hW
  obtain ⟨p, q, hA0, hV, rfl, hfz, hnd⟩ := hW
  have hA : DataW.TrodAll enc Try.prog W 0 (fun _ => true) true Try.f6.params.toList args.toList ds p := hA0
  rw [Try.params6] at hA hval hsz
  obtain ⟨v0, vs0, d0, ds0, p0, q0, hargs, rfl, rfl, h0, r0⟩ := trodAll_cons hA
  obtain ⟨v1, vs1, d1, ds1, p1, q1, rfl, rfl, rfl, h1, r1⟩ := trodAll_cons r0
  obtain ⟨v2, vs2, d2, ds2, p2, q2, rfl, rfl, rfl, h2, r2⟩ := trodAll_cons r1
  obtain ⟨rfl, rfl, rfl⟩ := trodAll_nil r2
  obtain rfl : args = #[v0, v1, v2] := by cases args; simp_all
  obtain ⟨rfl, rfl⟩ := trodVars_none hV
  have h0k := h0
  have h1k := h1
  have h2k := h2
  have hlt0 : ∀ x ∈ p0, x.block < W.heap.size := fun x hx => by have := hW'.lt x (by simp [hx]); simpa using this
  have hlt1 : ∀ x ∈ p1, x.block < W.heap.size := fun x hx => by have := hW'.lt x (by simp [hx]); simpa using this
  have hlt2 : ∀ x ∈ p2, x.block < W.heap.size := fun x hx => by have := hW'.lt x (by simp [hx]); simpa using this
  obtain ⟨tA, tn, tc, t, rfl, ht⟩ := open_tree (hval 0 24 v0 rfl rfl) h0 hsz (j := 0) rfl rfl
  obtain ⟨a, aA, an, ac, rfl, ha⟩ := open_Ints Try.underlying25 Try.underlying33 (by kernel_rfl) (by kernel_rfl) (hval 1 25 v1 rfl rfl) h1 hsz (j := 1) rfl rfl
  obtain ⟨b, bA, bn, bc, rfl, hb⟩ := open_Ints Try.underlying25 Try.underlying33 (by kernel_rfl) (by kernel_rfl) (hval 2 25 v2 rfl rfl) h2 hsz (j := 2) rfl rfl
  clear hA0 hval0
  simp only [List.append_nil] at hW'
  refine (WeightAdds_walk tA tn tc t ht aA an ac a ha bA bn bc b hb (w := W)).mono fun e W' ⟨he, hg⟩ => ?_
  subst he
  exact ⟨_, rfl, post_law (pa := p0 ++ (p1 ++ (p2 ++ []))) (pv := []) hW' (fun _ _ _ => (trodAll_cons_mk (shut_bool Try.underlying4 _) trodAll_mk0))
    (trodAll_cons_mk (Below.trod laidOut (by kernel_rfl) (of_decide_eq_true (by kernel_rfl)) h0k hg.out hlt0) (trodAll_cons_mk (Below.trod laidOut (by kernel_rfl) (of_decide_eq_true (by kernel_rfl)) h1k hg.out hlt1) (trodAll_cons_mk (Below.trod laidOut (by kernel_rfl) (of_decide_eq_true (by kernel_rfl)) h2k hg.out hlt2) trodAll_mk0))) rfl (by simp) hg⟩
theorem WeightAdds_holds : Rows.WeightAddsSaid :=
  OpenClaim.holds_of_wide 6 Try.f6 rfl rfl rfl rfl rfl rfl rfl ⟨rfl, rfl, rfl, rfl, rfl⟩ rfl rfl rfl rfl rfl (by kernel_rfl) Try.func6 (by kernel_rfl)
    (of_decide_eq_true (by kernel_rfl)) (by unfold Func.isWrapper; first | (rw [if_pos (by decide +kernel)]; kernel_rfl) | (rw [if_neg (by decide +kernel)]; exact ⟨rfl, rfl⟩))
    (fun os started H enc _ => WeightAdds_lifted os started H enc)
#print axioms WeightAdds_holds
end Go.Proofs.Ytdeeplfbdoapmaa
