/- The document's answer of layer 12: Put, of who voted twice. -/
import Derived.Test.YtnpopepannimiaaVoteRefNew
import Derived.Deep.RegionHeld3
namespace Go.Proofs.Ytnpopepannimiaa
open Go.RowKit Go.WideShapes Go.ChangeShapes
set_option linter.unusedVariables false
set_option linter.unusedSimpArgs false











theorem add_or_bit : ∀ (k m : Nat), m.testBit k = false → m + 2 ^ k = m ||| 2 ^ k := by
  intro k
  induction k with
  | zero =>
    intro m h
    have h0 : m % 2 = 0 := by simp at h; omega
    have e1 : (m ||| 1) / 2 = m / 2 := by rw [Nat.or_div_two]; simp
    have e2 : (m ||| 1) % 2 = 1 := by rw [Nat.or_mod_two_eq_one]; exact .inr rfl
    show m + 1 = m ||| 1
    omega
  | succ k ih =>
    intro m h
    have h1 := ih (m / 2) (by rw [Nat.testBit_div_two]; exact h)
    have e0 : 2 ^ (k + 1) / 2 = 2 ^ k := by rw [Nat.pow_succ]; simp
    have e1 : (m ||| 2 ^ (k + 1)) / 2 = m / 2 + 2 ^ k := by rw [Nat.or_div_two, e0, h1]
    have e3 : 2 ^ (k + 1) = 2 * 2 ^ k := by rw [Nat.pow_succ]; omega
    have e2 : (m ||| 2 ^ (k + 1)) % 2 = m % 2 := by
      rcases Nat.mod_two_eq_zero_or_one m with h0 | h0
      · rw [h0]
        by_cases hx : (m ||| 2 ^ (k + 1)) % 2 = 1
        · rw [Nat.or_mod_two_eq_one] at hx
          omega
        · omega
      · rw [h0, Nat.or_mod_two_eq_one]; exact .inl h0
    omega
set_option maxRecDepth 4000 in
set_option maxHeartbeats 2000000 in
theorem rput_twice (A : Option Addr) (n c : Nat) (out : Nat) (ho : out < 18446744073709551616) (LS : List Lat) (k : Nat) (hk : k < n) (r : List Int) (hr0 : RootOk r) (e : Nat) (he : e < 18446744073709551616) (w : World) (h : VL w A n c LS) (hm : mayV LS out = true) (hc : howV (LS.getD k Lat.none) (out.testBit k) r e = 2) :
    Calls Try.prog 15 #[.agg #[.slice A n c, .int .u64 out], .int .i64 k, .agg (rootC r).toArray, .int .u64 e] w fun e' w' => (∃ A2 c2, e' = .returned (.tuple #[.agg #[.slice A2 n c2, .int .u64 (out ||| 2 ^ k : Nat)], .int .i64 2, .int .i64 0]) ∧ VL w' A2 n c2 (LS.set k Lat.none)) ∧ Ext w w' := by
  have HW := Lib.hid (fun W (kx : Ext w W) => (rwith_any A n c out LS k hk Lat.none Lat.none_ok W (h.ext kx) : Calls Try.prog 25 #[.agg #[.slice A n c, .int .u64 out], .int .i64 k, .agg #[.bool false, .int .u8 0, .int .u8 0, .int .u8 0, .int .u8 0, .int .u8 0, .int .u8 0, .int .u8 0, .int .u8 0, .int .u8 0, .int .u8 0, .int .u8 0, .int .u8 0, .int .u8 0, .int .u8 0, .int .u8 0, .int .u8 0, .int .u8 0, .int .u8 0, .int .u8 0, .int .u8 0, .int .u8 0, .int .u8 0, .int .u8 0, .int .u8 0, .int .u8 0, .int .u8 0, .int .u8 0, .int .u8 0, .int .u8 0, .int .u8 0, .int .u8 0, .int .u8 0, .int .u64 0]] W _))
  have hout := (mayV_iff.1 hm).2.2.1
  have hlb := h.len
  have HM := Lib.hid (fun W (k : Ext w W) => rvmay_any A n c out ho LS W (h.ext k))
  have HV := Lib.hid (fun W (k : Ext w W) => h.ext k)
  have hlen := h.len
  have h8 := (mayV_iff.1 hm).2.1
  rw [hlen] at h8
  rw [hm] at HM
  have g1 : (k : Int) < n := by omega
  obtain ⟨b, off, rfl, hr, hok⟩ := h.at' hk
  generalize LS.getD k Lat.none = x at *
  have hi34 : (Try.prog.info? 34).map (·.size) = some x.cells.length := by rw [Lat.len hok]; kernel_rfl
  have hi32 : (Try.prog.info? 32).map (·.size) = some (rootC x.root).length := by rw [rootC_len hok.1]; kernel_rfl
  have hi32' : (Try.prog.info? 32).map (·.size) = some (rootC r).length := by rw [rootC_len hr0]; kernel_rfl
  cases hb : out.testBit k with
  | true => rw [hb] at hc; unfold howV at hc; simp at hc
  | false =>
    rw [hb] at hc
    unfold howV at hc
    have hor := add_or_bit k out hb
    have h2k : 2 ^ k ≤ 2 ^ 7 := Nat.pow_le_pow_right (by omega) (by omega)
    have hon : out < 2 ^ 8 := Nat.lt_of_lt_of_le hout (Nat.pow_le_pow_right (by omega) (by omega))
    have hwr : IntKind.u64.wrap ((out : Int) + ((2 ^ k : Nat) : Int)) = ((out ||| 2 ^ k : Nat) : Int) := by rw [← hor, IntKind.wrap_u64]; omega
    have HBIT := Lib.hid (fun W => (by have k0 := refBit_any (k : Int) (by omega) (by omega) W; rw [Stake.bitV_nat (by omega)] at k0; exact k0 : Calls Try.prog 26 #[.int .i64 k] W fun e w' => e = .returned (.int .u64 (2 ^ k : Nat)) ∧ w' = W))
    generalize 2 ^ k = P2 at *
    generalize out ||| P2 = OO at *
    cases hh : x.has with
    | false => simp [hh] at hc
    | true =>
      rcases Nat.lt_trichotomy x.epoch e with hlt | heq | hgt
      · exfalso; simp [hh, hlt] at hc
      · have hre : x.root ≠ r := by intro hre; simp [hh, heq, hre] at hc
        have hq := root_eql hok.1 hr0 (b := false) (by simp [hre])
        have g2 : ¬ (e : Int) < x.epoch := by omega
        have g3 : ((x.epoch : Int) == (e : Int)) = true := by simp; omega
        clear hc heq hre hout hlb hor
        have HH := Lib.hid (fun W => (by have k0 := refHas_any out ho (k : Int) (by omega) (by omega) W; rw [Stake.hasV_nat out (by omega), hb] at k0; exact k0 : Calls Try.prog 24 #[.int .u64 out, .int .i64 k] W fun e w' => e = .returned (.bool false) ∧ w' = W))
        clear h hm hlen hb
        go_enter Try.func15, Try.ntmps15
        go_wp2_with fail
        refine (HM.out _ ((by repeat (first | assumption | exact Ext.refl _ | refine Ext.alloc ?_ _ | refine Ext.drew ?_ | refine Ext.drewN ?_ _ | refine Ext.setCell ?_ (by first | (simp; done) | omega | (simp; omega)) _ | refine Ext.trans (by assumption) ?_)))).mono ?_
        rintro e1 w1 ⟨rfl, hx1⟩
        have kk : Ext w w1 := Ext.trans ((by repeat (first | assumption | exact Ext.refl _ | refine Ext.alloc ?_ _ | refine Ext.drew ?_ | refine Ext.drewN ?_ _ | refine Ext.setCell ?_ (by first | (simp; done) | omega | (simp; omega)) _ | refine Ext.trans (by assumption) ?_))) hx1
        have rR := rangeAt_ext (range_at (w := w.alloc (.cells #[.slice (some ⟨b, off, none⟩) n c, .int .u64 out] 28)) (B := w.heap.size + 1) (rootC r) 32 (by simp)) (((Ext.refl _).alloc (.cells #[.slice none 0 0, .int .u64 0] 28)).trans hx1)
        obtain ⟨u0, u1, uf⟩ := hx1.box2 (B := w.heap.size) (a := .slice (some ⟨b, off, none⟩) n c) (b := .int .u64 out) (by first | (simp; done) | (simp (maxDischargeDepth := 7) [go_sem]; done)) (by first | (simp; done) | (simp (maxDischargeDepth := 7) [go_sem]; done)) (by first | (simp; done) | (simp (maxDischargeDepth := 7) [go_sem]; done))
        have ul := lt_of_cell u0
        obtain ⟨v0, v1, vf⟩ := hx1.box2 (B := w.heap.size + 1 + 1) (a := .slice none 0 0) (b := .int .u64 0) (by first | (simp; done) | (simp (maxDischargeDepth := 7) [go_sem]; done)) (by first | (simp; done) | (simp (maxDischargeDepth := 7) [go_sem]; done)) (by first | (simp; done) | (simp (maxDischargeDepth := 7) [go_sem]; done))
        have vl := lt_of_cell v0
        replace hr := rangeAt_ext hr kk
        go_wp2_with fail
        refine (HH.out _).mono ?_
        rintro e2 w2 ⟨rfl, hw2⟩
        obtain rfl : w1 = w2 := hw2.symm
        go_upto_region 8 with (first | ((with_reducible (refine wpList_at38 ?_)); refine wpList_load_mid rfl 34 _ rfl _ _ rfl x.cells _ hr Try.underlying34 rfl hi34 ?_) | (refine wpList_store_mid rfl 34 _ _ rfl _ 0 x.cells.toArray rfl rfl (there_at (by simp) _ (by rw [List.size_toArray, Lat.len hok]; decide)) (by rw [List.size_toArray]; exact hi34) (all_oneCell_toArray (Lat.one x)) ?_; rw [List.toList_toArray, setCells_at (by simp) (by rw [Lat.len hok]; rfl)]))
        have kx : Ext w1 (w1.alloc (.cells x.cells.toArray 34)) := (Ext.refl _).alloc _
        have DX := range_at (w := w1) (B := w1.heap.size) x.cells 34 rfl
        have d0 := DX 0 (.bool x.has) rfl
        have d33 := DX 33 (.int .u64 x.epoch) (Lat.at33 hok)
        have DR := rangeAt_part DX (k := 1) rfl
        simp only [Nat.zero_add] at d0 d33 DR
        replace u0 := kx.cell u0
        replace u1 := kx.cell u1
        replace vf := fun o => (kx.out.frozen (p := ⟨w.heap.size + 1 + 1, o, none⟩) vl).trans (vf o)
        replace v0 := kx.cell v0
        replace v1 := kx.cell v1
        replace ul := lt_of_cell u0
        replace vl := lt_of_cell v0
        replace rR := rangeAt_ext rR kx
        replace kk := kk.trans kx
        clear DX kx hr uf hx1
        try simp only [Act.put, List.setIfInBounds_toArray, List.set_cons_zero, List.set_cons_succ]
        generalize (w1.alloc (.cells x.cells.toArray 34)) = w3 at *
        generalize w1.heap.size = X13 at *
        rw [hh] at d0
        clear hh
        go_upto_if 61 with (first | ((with_reducible (refine wpList_at55 ?_)); refine wpList_load_want (by kernel_rfl) 32 _ rfl _ _ rfl (rootC x.root) _ DR Try.underlying32 rfl hi32 ?_) | ((with_reducible (refine wpList_at56 ?_)); refine wpList_load_want (by kernel_rfl) 32 _ rfl _ _ rfl (rootC r) _ rR Try.underlying32 rfl hi32' ?_))
        go_wp2_with fail
        refine (HW.out _ kk).mono ?_
        rintro e3 w4 ⟨⟨A2, c2, rfl, h2, hf2⟩, hx4⟩
        go_upto_region 12 with fail
        obtain ⟨g4, o4, hA4, hr4, _⟩ := h2.at' (i := 0) (by omega)
        have hlt4 : ∀ ad, A2 = some ad → ad.block < w4.heap.size := fun ad e => by rw [hA4] at e; cases e; exact lt_of_cell (hr4 0 (.bool _) rfl)
        have kd : Ext w4 ((w4.alloc (.cells #[.slice A2 n c2, .int .u64 out] 28)).drew) := ((Ext.refl _).alloc _).drew
        have p0 : ((w4.alloc (.cells #[.slice A2 n c2, .int .u64 out] 28)).drew).cell? ⟨w4.heap.size, 0, none⟩ = some (.slice A2 n c2) := by simp
        have p1 : ((w4.alloc (.cells #[.slice A2 n c2, .int .u64 out] 28)).drew).cell? ⟨w4.heap.size, 1, none⟩ = some (.int .u64 out) := by simp
        have pf : ∀ o, ((w4.alloc (.cells #[.slice A2 n c2, .int .u64 out] 28)).drew).frozen? ⟨w4.heap.size, o, none⟩ = false := fun o => by simp
        have k6 := kk.trans (hx4.trans kd)
        have kx := hx4.trans kd
        replace vf := fun o => (kx.out.frozen (p := ⟨w.heap.size + 1 + 1, o, none⟩) vl).trans (vf o)
        replace v0 := kx.cell v0
        replace v1 := kx.cell v1
        have hz4 := hx4.size
        have HX1 : Hid (w.heap.size ≤ w4.heap.size) := by show _ ≤ _; omega
        have HX2 : Hid (w.heap.size + 1 + 1 ≠ w4.heap.size) := by show _ ≠ _; omega
        have HNA : Hid (∀ ad, A2 = some ad → ad.block ≠ w4.heap.size) := fun ad e => by have := hlt4 ad e; omega
        have HNB : Hid (∀ ad, A2 = some ad → ad.block ≠ w.heap.size + 1 + 1) := fun ad e => by have := hf2 ad e; omega
        have H2 := Lib.hid (h2.ext kd)
        clear hA4 hr4 hlt4 kd kx hz4 h2 hf2 u0 u1 d0 d33 DR rR HW HM HH kk hx4
        refine wp_region_noPanic ?_
        refine wp_region_held_drew (S := fun _ => True) (by kernel_rfl) trivial (fun hHeld => ?_)
        change wpAnyH _ _ _ _ _ 7 (Array.replicate 7 false) _ _
        generalize (w4.alloc (.cells #[.slice A2 n c2, .int .u64 out] 28)).drew = w6 at *
        generalize w4.heap.size = X14 at *
        refine wpAnyH_take (i := 0) (v := Value.pointer (some ⟨X14, 1, none⟩)) rfl (by kernel_rfl) (by kernel_rfl) (by kernel_rfl) (fun _ _ _ h => h) (Or.inl ⟨by rfl, fun _ hSw => by first | (go_simp; done) | (go_simp; with_reducible rfl)⟩) hHeld ?_
        (try simp only [List.getElem_toArray, List.getElem_cons_zero, List.getElem_cons_succ, Act.put, List.setIfInBounds_toArray, List.set_cons_zero, List.set_cons_succ])
        refine wpAnyH_take (i := 2) (v := Value.int .i64 k) rfl (by kernel_rfl) (by kernel_rfl) (by kernel_rfl) (fun _ _ _ h => h) (Or.inl ⟨by rfl, fun _ hSw => by first | (go_simp; done) | (go_simp; with_reducible rfl)⟩) hHeld ?_
        (try simp only [List.getElem_toArray, List.getElem_cons_zero, List.getElem_cons_succ, Act.put, List.setIfInBounds_toArray, List.set_cons_zero, List.set_cons_succ])
        refine wpAnyH_ready (rs := [1, 3]) (by kernel_rfl) (by simp) ?_
        refine AllReadyH.cons rfl (fun K hK => ?_) ?_
        · go_simp
          refine hK.out _ _ trivial (fun hHeld => ?_)
          clear hK K
          (try simp only [List.getElem_toArray, List.getElem_cons_zero, List.getElem_cons_succ, Act.put, List.setIfInBounds_toArray, List.set_cons_zero, List.set_cons_succ])
          refine wpAnyH_ready (rs := [3]) (by kernel_rfl) (by simp) ?_
          refine AllReadyH.cons rfl (fun K hK => ?_) ?_
          · go_simp
            refine (HBIT.out _).mono ?_
            rintro e5 w8 ⟨rfl, hw8⟩
            obtain rfl : w6 = w8 := hw8.symm
            refine hK.out _ _ trivial (fun hHeld => ?_)
            clear hK K
            (try simp only [List.getElem_toArray, List.getElem_cons_zero, List.getElem_cons_succ, Act.put, List.setIfInBounds_toArray, List.set_cons_zero, List.set_cons_succ])
            refine wpAnyH_take (i := 4) (v := Value.int .u64 (OO : Nat)) rfl (by kernel_rfl) (by kernel_rfl) (by kernel_rfl) (fun _ _ _ h => h) (Or.inl ⟨by rfl, fun _ hSw => by first | (go_simp; done) | (go_simp; with_reducible rfl)⟩) hHeld ?_
            (try simp only [List.getElem_toArray, List.getElem_cons_zero, List.getElem_cons_succ, Act.put, List.setIfInBounds_toArray, List.set_cons_zero, List.set_cons_succ])
            refine wpAnyH_take (i := 5) (v := Value.pointer (some ⟨X14, 1, none⟩)) rfl (by kernel_rfl) (by kernel_rfl) (by kernel_rfl) (fun _ _ _ h => h) (Or.inl ⟨by rfl, fun _ hSw => by first | (go_simp; done) | (go_simp; with_reducible rfl)⟩) hHeld ?_
            (try simp only [List.getElem_toArray, List.getElem_cons_zero, List.getElem_cons_succ, Act.put, List.setIfInBounds_toArray, List.set_cons_zero, List.set_cons_succ])
            refine wpAnyH_ready (rs := [6]) (by kernel_rfl) (by simp) ?_
            refine AllReadyH.cons rfl (fun K hK => ?_) ?_
            · go_simp
              refine hK.out _ _ trivial (fun hHeld => ?_)
              clear hK K
              (try simp only [List.getElem_toArray, List.getElem_cons_zero, List.getElem_cons_succ, Act.put, List.setIfInBounds_toArray, List.set_cons_zero, List.set_cons_succ])
              refine wpAnyH_done (by kernel_rfl) ?_ _
              refine NoPanic.normal ?_
              have q0 : (w6.setCell ⟨X14, 1, none⟩ (.int .u64 (OO : Nat))).cell? ⟨X14, 0, none⟩ = some (.slice A2 n c2) := (World.cell?_setCell_other _ _ _ _ (by simp)).trans p0
              have q1 : (w6.setCell ⟨X14, 1, none⟩ (.int .u64 (OO : Nat))).cell? ⟨X14, 1, none⟩ = some (.int .u64 (OO : Nat)) := World.cell?_setCell_same' _ _ _ (by rw [p1]; rfl)
              have z0 : (w6.setCell ⟨X14, 1, none⟩ (.int .u64 (OO : Nat))).cell? ⟨w.heap.size + 1 + 1, 0, none⟩ = some (.slice none 0 0) := (World.cell?_setCell_other _ _ _ _ (fun e => HX2.out (congrArg Addr.block e).symm)).trans v0
              have z1 : (w6.setCell ⟨X14, 1, none⟩ (.int .u64 (OO : Nat))).cell? ⟨w.heap.size + 1 + 1, 1, none⟩ = some (.int .u64 0) := (World.cell?_setCell_other _ _ _ _ (fun e => HX2.out (congrArg Addr.block e).symm)).trans v1
              have zf : ∀ o, (w6.setCell ⟨X14, 1, none⟩ (.int .u64 (OO : Nat))).frozen? ⟨w.heap.size + 1 + 1, o, none⟩ = false := fun o => by rw [World.frozen?_setCell]; exact vf o
              have k7 : Ext w (w6.setCell ⟨X14, 1, none⟩ (.int .u64 (OO : Nat))) := k6.setCell (p := ⟨X14, 1, none⟩) HX1.out _
              have HVL := Lib.hid (H2.out.setCell (p := ⟨X14, 1, none⟩) HNA.out (.int .u64 (OO : Nat)))
              clear p0 p1 pf v0 v1 vf k6 H2 hHeld
              generalize w6.setCell ⟨X14, 1, none⟩ (.int .u64 (OO : Nat)) = w7 at *
              go_wp2
              refine bodyPost_ret (v := .tuple #[.agg #[.slice A2 n c2, .int .u64 (OO : Nat)], .int .i64 2, .int .i64 0]) (by simp (maxDischargeDepth := 7) [results, Try.results15, go_sem, z0, z1]) rfl ⟨⟨_, _, rfl, (HVL.out.setCell (p := ⟨w.heap.size + 1 + 1, 0, none⟩) HNB.out _).setCell (p := ⟨w.heap.size + 1 + 1, 1, none⟩) HNB.out _⟩, ?_⟩
              exact (k7.setCell (by show _ ≤ w.heap.size + 1 + 1; omega) _).setCell (by show _ ≤ w.heap.size + 1 + 1; omega) _
            · exact AllReadyH.nil
          · exact AllReadyH.nil
        refine AllReadyH.cons rfl (fun K hK => ?_) ?_
        · go_simp
          refine (HBIT.out _).mono ?_
          rintro e5 w8 ⟨rfl, hw8⟩
          obtain rfl : w6 = w8 := hw8.symm
          refine hK.out _ _ trivial (fun hHeld => ?_)
          clear hK K
          (try simp only [List.getElem_toArray, List.getElem_cons_zero, List.getElem_cons_succ, Act.put, List.setIfInBounds_toArray, List.set_cons_zero, List.set_cons_succ])
          refine wpAnyH_ready (rs := [1]) (by kernel_rfl) (by simp) ?_
          refine AllReadyH.cons rfl (fun K hK => ?_) ?_
          · go_simp
            refine hK.out _ _ trivial (fun hHeld => ?_)
            clear hK K
            (try simp only [List.getElem_toArray, List.getElem_cons_zero, List.getElem_cons_succ, Act.put, List.setIfInBounds_toArray, List.set_cons_zero, List.set_cons_succ])
            refine wpAnyH_take (i := 4) (v := Value.int .u64 (OO : Nat)) rfl (by kernel_rfl) (by kernel_rfl) (by kernel_rfl) (fun _ _ _ h => h) (Or.inl ⟨by rfl, fun _ hSw => by first | (go_simp; done) | (go_simp; with_reducible rfl)⟩) hHeld ?_
            (try simp only [List.getElem_toArray, List.getElem_cons_zero, List.getElem_cons_succ, Act.put, List.setIfInBounds_toArray, List.set_cons_zero, List.set_cons_succ])
            refine wpAnyH_take (i := 5) (v := Value.pointer (some ⟨X14, 1, none⟩)) rfl (by kernel_rfl) (by kernel_rfl) (by kernel_rfl) (fun _ _ _ h => h) (Or.inl ⟨by rfl, fun _ hSw => by first | (go_simp; done) | (go_simp; with_reducible rfl)⟩) hHeld ?_
            (try simp only [List.getElem_toArray, List.getElem_cons_zero, List.getElem_cons_succ, Act.put, List.setIfInBounds_toArray, List.set_cons_zero, List.set_cons_succ])
            refine wpAnyH_ready (rs := [6]) (by kernel_rfl) (by simp) ?_
            refine AllReadyH.cons rfl (fun K hK => ?_) ?_
            · go_simp
              refine hK.out _ _ trivial (fun hHeld => ?_)
              clear hK K
              (try simp only [List.getElem_toArray, List.getElem_cons_zero, List.getElem_cons_succ, Act.put, List.setIfInBounds_toArray, List.set_cons_zero, List.set_cons_succ])
              refine wpAnyH_done (by kernel_rfl) ?_ _
              refine NoPanic.normal ?_
              have q0 : (w6.setCell ⟨X14, 1, none⟩ (.int .u64 (OO : Nat))).cell? ⟨X14, 0, none⟩ = some (.slice A2 n c2) := (World.cell?_setCell_other _ _ _ _ (by simp)).trans p0
              have q1 : (w6.setCell ⟨X14, 1, none⟩ (.int .u64 (OO : Nat))).cell? ⟨X14, 1, none⟩ = some (.int .u64 (OO : Nat)) := World.cell?_setCell_same' _ _ _ (by rw [p1]; rfl)
              have z0 : (w6.setCell ⟨X14, 1, none⟩ (.int .u64 (OO : Nat))).cell? ⟨w.heap.size + 1 + 1, 0, none⟩ = some (.slice none 0 0) := (World.cell?_setCell_other _ _ _ _ (fun e => HX2.out (congrArg Addr.block e).symm)).trans v0
              have z1 : (w6.setCell ⟨X14, 1, none⟩ (.int .u64 (OO : Nat))).cell? ⟨w.heap.size + 1 + 1, 1, none⟩ = some (.int .u64 0) := (World.cell?_setCell_other _ _ _ _ (fun e => HX2.out (congrArg Addr.block e).symm)).trans v1
              have zf : ∀ o, (w6.setCell ⟨X14, 1, none⟩ (.int .u64 (OO : Nat))).frozen? ⟨w.heap.size + 1 + 1, o, none⟩ = false := fun o => by rw [World.frozen?_setCell]; exact vf o
              have k7 : Ext w (w6.setCell ⟨X14, 1, none⟩ (.int .u64 (OO : Nat))) := k6.setCell (p := ⟨X14, 1, none⟩) HX1.out _
              have HVL := Lib.hid (H2.out.setCell (p := ⟨X14, 1, none⟩) HNA.out (.int .u64 (OO : Nat)))
              clear p0 p1 pf v0 v1 vf k6 H2 hHeld
              generalize w6.setCell ⟨X14, 1, none⟩ (.int .u64 (OO : Nat)) = w7 at *
              go_wp2
              refine bodyPost_ret (v := .tuple #[.agg #[.slice A2 n c2, .int .u64 (OO : Nat)], .int .i64 2, .int .i64 0]) (by simp (maxDischargeDepth := 7) [results, Try.results15, go_sem, z0, z1]) rfl ⟨⟨_, _, rfl, (HVL.out.setCell (p := ⟨w.heap.size + 1 + 1, 0, none⟩) HNB.out _).setCell (p := ⟨w.heap.size + 1 + 1, 1, none⟩) HNB.out _⟩, ?_⟩
              exact (k7.setCell (by show _ ≤ w.heap.size + 1 + 1; omega) _).setCell (by show _ ≤ w.heap.size + 1 + 1; omega) _
            · exact AllReadyH.nil
          · exact AllReadyH.nil
        · exact AllReadyH.nil
      · exfalso; simp [hh, hgt] at hc; omega
theorem howV_four (x : Lat) (b : Bool) (r : List Int) (e : Nat) : howV x b r e = 3 ∨ howV x b r e = 1 ∨ howV x b r e = 0 ∨ howV x b r e = 2 := by
  unfold howV
  split
  · exact .inl rfl
  · split
    · exact .inr (.inr (.inl rfl))
    · split
      · exact .inr (.inl rfl)
      · exact .inr (.inr (.inr rfl))
theorem rput_any (A : Option Addr) (n c : Nat) (out : Nat) (ho : out < 18446744073709551616) (LS : List Lat) (val : Int) (r : List Int) (hr0 : RootOk r) (e : Nat) (he : e < 18446744073709551616) (w : World) (h : VL w A n c LS) :
    Calls Try.prog 15 #[.agg #[.slice A n c, .int .u64 out], .int .i64 val, .agg (rootC r).toArray, .int .u64 e] w fun e' w' => (∃ A2 c2, e' = .returned (.tuple #[.agg #[.slice A2 n c2, .int .u64 (putV LS out val r e).2.1], .int .i64 (putV LS out val r e).2.2.1, .int .i64 (putV LS out val r e).2.2.2]) ∧ VL w' A2 n c2 (putV LS out val r e).1) ∧ Ext w w' := by
  have hl := h.len
  cases hm : mayV LS out with
  | false =>
    have hp : putV LS out val r e = (LS, out, 0, 1) := by unfold putV; rw [if_pos hm]
    rw [hp]
    exact rput_out A n c out ho LS val r hr0 e he w h false hm (.inl rfl)
  | true =>
    by_cases hv : val < 0 ∨ (n : Int) ≤ val
    · have hp : putV LS out val r e = (LS, out, 0, 10) := by unfold putV; rw [if_neg (by rw [hm]; simp), hl, if_pos hv]
      rw [hp]
      exact rput_out A n c out ho LS val r hr0 e he w h true hm (.inr hv)
    · obtain ⟨k, rfl⟩ := Int.eq_ofNat_of_zero_le (show 0 ≤ val by omega)
      have hk : k < n := by omega
      rcases howV_four (LS.getD k Lat.none) (out.testBit k) r e with hq | hq | hq | hq
      · have hp : putV LS out k r e = (LS, out, 0, 0) := by unfold putV; rw [if_neg (by rw [hm]; simp), hl, if_neg hv, Int.toNat_natCast, hq]; simp
        rw [hp]
        exact rput_same A n c out ho LS k hk r hr0 e he w h hm (.inl hq)
      · have hp : putV LS out k r e = (LS, out, 0, 0) := by unfold putV; rw [if_neg (by rw [hm]; simp), hl, if_neg hv, Int.toNat_natCast, hq]; simp
        rw [hp]
        exact rput_same A n c out ho LS k hk r hr0 e he w h hm (.inr hq)
      · have hp : putV LS out k r e = (LS.set k ⟨true, r, e⟩, out, 1, 0) := by unfold putV; rw [if_neg (by rw [hm]; simp), hl, if_neg hv, Int.toNat_natCast, hq]; simp
        rw [hp]
        exact rput_new A n c out ho LS k hk r hr0 e he w h hm hq
      · have hp : putV LS out k r e = (LS.set k Lat.none, out ||| 2 ^ k, 2, 0) := by unfold putV; rw [if_neg (by rw [hm]; simp), hl, if_neg hv, Int.toNat_natCast, hq]; simp
        rw [hp]
        exact rput_twice A n c out ho LS k hk r hr0 e he w h hm hq
end Go.Proofs.Ytnpopepannimiaa
