/- The document's answer of layer 12: Drop. -/
import Derived.Test.YtnpopepannimiaaVoteRef
import Derived.Test.YtnpopepannimiaaQuietX
namespace Go.Proofs.Ytnpopepannimiaa
open Go.RowKit Go.WideShapes Go.ChangeShapes
set_option linter.unusedVariables false
set_option linter.unusedSimpArgs false









/-- The world while votes are dropped. -/
structure RDrop (w W : World) (B n o : Nat) (L : List Lat) (A : Option Addr) (c : Nat) : Prop where
  ext : Ext w W
  vl : VL W A n c L
  b0 : W.cell? ⟨B, 0, none⟩ = some (.slice A n c)
  b1 : W.cell? ⟨B, 1, none⟩ = some (.int .u64 o)
  bf : ∀ j, W.frozen? ⟨B, j, none⟩ = false
  o0 : W.cell? ⟨B + 1, 0, none⟩ = some (.slice none 0 0)
  o1 : W.cell? ⟨B + 1, 1, none⟩ = some (.int .u64 0)
  of : ∀ j, W.frozen? ⟨B + 1, j, none⟩ = false
  ne : ∀ ad, A = some ad → ad.block ≠ B ∧ ad.block ≠ B + 1
theorem RDrop.grow {w W W' : World} {B n o : Nat} {L : List Lat} {A : Option Addr} {c : Nat} (h : RDrop w W B n o L A c) (hx : Ext W W') : RDrop w W' B n o L A c :=
  ⟨h.ext.trans hx, h.vl.ext hx, hx.cell h.b0, hx.cell h.b1, hx.free h.b0 h.bf, hx.cell h.o0, hx.cell h.o1, hx.free h.o0 h.of, h.ne⟩
theorem RDrop.put {w W : World} {B n o : Nat} {L L2 : List Lat} {A A2 : Option Addr} {c c2 : Nat} (h : RDrop w W B n o L A c) (hB : w.heap.size ≤ B) (h2 : VL W A2 n c2 L2) (hne : ∀ ad, A2 = some ad → ad.block ≠ B ∧ ad.block ≠ B + 1) :
    RDrop w ((W.setCell ⟨B, 0, none⟩ (.slice A2 n c2)).setCell ⟨B, 1, none⟩ (.int .u64 o)) B n o L2 A2 c2 := by
  refine ⟨(h.ext.setCell (p := ⟨B, 0, none⟩) hB _).setCell (p := ⟨B, 1, none⟩) hB _, (h2.setCell (p := ⟨B, 0, none⟩) (fun ad e => (hne ad e).1) _).setCell (p := ⟨B, 1, none⟩) (fun ad e => (hne ad e).1) _, ?_, ?_, ?_, ?_, ?_, ?_, hne⟩
  · rw [World.cell?_setCell_other _ _ _ _ (by simp)]
    exact World.cell?_setCell_same' _ _ _ (by rw [h.b0]; rfl)
  · exact World.cell?_setCell_same' _ _ _ (by rw [World.cell?_setCell_other _ _ _ _ (by simp), h.b1]; rfl)
  · intro j; rw [World.frozen?_setCell, World.frozen?_setCell]; exact h.bf j
  · rw [World.cell?_setCell_other _ _ _ _ (by simp), World.cell?_setCell_other _ _ _ _ (by simp)]; exact h.o0
  · rw [World.cell?_setCell_other _ _ _ _ (by simp), World.cell?_setCell_other _ _ _ _ (by simp)]; exact h.o1
  · intro j; rw [World.frozen?_setCell, World.frozen?_setCell]; exact h.of j


set_option maxRecDepth 100000 in
set_option maxHeartbeats 1000000 in
theorem rvdrop_any (A : Option Addr) (n c : Nat) (ot : Nat) (ho : ot < 18446744073709551616) (LS : List Lat) (KA : Option Addr) (kn kc : Nat) (KS : List (List Int)) (w : World) (h : VL w A n c LS) (hK : RL w KA kn kc KS) :
    Calls Try.prog 17 #[.agg #[.slice A n c, .int .u64 ot], .slice KA kn kc] w fun e w' => (∃ A2 c2, e = .returned (.agg #[.slice A2 n c2, .int .u64 ot]) ∧ VL w' A2 n c2 (dropV LS ot KS)) ∧ Ext w w' := by
  have hlen := h.len
  have HM := Lib.hid (fun W (k : Ext w W) => rvmay_any A n c ot ho LS W (h.ext k))
  have HK := Lib.hid (fun W (k : Ext w W) => hK.ext k)
  have HKL := Lib.hid hK.len
  have hkroom := hK.row.room
  have hNE : ∀ ad, A = some ad → 0 < n → ad.block < w.heap.size := fun ad e hn => by
    obtain ⟨b0, o0, e0, hr, hok⟩ := h.at' (i := 0) hn
    rw [e] at e0; cases e0
    exact lt_of_cell (hr 0 (.bool _) rfl)
  have HV0 := Lib.hid (fun W (k : Ext w W) => h.ext k)
  clear hK
  cases hmb : mayV LS ot with
  | false =>
    rw [hmb] at HM
    have HV : Hid (dropV LS ot KS = LS) := by show _ = _; unfold dropV; rw [hmb, if_neg (by simp)]
    clear hmb h hNE
    go_enter Try.func17, Try.ntmps17
    go_wp2_with fail
    refine (HM.out _ ((by repeat (first | assumption | exact Ext.refl _ | refine Ext.alloc ?_ _ | refine Ext.drew ?_ | refine Ext.drewN ?_ _ | refine Ext.setCell ?_ (by first | (simp; done) | omega | (simp; omega)) _ | refine Ext.trans (by assumption) ?_)))).mono ?_
    rintro e w1 ⟨rfl, hx1⟩
    have k1 : Ext w w1 := Ext.trans ((by repeat (first | assumption | exact Ext.refl _ | refine Ext.alloc ?_ _ | refine Ext.drew ?_ | refine Ext.drewN ?_ _ | refine Ext.setCell ?_ (by first | (simp; done) | omega | (simp; omega)) _ | refine Ext.trans (by assumption) ?_))) hx1
    obtain ⟨u0, u1, uf⟩ := hx1.box2 (B := w.heap.size) (a := .slice A n c) (b := .int .u64 ot) (by first | (simp; done) | (simp (maxDischargeDepth := 7) [go_sem]; done)) (by first | (simp; done) | (simp (maxDischargeDepth := 7) [go_sem]; done)) (by first | (simp; done) | (simp (maxDischargeDepth := 7) [go_sem]; done))
    have ul := lt_of_cell u0
    obtain ⟨o0, o1, of⟩ := hx1.box2 (B := w.heap.size + 1) (a := .slice none 0 0) (b := .int .u64 0) (by first | (simp; done) | (simp (maxDischargeDepth := 7) [go_sem]; done)) (by first | (simp; done) | (simp (maxDischargeDepth := 7) [go_sem]; done)) (by first | (simp; done) | (simp (maxDischargeDepth := 7) [go_sem]; done))
    have ol := lt_of_cell o0
    go_wp2
    go_loopw [6, 7, 8] (fun i _ _ wr => i = .int .i64 0 ∧ wr = w1) (fun _ _ _ _ => 0)
    case atStart => exact ⟨rfl, rfl⟩
    case round =>
      obtain ⟨rfl, rfl⟩ := hrel
      have hfin : Ext w (((wr.setCell ⟨w.heap.size + 1, 0, none⟩ (.slice A n c)).setCell ⟨w.heap.size + 1, 1, none⟩ (.int .u64 ot))) := (k1.setCell (by show w.heap.size ≤ w.heap.size + 1; omega) _).setCell (by show w.heap.size ≤ w.heap.size + 1; omega) _
      have HF := Lib.hid hfin
      clear hfin hx1 k1
      by_cases hn0 : 0 < n
      · have g1 : (0 : Int) < n := by omega
        go_wp2
        refine bodyPost_ret (v := .agg #[.slice A n c, .int .u64 ot]) (by simp (maxDischargeDepth := 7) [results, Try.results17, go_sem, o0, o1, of]) rfl ⟨⟨_, _, rfl, by rw [HV.out]; exact HV0.out _ HF.out⟩, HF.out⟩
      · have g1 : ¬ (0 : Int) < n := by omega
        go_wp2
        refine bodyPost_ret (v := .agg #[.slice A n c, .int .u64 ot]) (by simp (maxDischargeDepth := 7) [results, Try.results17, go_sem, o0, o1, of]) rfl ⟨⟨_, _, rfl, by rw [HV.out]; exact HV0.out _ HF.out⟩, HF.out⟩
  | true =>
    rw [hmb] at HM
    have HV : Hid (dropV LS ot KS = LS.map (keepL KS)) := by show _ = _; unfold dropV; rw [if_pos hmb]
    have hmi := mayV_iff.1 hmb
    have hn1 : 0 < n := by omega
    have hn8 : n ≤ 8 := by omega
    have HLL := Lib.hid hlen
    have hNE' := Lib.hid (fun ad e => hNE ad e hn1)
    clear h hmb hmi hNE
    go_enter Try.func17, Try.ntmps17
    go_wp2_with fail
    refine (HM.out _ ((by repeat (first | assumption | exact Ext.refl _ | refine Ext.alloc ?_ _ | refine Ext.drew ?_ | refine Ext.drewN ?_ _ | refine Ext.setCell ?_ (by first | (simp; done) | omega | (simp; omega)) _ | refine Ext.trans (by assumption) ?_)))).mono ?_
    rintro e w1 ⟨rfl, hx1⟩
    have k1 : Ext w w1 := Ext.trans ((by repeat (first | assumption | exact Ext.refl _ | refine Ext.alloc ?_ _ | refine Ext.drew ?_ | refine Ext.drewN ?_ _ | refine Ext.setCell ?_ (by first | (simp; done) | omega | (simp; omega)) _ | refine Ext.trans (by assumption) ?_))) hx1
    obtain ⟨u0, u1, uf⟩ := hx1.box2 (B := w.heap.size) (a := .slice A n c) (b := .int .u64 ot) (by first | (simp; done) | (simp (maxDischargeDepth := 7) [go_sem]; done)) (by first | (simp; done) | (simp (maxDischargeDepth := 7) [go_sem]; done)) (by first | (simp; done) | (simp (maxDischargeDepth := 7) [go_sem]; done))
    have ul := lt_of_cell u0
    obtain ⟨o0, o1, of⟩ := hx1.box2 (B := w.heap.size + 1) (a := .slice none 0 0) (b := .int .u64 0) (by first | (simp; done) | (simp (maxDischargeDepth := 7) [go_sem]; done)) (by first | (simp; done) | (simp (maxDischargeDepth := 7) [go_sem]; done)) (by first | (simp; done) | (simp (maxDischargeDepth := 7) [go_sem]; done))
    have ol := lt_of_cell o0
    go_wp2
    have R : RDrop w w1 w.heap.size n ot (dropL LS KS 0) A c := by
      rw [dropL_zero]
      exact ⟨k1, HV0.out _ k1, u0, u1, uf, o0, o1, of, fun ad e => by have := hNE'.out ad e; omega⟩
    clear HM HV0 hx1 k1 u0 u1 uf ul o0 o1 of ol hNE'
    go_loopw [6, 7, 8] (fun i _ _ wr => ∃ j A' c', j ≤ n ∧ i = .int .i64 (j : Nat) ∧ RDrop w wr w.heap.size n ot (dropL LS KS j) A' c') (fun i _ _ _ => n - (intOf i).toNat)
    case atStart => exact ⟨0, A, c, Nat.zero_le _, rfl, R⟩
    case round =>
      clear R
      obtain ⟨j, A', c', hj, rfl, R⟩ := hrel
      obtain ⟨w2, e2⟩ : ∃ w2, w2 = wr := ⟨_, rfl⟩
      subst e2
      by_cases hlt2 : j < n
      · have hget := dropL_get LS KS (k := j) (by omega)
        obtain ⟨b, off, rfl, hr, hok⟩ := R.vl.at' hlt2
        rw [hget] at hr hok
        have HSU := Lib.hid (dropL_succ LS KS (k := j) (by omega))
        have HKE := Lib.hid (fun hr => dropL_keep LS KS (k := j) (by omega) hr)
        clear hget
        generalize LS.getD j Lat.none = x at *
        have hi34 : (Try.prog.info? 34).map (·.size) = some x.cells.length := by rw [Lat.len hok]; kernel_rfl
        have hi32 : (Try.prog.info? 32).map (·.size) = some (rootC x.root).length := by rw [rootC_len hok.1]; kernel_rfl
        have g1 : (j : Int) < n := by omega
        have u0 := R.b0
        have u1 := R.b1
        have uf := R.bf
        have ul := lt_of_cell u0
        have HR := Lib.hid R
        clear R
        go_wp2
        have E0 : (.bool false : Value) = .bool (decide (x.root ∈ KS.take 0)) := by simp
        go_loopw [7, 8] (fun q i wr => ∃ k : Nat, k ≤ kn ∧ i = .int .i64 k ∧ q = .bool (decide (x.root ∈ KS.take k)) ∧ Ext w2 wr) (fun _ i _ => kn - (intOf i).toNat)
        case atStart => exact ⟨0, Nat.zero_le _, rfl, E0, Ext.refl _⟩
        case round =>
          clear E0
          obtain ⟨k, hk, rfl, rfl, hx4⟩ := hrel
          have RR := HR.out.grow hx4
          have p0 := RR.b0
          have p1 := RR.b1
          have pf := RR.bf
          have pl := lt_of_cell p0
          clear u0 u1 uf ul
          by_cases hlt : k < kn
          · obtain ⟨bk, ok, rfl, ry, hoky⟩ := (HK.out _ RR.ext).at' hlt
            have rx := rangeAt_ext hr hx4
            have hrk := take_next (KS := KS) (k := k) (by rw [HKL.out]; exact hlt)
            generalize KS.getD k zeroR = y at *
            have hiy : (Try.prog.info? 32).map (·.size) = some (rootC y).length := by rw [rootC_len hoky]; kernel_rfl
            have rxr := rangeAt_part rx (k := 1) rfl
            have g2 : (k : Int) < kn := by omega
            clear rx hr RR
            cases hq : decide (x.root ∈ KS.take k) with
            | true =>
              have HN : Hid (decide (x.root ∈ KS.take (k + 1)) = true) := by show _ = _; rw [hrk]; simp at hq; simp [hq]
              clear hrk hq
              go_wp2
              refine wp_region_quiet_lit (by kernel_rfl) (by kernel_rfl) ?_
              repeat (first | go_big_quiet_skip | (go_big_quiet_want; first | ((first | (refine quiet_load_mid 32 _ rfl _ _ rfl (rootC y) _ (fun W ⟨nn, hn⟩ => hn ▸ rangeAt_ext ry ((Ext.refl _).drewN nn)) Try.underlying32 rfl hiy ?_) | (refine quiet_load_mid 32 _ rfl _ _ rfl (rootC x.root) _ (fun W ⟨nn, hn⟩ => hn ▸ rangeAt_ext rxr ((Ext.refl _).drewN nn)) Try.underlying32 rfl hi32 ?_)); (try simp only [Act.put, List.setIfInBounds_toArray, List.set_cons_zero, List.set_cons_succ]); go_big_quiet_on) | (go_big_quiet_op; first | go_big_quiet_on | go_big_quiet_call (fail))))
              refine wpQuiet_nil ?_
              intro _ hw'
              obtain ⟨nq', hw''⟩ := hw'
              subst hw''
              go_wp2
              go_roundw
              case rel =>
                have E' : (.bool true : Value) = .bool (decide (x.root ∈ KS.take (k + 1))) := by rw [HN.out]
                first | exact ⟨k + 1, by omega, by go_num, E', hx4.drewN _⟩ | (refine ⟨_, _, ⟨k + 1, by omega, ?_, E', hx4.drewN _⟩, rfl, rfl⟩; go_num)
              case measure => simp [intOf]; omega
            | false =>
              by_cases hyx : y = x.root
              · have HN : Hid (decide (x.root ∈ KS.take (k + 1)) = true) := by show _ = _; rw [hrk, hyx]; simp
                have he : ∀ W, (binOp .eql 32 (.agg (rootC y).toArray) (.agg (rootC x.root).toArray)).run Try.prog W = .ok (.bool true) W := fun W => root_eql hoky hok.1 (b := true) (by simp [hyx]) W
                clear hrk hq hyx
                go_wp2
                refine wp_region_quiet_lit (by kernel_rfl) (by kernel_rfl) ?_
                repeat (first | go_big_quiet_skip | (go_big_quiet_want; first | ((first | (refine quiet_load_mid 32 _ rfl _ _ rfl (rootC y) _ (fun W ⟨nn, hn⟩ => hn ▸ rangeAt_ext ry ((Ext.refl _).drewN nn)) Try.underlying32 rfl hiy ?_) | (refine quiet_load_mid 32 _ rfl _ _ rfl (rootC x.root) _ (fun W ⟨nn, hn⟩ => hn ▸ rangeAt_ext rxr ((Ext.refl _).drewN nn)) Try.underlying32 rfl hi32 ?_)); (try simp only [Act.put, List.setIfInBounds_toArray, List.set_cons_zero, List.set_cons_succ]); go_big_quiet_on) | (go_big_quiet_op; first | go_big_quiet_on | go_big_quiet_call (fail))))
                refine wpQuiet_nil ?_
                intro _ hw'
                obtain ⟨nq', hw''⟩ := hw'
                subst hw''
                go_wp2
                go_roundw
                case rel =>
                  have E' : (.bool true : Value) = .bool (decide (x.root ∈ KS.take (k + 1))) := by rw [HN.out]
                  first | exact ⟨k + 1, by omega, by go_num, E', hx4.drewN _⟩ | (refine ⟨_, _, ⟨k + 1, by omega, ?_, E', hx4.drewN _⟩, rfl, rfl⟩; go_num)
                case measure => simp [intOf]; omega
              · have HN : Hid (decide (x.root ∈ KS.take (k + 1)) = false) := by show _ = _; rw [hrk]; simp at hq; simp [hq]; exact fun e => hyx e.symm
                have he : ∀ W, (binOp .eql 32 (.agg (rootC y).toArray) (.agg (rootC x.root).toArray)).run Try.prog W = .ok (.bool false) W := fun W => root_eql hoky hok.1 (b := false) (by simp [hyx]) W
                clear hrk hq hyx
                go_wp2
                refine wp_region_quiet_lit (by kernel_rfl) (by kernel_rfl) ?_
                repeat (first | go_big_quiet_skip | (go_big_quiet_want; first | ((first | (refine quiet_load_mid 32 _ rfl _ _ rfl (rootC y) _ (fun W ⟨nn, hn⟩ => hn ▸ rangeAt_ext ry ((Ext.refl _).drewN nn)) Try.underlying32 rfl hiy ?_) | (refine quiet_load_mid 32 _ rfl _ _ rfl (rootC x.root) _ (fun W ⟨nn, hn⟩ => hn ▸ rangeAt_ext rxr ((Ext.refl _).drewN nn)) Try.underlying32 rfl hi32 ?_)); (try simp only [Act.put, List.setIfInBounds_toArray, List.set_cons_zero, List.set_cons_succ]); go_big_quiet_on) | (go_big_quiet_op; first | go_big_quiet_on | go_big_quiet_call (fail))))
                refine wpQuiet_nil ?_
                intro _ hw'
                obtain ⟨nq', hw''⟩ := hw'
                subst hw''
                go_wp2
                go_roundw
                case rel =>
                  have E' : (.bool false : Value) = .bool (decide (x.root ∈ KS.take (k + 1))) := by rw [HN.out]
                  first | exact ⟨k + 1, by omega, by go_num, E', hx4.drewN _⟩ | (refine ⟨_, _, ⟨k + 1, by omega, ?_, E', hx4.drewN _⟩, rfl, rfl⟩; go_num)
                case measure => simp [intOf]; omega
          · have e : k = kn := by omega
            subst e
            rw [show KS.take k = KS by rw [List.take_of_length_le (by rw [HKL.out]; omega)]]
            by_cases hm : x.root ∈ KS
            · rw [decide_eq_true hm]
              have R' : Hid (RDrop w wr w.heap.size n ot (dropL LS KS (j + 1)) (some ⟨b, off, none⟩) c') := Lib.hid (by rw [HKE.out hm]; exact RR)
              clear HR RR hr hm
              go_wp2
              go_roundw
              case rel =>
                first | exact ⟨j + 1, _, _, by omega, by go_num, R'.out⟩ | (refine ⟨_, _, _, ⟨j + 1, _, _, by omega, ?_, R'.out⟩, rfl, rfl, rfl⟩; go_num)
              case measure => simp [intOf]; omega
            · rw [decide_eq_false hm]
              have hke : keepL KS x = Lat.none := by unfold keepL; rw [if_neg hm]
              rw [hke] at HSU
              have HW := Lib.hid (fun W (k0 : Ext wr W) => (rwith_any (some ⟨b, off, none⟩) n c' ot (dropL LS KS j) j hlt2 Lat.none Lat.none_ok W (RR.vl.ext k0) : Calls Try.prog 25 #[.agg #[.slice (some ⟨b, off, none⟩) n c', .int .u64 ot], .int .i64 j, .agg #[.bool false, .int .u8 0, .int .u8 0, .int .u8 0, .int .u8 0, .int .u8 0, .int .u8 0, .int .u8 0, .int .u8 0, .int .u8 0, .int .u8 0, .int .u8 0, .int .u8 0, .int .u8 0, .int .u8 0, .int .u8 0, .int .u8 0, .int .u8 0, .int .u8 0, .int .u8 0, .int .u8 0, .int .u8 0, .int .u8 0, .int .u8 0, .int .u8 0, .int .u8 0, .int .u8 0, .int .u8 0, .int .u8 0, .int .u8 0, .int .u8 0, .int .u8 0, .int .u8 0, .int .u64 0]] W _))
              have HRR := Lib.hid RR
              clear HR RR hr hm hke
              go_wp2_with fail
              refine (HW.out _ ((by repeat (first | assumption | exact Ext.refl _ | refine Ext.alloc ?_ _ | refine Ext.drew ?_ | refine Ext.drewN ?_ _ | refine Ext.setCell ?_ (by first | (simp; done) | omega | (simp; omega)) _ | refine Ext.trans (by assumption) ?_)))).mono ?_
              rintro e w5 ⟨⟨A2, c2, rfl, h2, hf2⟩, hx5⟩
              have k5 : Ext wr w5 := Ext.trans ((by repeat (first | assumption | exact Ext.refl _ | refine Ext.alloc ?_ _ | refine Ext.drew ?_ | refine Ext.drewN ?_ _ | refine Ext.setCell ?_ (by first | (simp; done) | omega | (simp; omega)) _ | refine Ext.trans (by assumption) ?_))) hx5
              have RR := HRR.out.grow k5
              have R' : Hid (RDrop w ((w5.setCell ⟨w.heap.size, 0, none⟩ (.slice A2 n c2)).setCell ⟨w.heap.size, 1, none⟩ (.int .u64 ot)) w.heap.size n ot (dropL LS KS (j + 1)) A2 c2) := by
                refine Lib.hid (RR.put (Nat.le_refl _) (by rw [HSU.out]; exact h2) (fun ad e => ?_))
                have := hf2 ad e
                have := lt_of_cell HRR.out.o0
                simp at *
                omega
              have q0 := RR.b0
              have q1 := RR.b1
              have qf := RR.bf
              have ql := lt_of_cell q0
              clear HW HRR RR p0 p1 pf pl h2 hf2 hx5 k5
              go_wp2
              go_roundw
              case rel =>
                first | exact ⟨j + 1, _, _, by omega, by go_num, R'.out⟩ | (refine ⟨_, _, _, ⟨j + 1, _, _, by omega, ?_, R'.out⟩, rfl, rfl, rfl⟩; go_num)
              case measure => simp [intOf]; omega
      · have e : j = n := by omega
        subst e
        have ed : dropL LS KS j = LS.map (keepL KS) := by have := dropL_all LS KS; rwa [HLL.out] at this
        rw [ed] at R
        have hu0 := R.b0
        have hu1 := R.b1
        have huf := R.bf
        have ho0 := R.o0
        have ho1 := R.o1
        have hof := R.of
        have hol := lt_of_cell ho0
        have hul := lt_of_cell hu0
        have HR := Lib.hid R
        clear R
        go_wp2
        refine bodyPost_ret (v := .agg #[.slice A' j c', .int .u64 ot]) (by simp (maxDischargeDepth := 7) [results, Try.results17, go_sem, ho0, ho1, hof]) rfl ⟨⟨_, _, rfl, ?_⟩, ?_⟩
        · rw [HV.out]
          exact (HR.out.vl.setCell (fun ad e => (HR.out.ne ad e).2) _).setCell (fun ad e => (HR.out.ne ad e).2) _
        · exact (HR.out.ext.setCell (by show w.heap.size ≤ w.heap.size + 1; omega) _).setCell (by show w.heap.size ≤ w.heap.size + 1; omega) _
end Go.Proofs.Ytnpopepannimiaa
